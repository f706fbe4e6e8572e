import Derived.Test.YthgohaidfaldnaaMPG
/-! Auto, plain: the reference's Wrong; Small; New; Like. -/
set_option linter.all false
set_option maxRecDepth 10000
namespace Go.E
open Go Go.Proofs Go.Eng
theorem ref_L3_2 {p : TProto} (sm : Sm p) : loopO (m_ref09_Wrong_L3 p 2) 0 = some (match fst p.f2.length (unfitK p) with | some i => .inr (2, (i : Int)) | none => .inl ()) := by
  have hb := sm.b
  rw [show ((0 : Int)) = ((0 : Nat) : Int) from rfl, loopO_first (b := m_ref09_Wrong_L3 p 2) (fun i : Nat => (i : Int)) p.f2.length (unfitK p) (fun i => (2, (i : Int))) () ?_ ?_]
  · rfl
  · intro k hk _
    unfold m_ref09_Wrong_L3 unfitK
    simp only [lt_cast, decide_eq_true hk, ifB_true, gi_of hk, some_bind', fit_ref (sm.c k hk), List.getElem?_eq_getElem hk, show decide ((2 : Int) = 2) = true from rfl, show decide ((2 : Int) = 3) = false from rfl, show decide ((2 : Int) = 4) = false from rfl, ifB_false]
    rw [wrap_succ (by omega)]
    show Option.bind (ifB (!fitS p p.f2[k]) _ _) _ = _
    cases fitS p p.f2[k] <;> rfl
  · intro _
    unfold m_ref09_Wrong_L3
    simp only [lt_cast, Nat.lt_irrefl, decide_false, ifB_false]
theorem ref_L3_3 {p : TProto} (sm : Sm p) : loopO (m_ref09_Wrong_L3 p 3) 0 = some (match fst p.f2.length (againK p) with | some i => .inr (3, (i : Int)) | none => .inl ()) := by
  have hb := sm.b
  rw [show ((0 : Int)) = ((0 : Nat) : Int) from rfl, loopO_first (b := m_ref09_Wrong_L3 p 3) (fun i : Nat => (i : Int)) p.f2.length (againK p) (fun i => (3, (i : Int))) () ?_ ?_]
  · rfl
  · intro k hk _
    unfold m_ref09_Wrong_L3 againK
    simp only [lt_cast, decide_eq_true hk, ifB_true, gi_of hk, some_bind', again_ref hk hb (sm.c k hk), List.getElem?_eq_getElem hk, show decide ((3 : Int) = 2) = false from rfl, show decide ((3 : Int) = 3) = true from rfl, show decide ((3 : Int) = 4) = false from rfl, ifB_false]
    rw [wrap_succ (by omega)]
    cases againM p p.f2[k] k <;> rfl
  · intro _
    unfold m_ref09_Wrong_L3
    simp only [lt_cast, Nat.lt_irrefl, decide_false, ifB_false]
theorem ref_L3_4 {p : TProto} (sm : Sm p) (hf : Fits p) : loopO (m_ref09_Wrong_L3 p 4) 0 = some (match fst p.f2.length (endK p) with | some i => .inr (4, (i : Int)) | none => .inl ()) := by
  have hb := sm.b
  rw [show ((0 : Int)) = ((0 : Nat) : Int) from rfl, loopO_first (b := m_ref09_Wrong_L3 p 4) (fun i : Nat => (i : Int)) p.f2.length (endK p) (fun i => (4, (i : Int))) () ?_ ?_]
  · rfl
  · intro k hk _
    obtain ⟨⟨i, hi, hin⟩, _⟩ := hf k p.f2[k] (List.getElem?_eq_getElem hk)
    unfold m_ref09_Wrong_L3 endK
    simp only [lt_cast, decide_eq_true hk, ifB_true, gi_of hk, some_bind', List.getElem?_eq_getElem hk, show decide ((4 : Int) = 2) = false from rfl, show decide ((4 : Int) = 3) = false from rfl, show decide ((4 : Int) = 4) = true from rfl, ifB_false, hi, gi_of hin, Int.toNat_natCast, finB, List.getElem?_eq_getElem hin]
    rw [wrap_succ (by omega)]
    cases (p.f1[i]).f1 <;> rfl
  · intro _
    unfold m_ref09_Wrong_L3
    simp only [lt_cast, Nat.lt_irrefl, decide_false, ifB_false]
theorem ref_L0 {p : TProto} (sm : Sm p) : loopO (m_ref09_Wrong_L0 p) 0 = some (match fst p.f1.length (dup p.f1.length (nmS p)) with | some i => .inr (1, (i : Int)) | none => .inl ()) := by
  have ha := sm.a
  rw [show ((0 : Int)) = ((0 : Nat) : Int) from rfl, loopO_first (b := m_ref09_Wrong_L0 p) (fun i : Nat => (i : Int)) p.f1.length (dup p.f1.length (nmS p)) (fun i => (1, (i : Int))) () ?_ ?_]
  · rfl
  · intro i hi _
    unfold m_ref09_Wrong_L0
    simp only [lt_cast, decide_eq_true hi, ifB_true]
    rw [show ((0 : Int)) = ((0 : Nat) : Int) from rfl, loopO_first (b := m_ref09_Wrong_L1 (i : Int) p) (fun i : Nat => (i : Int)) i (fun k => decide (nmS p k = nmS p i)) (fun _ => (1, (i : Int))) () ?_ ?_]
    · unfold dup
      rw [wrap_succ (by omega)]
      cases fst i (fun k => decide (nmS p k = nmS p i)) <;> rfl
    · intro k hk _
      have hk' : k < p.f1.length := by omega
      unfold m_ref09_Wrong_L1
      simp only [lt_cast, decide_eq_true hk, ifB_true, gi_of hi, gi_of hk', some_bind', nmS, List.getElem?_eq_getElem hi, List.getElem?_eq_getElem hk']
      rw [wrap_succ (by omega), show decide ((p.f1[i]).f0 = (p.f1[k]).f0) = decide ((p.f1[k]).f0 = (p.f1[i]).f0) from decide_eq_decide.2 ⟨Eq.symm, Eq.symm⟩]
      cases decide ((p.f1[k]).f0 = (p.f1[i]).f0) <;> rfl
    · intro _
      unfold m_ref09_Wrong_L1
      simp only [lt_cast, Nat.lt_irrefl, decide_false, ifB_false]
  · intro _
    unfold m_ref09_Wrong_L0
    simp only [lt_cast, Nat.lt_irrefl, decide_false, ifB_false]
theorem ref_L4 {p : TProto} (sm : Sm p) (hf : Fits p) (hn : p.f1.length ≤ 16) : loopO (m_ref09_Wrong_L4 p) 0 = some (match fst p.f1.length (fun i => !reachB p i) with | some i => .inr (5, (i : Int)) | none => .inl ()) := by
  rw [show ((0 : Int)) = ((0 : Nat) : Int) from rfl, loopO_first (b := m_ref09_Wrong_L4 p) (fun i : Nat => (i : Int)) p.f1.length (fun i => !reachB p i) (fun i => (5, (i : Int))) () ?_ ?_]
  · rfl
  · intro i hi _
    unfold m_ref09_Wrong_L4
    simp only [lt_cast, decide_eq_true hi, ifB_true, Ends_ref hf hn sm hi, some_bind']
    rw [wrap_succ (by omega)]
    cases reachB p i <;> rfl
  · intro _
    unfold m_ref09_Wrong_L4
    simp only [lt_cast, Nat.lt_irrefl, decide_false, ifB_false]
theorem wrong_ref {p : TProto} (sm : Sm p) : m_ref09_Wrong p = some (W p) := by
  unfold m_ref09_Wrong W
  by_cases hc : p.f1.length < 1 ∨ 16 < p.f1.length
  · rw [if_pos hc]
    by_cases h1 : p.f1.length < 1
    · rw [decide_eq_true (show (p.f1.length : Int) < 1 by omega)]; rfl
    · rw [decide_eq_false (show ¬ (p.f1.length : Int) < 1 by omega), decide_eq_true (show 16 < (p.f1.length : Int) by omega)]; rfl
  · rw [if_neg hc, decide_eq_false (show ¬ (p.f1.length : Int) < 1 by omega), decide_eq_false (show ¬ 16 < (p.f1.length : Int) by omega)]
    simp only [ifB_false, some_bind']
    rw [ref_L0 sm]
    cases hd : fst p.f1.length (dup p.f1.length (nmS p)) with
    | some i => rfl
    | none =>
      simp only [some_bind']
      have e : loopO (m_ref09_Wrong_L2 p) 2 = some (match fst p.f2.length (unfitK p) with | some i => .inr (2, (i : Int)) | none => match fst p.f2.length (againK p) with | some i => .inr (3, (i : Int)) | none => match fst p.f2.length (endK p) with | some i => .inr (4, (i : Int)) | none => .inl ()) := by
        cases hu : fst p.f2.length (unfitK p) with
        | some i => exact loopO_inr (by unfold m_ref09_Wrong_L2; dsimp only; rw [ref_L3_2 sm, hu]; rfl)
        | none =>
          rw [loopO_inl (s' := 3) (by unfold m_ref09_Wrong_L2; dsimp only; rw [ref_L3_2 sm, hu]; rfl)]
          cases hg : fst p.f2.length (againK p) with
          | some i => exact loopO_inr (by unfold m_ref09_Wrong_L2; dsimp only; rw [ref_L3_3 sm, hg]; rfl)
          | none =>
            rw [loopO_inl (s' := 4) (by unfold m_ref09_Wrong_L2; dsimp only; rw [ref_L3_3 sm, hg]; rfl)]
            cases he : fst p.f2.length (endK p) with
            | some i => exact loopO_inr (by unfold m_ref09_Wrong_L2; dsimp only; rw [ref_L3_4 sm (fits_of hu), he]; rfl)
            | none =>
              rw [loopO_inl (s' := 5) (by unfold m_ref09_Wrong_L2; dsimp only; rw [ref_L3_4 sm (fits_of hu), he]; rfl)]
              exact loopO_inr rfl
      rw [e]
      cases hu : fst p.f2.length (unfitK p) with
      | some i => rfl
      | none =>
        cases hg : fst p.f2.length (againK p) with
        | some i => rfl
        | none =>
          cases he : fst p.f2.length (endK p) with
          | some i => rfl
          | none =>
            simp only [some_bind']
            rw [ref_L4 sm (fits_of hu) (by omega)]
            cases fst p.f1.length (fun i => !reachB p i) <;> rfl
end Go.E
