import Derived.Test.YthgohaidfaldnaaMPF
/-! Auto, plain: Wrong, twice told. -/
set_option linter.all false
set_option maxRecDepth 10000
namespace Go.E
open Go Go.Proofs Go.Eng
def fitS (p : TProto) (m : TMove) : Bool := match fst m.f2.length (badOut p m) with | some _ => false | none => inB p m.f1 && decide (0 < (m.f2.length : Int))
def unfitK (p : TProto) (k : Nat) : Bool := match p.f2[k]? with | some m => !fitS p m | none => false
def againK (p : TProto) (k : Nat) : Bool := match p.f2[k]? with | some m => againM p m k | none => false
def endK (p : TProto) (k : Nat) : Bool := match p.f2[k]? with | some m => finB p m.f1.toNat | none => false
noncomputable def W (p : TProto) : Int × Int :=
  if p.f1.length < 1 ∨ 16 < p.f1.length then (1, 0) else
  match fst p.f1.length (dup p.f1.length (nmS p)) with
  | some i => (1, (i : Int))
  | none => match fst p.f2.length (unfitK p) with
    | some i => (2, (i : Int))
    | none => match fst p.f2.length (againK p) with
      | some i => (3, (i : Int))
      | none => match fst p.f2.length (endK p) with
        | some i => (4, (i : Int))
        | none => match fst p.f1.length (fun i => !reachB p i) with
          | some i => (5, (i : Int))
          | none => (0, 0)
theorem inB_nat {p : TProto} {x : Int} (h : inB p x = true) : ∃ i : Nat, x = (i : Int) ∧ i < p.f1.length := by
  unfold inB at h
  rw [Bool.and_eq_true] at h
  have h1 := of_decide_eq_true h.1
  have h2 := of_decide_eq_true h.2
  exact ⟨x.toNat, by omega, by omega⟩
theorem fits_of {p : TProto} (h : fst p.f2.length (unfitK p) = none) : Fits p := by
  rw [fst_none] at h
  intro k m hm
  have hk := (List.getElem?_eq_some_iff.1 hm).1
  have h1 := h k hk
  unfold unfitK at h1
  rw [hm] at h1
  have h2 : fitS p m = true := by simpa using h1
  unfold fitS at h2
  cases hq : fst m.f2.length (badOut p m) with
  | some i => rw [hq] at h2; cases h2
  | none =>
    rw [hq, Bool.and_eq_true] at h2
    refine ⟨inB_nat h2.1, fun l o ho => ?_⟩
    rw [fst_none] at hq
    obtain ⟨hl, he⟩ := List.getElem?_eq_some_iff.1 ho
    have h3 := hq l hl
    rw [badOut_of hl, he] at h3
    exact inB_nat (by simpa using h3)
theorem wrong_auto {p : TProto} (sm : Sm p) : m_auto_Wrong p = some (W p) := by
  have hb := sm.b
  unfold m_auto_Wrong W
  rw [states_auto sm.a]
  simp only [some_bind']
  by_cases hc : p.f1.length < 1 ∨ 16 < p.f1.length
  · rw [if_pos hc, if_pos hc]; rfl
  · rw [if_neg hc, if_neg hc]
    have hn : p.f1.length ≤ 16 := by omega
    cases hd : fst p.f1.length (dup p.f1.length (nmS p)) with
    | some i =>
      dsimp only
      rw [decide_eq_true (show (0 : Int) ≤ (i : Int) from Int.natCast_nonneg i), ifB_true]
    | none =>
      dsimp only
      rw [decide_eq_false (show ¬ (0 : Int) ≤ -1 by decide), ifB_false]
      rw [show ((0 : Int)) = ((0 : Nat) : Int) from rfl, loopO_first (b := m_auto_Wrong_L0 p) (fun i : Nat => (i : Int)) p.f2.length (unfitK p) (fun i => (2, (i : Int))) () ?_ ?_]
      · cases hu : fst p.f2.length (unfitK p) with
        | some i => rfl
        | none =>
          have hf := fits_of hu
          simp only [some_bind']
          rw [loopO_first (b := m_auto_Wrong_L1 p) (fun i : Nat => (i : Int)) p.f2.length (againK p) (fun i => (3, (i : Int))) () ?_ ?_]
          · cases hg : fst p.f2.length (againK p) with
            | some i => rfl
            | none =>
              simp only [some_bind']
              rw [loopO_first (b := m_auto_Wrong_L2 p) (fun i : Nat => (i : Int)) p.f2.length (endK p) (fun i => (4, (i : Int))) () ?_ ?_]
              · cases he : fst p.f2.length (endK p) with
                | some i => rfl
                | none =>
                  simp only [some_bind']
                  obtain ⟨s, hs, hlt, hbit⟩ := ends_auto hf hn sm
                  rw [hs]
                  simp only [some_bind']
                  rw [loopO_first (b := m_auto_Wrong_L3 p (s : Int)) (fun i : Nat => (i : Int)) p.f1.length (fun i => !reachB p i) (fun i => (5, (i : Int))) () ?_ ?_]
                  · cases fst p.f1.length (fun i => !reachB p i) <;> rfl
                  · intro i hi _
                    unfold m_auto_Wrong_L3
                    simp only [lt_cast, decide_eq_true hi, ifB_true]
                    rw [rq_true (decide_eq_true (by omega)), wrap_succ (by omega), and_bit hlt (by omega)]
                    simp only [some_bind']
                    cases hr : s.testBit i with
                    | true => rw [reachB_tt ((hbit i).1 hr)]; rfl
                    | false => rw [reachB_ff (fun h => by rw [(hbit i).2 h] at hr; cases hr)]; rfl
                  · intro _
                    unfold m_auto_Wrong_L3
                    simp only [lt_cast, Nat.lt_irrefl, decide_false, ifB_false]
              · intro k hk _
                obtain ⟨⟨i, hi, hin⟩, _⟩ := hf k p.f2[k] (List.getElem?_eq_getElem hk)
                unfold m_auto_Wrong_L2 endK
                simp only [lt_cast, decide_eq_true hk, ifB_true, gi_of hk, some_bind', hi, gi_of hin, List.getElem?_eq_getElem hk, Int.toNat_natCast, finB, List.getElem?_eq_getElem hin]
                rw [wrap_succ (by omega)]
                cases (p.f1[i]).f1 <;> rfl
              · intro _
                unfold m_auto_Wrong_L2
                simp only [lt_cast, Nat.lt_irrefl, decide_false, ifB_false]
          · intro k hk _
            unfold m_auto_Wrong_L1 againK
            simp only [lt_cast, decide_eq_true hk, ifB_true, once_auto hk hb (sm.c k hk), some_bind', List.getElem?_eq_getElem hk]
            rw [wrap_succ (by omega)]
            cases againM p p.f2[k] k <;> rfl
          · intro _
            unfold m_auto_Wrong_L1
            simp only [lt_cast, Nat.lt_irrefl, decide_false, ifB_false]
      · intro k hk _
        unfold m_auto_Wrong_L0 unfitK
        simp only [lt_cast, decide_eq_true hk, ifB_true, gi_of hk, some_bind', move_auto (sm.c k hk), fit_ref (sm.c k hk), List.getElem?_eq_getElem hk]
        rw [wrap_succ (by omega)]
        show ifB (!fitS p p.f2[k]) _ _ = _
        cases fitS p p.f2[k] <;> rfl
      · intro _
        unfold m_auto_Wrong_L0
        simp only [lt_cast, Nat.lt_irrefl, decide_false, ifB_false]
end Go.E
