import Derived.Test.YthgohaidfaldnaaMPE
/-! Auto, plain: the reference's search, whole. -/
set_option linter.all false
set_option maxRecDepth 10000
namespace Go.E
open Go Go.Proofs Go.Eng
open Classical in
noncomputable def reachB (p : TProto) (i : Nat) : Bool := decide (Reach p i)
theorem reachB_tt {p : TProto} {i : Nat} (h : Reach p i) : reachB p i = true := @decide_eq_true _ (Classical.propDecidable _) h
theorem reachB_ff {p : TProto} {i : Nat} (h : ¬ Reach p i) : reachB p i = false := @decide_eq_false _ (Classical.propDecidable _) h
theorem cst_get {S : List Nat} {a x : Nat} (h : S[a]? = some x) : gi (cst S) (a : Int) = some (x : Int) := by
  rw [gi_nat]; simp [h]
theorem Ends_L2 {p : TProto} (hf : Fits p) (hn : p.f1.length ≤ 16) (sm : Sm p) {a0 x a : Nat} {S T : List Nat} (hx : S[a]? = some x) (h : FI p a0 S T fun a' _ _ => a' < a) :
    ∃ r, loopO (m_ref09_Ends_L2 p (cst S) (a : Int)) (cst T, 0) = some r ∧ ((∃ T', r = .inl (cst T') ∧ FI p a0 S T' fun a' _ _ => a' < a + 1) ∨ (r = .inr true ∧ Reach p a0)) := by
  have hb := sm.b
  refine loopO_count p.f2.length (fun k st => st.2 = (k : Int) ∧ ∃ T', st.1 = cst T' ∧ FI p a0 S T' fun a' k' _ => a' < a ∨ (a' = a ∧ k' < k)) _ ?_ ?_ ⟨rfl, T, rfl, h.weak fun a' k' l' hd _ _ _ _ => .inr (by omega)⟩
  · rintro k ⟨v, w⟩ hk ⟨rfl, T', rfl, hi⟩
    have hm := List.getElem?_eq_getElem hk
    unfold m_ref09_Ends_L2
    simp only [lt_cast, decide_eq_true hk, ifB_true, gi_of hk, some_bind', cst_get hx]
    rw [wrap_succ (by omega)]
    by_cases e : (p.f2[k]).f1 = (x : Int)
    · rw [decide_eq_true e]
      simp only [Bool.not_true, ifB_false]
      obtain ⟨r, hr, ⟨T2, rfl, h2⟩ | ⟨rfl, h2⟩⟩ := Ends_L3 hf hn hm (sm.c k hk) hx e hi
      · left
        rw [hr]
        exact ⟨_, rfl, rfl, T2, rfl, h2⟩
      · right
        rw [hr]
        exact ⟨_, rfl, .inr ⟨rfl, h2⟩⟩
    · rw [decide_eq_false e]
      left
      refine ⟨_, rfl, rfl, T', rfl, hi.weak fun a' k' l' hd i j hs he => ?_⟩
      right
      by_cases e2 : a' = a ∧ k' = k
      · obtain ⟨rfl, rfl⟩ := e2
        rw [hx] at hs; cases hs
        obtain ⟨m', o', h1, _, h3, _⟩ := he
        rw [hm] at h1; cases h1
        exact absurd h3 e
      · omega
  · rintro ⟨v, w⟩ ⟨rfl, T', rfl, hi⟩
    unfold m_ref09_Ends_L2
    simp only [lt_cast, Nat.lt_irrefl, decide_false, ifB_false]
    refine ⟨_, rfl, .inl ⟨T', rfl, hi.weak fun a' k' l' hd i j hs he => ?_⟩⟩
    right
    obtain ⟨m', o', h1, _⟩ := he
    have := (List.getElem?_eq_some_iff.1 h1).1
    omega
theorem Ends_L1 {p : TProto} (hf : Fits p) (hn : p.f1.length ≤ 16) (sm : Sm p) {a0 : Nat} {S : List Nat} (h : FI p a0 S S fun _ _ _ => False) :
    ∃ r, loopO (m_ref09_Ends_L1 (cst S) p) (cst S, 0) = some r ∧ ((∃ T', r = .inl (cst T') ∧ FI p a0 S T' fun _ _ _ => True) ∨ (r = .inr true ∧ Reach p a0)) := by
  have hl := h.len hn
  have hcl : (cst S).length = S.length := by simp
  refine loopO_count S.length (fun a st => st.2 = (a : Int) ∧ ∃ T', st.1 = cst T' ∧ FI p a0 S T' fun a' _ _ => a' < a) _ ?_ ?_ ⟨rfl, S, rfl, h.weak fun a' k' l' hd _ _ _ _ => .inr (by omega)⟩
  · rintro a ⟨v, w⟩ ha ⟨rfl, T', rfl, hi⟩
    unfold m_ref09_Ends_L1
    simp only [hcl, lt_cast, decide_eq_true ha, ifB_true]
    rw [wrap_succ (by omega)]
    obtain ⟨r, hr, ⟨T2, rfl, h2⟩ | ⟨rfl, h2⟩⟩ := Ends_L2 hf hn sm (List.getElem?_eq_getElem ha) hi
    · left
      rw [hr]
      exact ⟨_, rfl, rfl, T2, rfl, h2⟩
    · right
      rw [hr]
      exact ⟨_, rfl, .inr ⟨rfl, h2⟩⟩
  · rintro ⟨v, w⟩ ⟨rfl, T', rfl, hi⟩
    unfold m_ref09_Ends_L1
    simp only [hcl, lt_cast, Nat.lt_irrefl, decide_false, ifB_false]
    refine ⟨_, rfl, .inl ⟨T', rfl, hi.weak fun a' k' l' hd i j hs he => ?_⟩⟩
    right
    exact (List.getElem?_eq_some_iff.1 hs).1
/-- A row that no outcome leads out of, and that holds no final state: nothing in it reaches. -/
theorem stuck_of {p : TProto} {S : List Nat} (hf : Fits p) (hnf : ∀ x ∈ S, finB p x = false) (hc : ∀ i j k l, i ∈ S → Edge p k l i j → j ∈ S) {i : Nat} (hr : Reach p i) : i ∉ S := by
  induction hr with
  | fin h => intro hi; rw [hnf _ hi] at h; cases h
  | step he _ ih => intro hi; exact ih (hc _ _ _ _ hi he)
theorem Ends_ref {p : TProto} (hf : Fits p) (hn : p.f1.length ≤ 16) (sm : Sm p) {i : Nat} (hi : i < p.f1.length) : m_ref09_Ends p (i : Int) (p.f1.length : Int) = some (reachB p i) := by
  unfold m_ref09_Ends
  rw [gi_of hi]
  simp only [some_bind']
  have hfi : finB p i = (p.f1[i]).f1 := by unfold finB; rw [List.getElem?_eq_getElem hi]
  cases hq : (p.f1[i]).f1 with
  | true =>
    rw [ifB_true]
    rw [reachB_tt (Reach.fin (by rw [hfi, hq]))]
  | false =>
    rw [ifB_false, decide_eq_false (by omega), ifB_false]
    have key : ∃ r, loopO (m_ref09_Ends_L0 (p.f1.length : Int) p) ([(i : Int)], 0) = some r ∧ ((r = .inl () ∧ ¬ Reach p i) ∨ (r = .inr true ∧ Reach p i)) := by
      refine loopO_count p.f1.length (fun k st => st.2 = (k : Int) ∧ ∃ S, st.1 = cst S ∧ i ∈ S ∧ FI p i S S (fun _ _ _ => False) ∧ (k + 1 ≤ S.length ∨ ¬ Reach p i)) _ ?_ ?_
        ⟨rfl, [i], rfl, by simp, ⟨by simp, fun x hx => by rw [List.mem_singleton.1 hx]; exact hi, fun x hx => by rw [List.mem_singleton.1 hx, hfi, hq], fun x hx h => by rw [List.mem_singleton.1 hx] at h; exact h, ⟨[], by simp⟩, fun _ _ _ h => h.elim⟩, .inl (by simp)⟩
      · rintro k ⟨v, w⟩ hk ⟨rfl, S, rfl, hiS, hS, hor⟩
        unfold m_ref09_Ends_L0
        simp only [lt_cast, decide_eq_true hk, ifB_true]
        rw [wrap_succ (by omega)]
        obtain ⟨r, hr, ⟨T, rfl, h2⟩ | ⟨rfl, h2⟩⟩ := Ends_L1 hf hn sm hS
        · left
          rw [hr]
          obtain ⟨U, hU⟩ := h2.pre
          have hdone : ∀ i j k l, i ∈ S → Edge p k l i j → j ∈ T := fun i j k l hi he => by
            obtain ⟨a, ha, hae⟩ := List.getElem_of_mem hi
            exact h2.done a k l trivial i j (by rw [List.getElem?_eq_getElem ha, hae]) he
          refine ⟨_, rfl, rfl, T, rfl, by rw [hU]; exact List.mem_append_left _ hiS, ⟨h2.nd, h2.rg, h2.nf, h2.back, ⟨[], by simp⟩, fun _ _ _ h => h.elim⟩, ?_⟩
          cases U with
          | nil =>
            rw [List.append_nil] at hU
            right
            rw [hU] at hdone
            exact fun hr => stuck_of hf (by rw [← hU]; exact h2.nf) hdone hr hiS
          | cons u us =>
            rcases hor with ho | ho
            · left
              rw [hU, List.length_append, List.length_cons]
              omega
            · exact .inr ho
        · right
          rw [hr]
          exact ⟨_, rfl, .inr ⟨rfl, h2⟩⟩
      · rintro ⟨v, w⟩ ⟨rfl, S, rfl, hiS, hS, hor⟩
        unfold m_ref09_Ends_L0
        simp only [lt_cast, Nat.lt_irrefl, decide_false, ifB_false]
        refine ⟨_, rfl, .inl ⟨rfl, ?_⟩⟩
        rcases hor with ho | ho
        · have := pigeon _ S hS.nd hS.rg
          omega
        · exact ho
    obtain ⟨r, hr, ⟨rfl, h2⟩ | ⟨rfl, h2⟩⟩ := key
    · rw [hr]
      rw [reachB_ff h2]; rfl
    · rw [hr]
      rw [reachB_tt h2]; rfl
end Go.E
