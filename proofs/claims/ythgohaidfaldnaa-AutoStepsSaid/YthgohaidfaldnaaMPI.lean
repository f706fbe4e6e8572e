import Derived.Test.YthgohaidfaldnaaMPH
/-! Auto, plain: Small; New; Like; awake. -/
set_option linter.all false
set_option maxRecDepth 10000
namespace Go.E
open Go Go.Proofs Go.Eng
theorem clone_out {l : List TOut} (h : l.length ≤ 80) : m_slices_Clone_api_Out l = some l := by
  unfold m_slices_Clone_api_Out; rw [rq_true (decide_eq_true (by omega))]; rfl
theorem clone_eq {p : TProto} (sm : Sm p) : m_auto_clone p = some p := by
  have ha := sm.a
  have hb := sm.b
  unfold m_auto_clone m_slices_Clone_api_State m_slices_Clone_api_Move
  rw [rq_true (decide_eq_true (show p.f1.length ≤ 1000000 by omega)), rq_true (decide_eq_true (show p.f2.length ≤ 1000000 by omega))]
  simp only [some_bind']
  have key : ∃ r, loopO (m_auto_clone_L0 p.f2) (0, p.f2) = some r ∧ r = p.f2 := by
    refine loopO_count p.f2.length (fun i st => st.1 = (i : Int) ∧ st.2 = p.f2) _ ?_ ?_ ⟨rfl, rfl⟩
    · rintro i ⟨v, w⟩ hi ⟨rfl, rfl⟩
      left
      unfold m_auto_clone_L0
      simp only [lt_cast, decide_eq_true hi, ifB_true, gi_of hi, some_bind', clone_out (sm.c i hi)]
      rw [rq_true (decide_eq_true (by omega)), wrap_succ (by omega)]
      simp only [some_bind', rq, Int.toNat_natCast]
      exact ⟨_, rfl, rfl, by show p.f2.set i p.f2[i] = p.f2; exact List.set_getElem_self hi⟩
    · rintro ⟨v, w⟩ ⟨rfl, rfl⟩
      unfold m_auto_clone_L0
      simp only [lt_cast, Nat.lt_irrefl, decide_false, ifB_false]
      exact ⟨_, rfl, rfl⟩
  obtain ⟨r, hr, rfl⟩ := key
  rw [hr]
  rfl
theorem new_auto {p : TProto} (sm : Sm p) : m_auto_New p = some (if (W p).1 = 0 then (some ⟨p⟩, 0) else (none, 2)) := by
  unfold m_auto_New
  rw [wrong_auto sm]
  simp only [some_bind']
  by_cases h : (W p).1 = 0
  · rw [decide_eq_true h, if_pos h]
    simp only [Bool.not_true, ifB_false, clone_eq sm, some_bind']
  · rw [decide_eq_false h, if_neg h]; rfl
theorem same_self {l : List TOut} (h : l.length ≤ 80) : m_ref09_Same l l = some true := by
  unfold m_ref09_Same
  rw [decide_eq_true rfl]
  simp only [Bool.not_true, ifB_false]
  rw [show ((0 : Int)) = ((0 : Nat) : Int) from rfl, loopO_first (b := m_ref09_Same_L0 l l) (fun i : Nat => (i : Int)) l.length (fun _ => false) (fun _ => false) () ?_ ?_]
  · rw [show fst l.length (fun _ => false) = none from fst_none.2 fun _ _ => rfl]; rfl
  · intro i hi _
    unfold m_ref09_Same_L0
    simp only [lt_cast, decide_eq_true hi, ifB_true, gi_of hi, some_bind']
    rw [wrap_succ (by omega), show eqTOut l[i] l[i] = true from by simp [eqTOut]]
    rfl
  · intro _
    unfold m_ref09_Same_L0
    simp only [lt_cast, Nat.lt_irrefl, decide_false, ifB_false]
theorem like_self {p : TProto} (sm : Sm p) : m_ref09_Like p p = some true := by
  have ha := sm.a
  have hb := sm.b
  unfold m_ref09_Like
  rw [decide_eq_true rfl, decide_eq_true rfl, decide_eq_true rfl]
  simp only [Bool.not_true, ifB_false, some_bind']
  rw [show ((0 : Int)) = ((0 : Nat) : Int) from rfl, loopO_first (b := m_ref09_Like_L0 p p) (fun i : Nat => (i : Int)) p.f1.length (fun _ => false) (fun _ => false) () ?_ ?_]
  · rw [show fst p.f1.length (fun _ => false) = none from fst_none.2 fun _ _ => rfl]
    simp only [some_bind']
    rw [loopO_first (b := m_ref09_Like_L1 p p) (fun i : Nat => (i : Int)) p.f2.length (fun _ => false) (fun _ => false) () ?_ ?_]
    · rw [show fst p.f2.length (fun _ => false) = none from fst_none.2 fun _ _ => rfl]; rfl
    · intro i hi _
      unfold m_ref09_Like_L1
      simp only [lt_cast, decide_eq_true hi, ifB_true, gi_of hi, some_bind', same_self (sm.c i hi)]
      rw [wrap_succ (by omega)]
      simp [ifB]
    · intro _
      unfold m_ref09_Like_L1
      simp only [lt_cast, Nat.lt_irrefl, decide_false, ifB_false]
  · intro i hi _
    unfold m_ref09_Like_L0
    simp only [lt_cast, decide_eq_true hi, ifB_true, gi_of hi, some_bind']
    rw [wrap_succ (by omega), show eqTState p.f1[i] p.f1[i] = true from by simp [eqTState]]
    rfl
  · intro _
    unfold m_ref09_Like_L0
    simp only [lt_cast, Nat.lt_irrefl, decide_false, ifB_false]
theorem small_ref {p : TProto} (h : okTProto p) : ∃ b, m_ref09_Small p = some b ∧ (b = true → Sm p) := by
  obtain ⟨_, ⟨h1, _⟩, ⟨h2, h3⟩, _⟩ := h
  have key : ∃ r, loopO (m_ref09_Small_L0 p) (IntKind.wrap .i64 ((p.f1.length : Int) + (p.f2.length : Int)), 0) = some r ∧ (r ≤ 80 → Sm p) := by
    refine loopO_count p.f2.length (fun i st => st.2 = (i : Int) ∧ ∃ c : Nat, st.1 = (c : Int) ∧ p.f1.length + p.f2.length ≤ c ∧ ∀ (j : Nat) (hj : j < p.f2.length), j < i → (p.f2[j]).f2.length ≤ c) _ ?_ ?_
      ⟨rfl, p.f1.length + p.f2.length, by rw [wrap_i64 (by omega) (by omega)]; simp, Nat.le_refl _, fun j _ hj => absurd hj (Nat.not_lt_zero _)⟩
    · rintro i ⟨v, w⟩ hi ⟨rfl, c, rfl, hc, hj⟩
      unfold m_ref09_Small_L0
      simp only [lt_cast, decide_eq_true hi, ifB_true, some_bind']
      by_cases h80 : (c : Int) ≤ 80
      · left
        have h4 := (h3 p.f2[i] (List.getElem_mem hi)).2.2.1.1
        rw [decide_eq_true h80]
        simp only [ifB_true, gi_of hi, some_bind']
        rw [wrap_succ (by omega), wrap_i64 (by omega) (by omega)]
        refine ⟨_, rfl, rfl, c + (p.f2[i]).f2.length, by simp, by omega, fun j hjl hji => ?_⟩
        by_cases e : j = i
        · subst e; omega
        · have := hj j hjl (by omega); omega
      · right
        rw [decide_eq_false h80]
        exact ⟨_, rfl, fun h => absurd h h80⟩
    · rintro ⟨v, w⟩ ⟨rfl, c, rfl, hc, hj⟩
      unfold m_ref09_Small_L0
      simp only [lt_cast, Nat.lt_irrefl, decide_false, ifB_false, some_bind']
      refine ⟨_, rfl, fun h => ⟨by omega, by omega, fun i hi => ?_⟩⟩
      have := hj i hi hi
      omega
  obtain ⟨r, hr, hq⟩ := key
  refine ⟨decide (r ≤ 80), ?_, fun h => hq (of_decide_eq_true h)⟩
  unfold m_ref09_Small
  rw [hr]
  rfl
end Go.E
