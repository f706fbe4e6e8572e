import Derived.Test.YthgohaidfaldnaaMPJ
set_option linter.all false
namespace Go.E
open Go Go.Proofs Go.Eng
theorem P_AutoWrong (a0 : TProto) (h : okTProto a0) : m_law09_AutoWrong a0 = some true := by
  obtain ⟨b, hb, hs⟩ := small_ref h
  unfold m_law09_AutoWrong
  rw [awake_tt]
  simp only [some_bind', Bool.not_true, ifB_false, hb]
  cases b with
  | false => rfl
  | true =>
    have sm := hs rfl
    simp only [Bool.not_true, ifB_false, wrong_auto sm, wrong_ref sm, new_auto sm, some_bind', decide_true, ifB_true]
    by_cases h0 : (W a0).1 = 0
    · rw [if_pos h0, decide_eq_true h0]
      unfold m_auto_Auto_Proto
      simp only [some_bind', clone_eq sm, like_self sm]
      rfl
    · rw [if_neg h0, decide_eq_false h0]
      rfl
end Go.E
