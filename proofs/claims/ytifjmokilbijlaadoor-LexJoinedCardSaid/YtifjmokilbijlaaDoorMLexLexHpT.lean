import Derived.Test.YtifjmokilbijlaaDoorMLexLexBlT
import Derived.Test.YtifjmokilbijlaaDoorShelfS
import Derived.Test.YtifjmokilbijlaaDoorMLexLexPT
namespace Go.Proofs.YtifjmokilbijlaaDoor.PLex
open Go Go.RowKit Go.Proofs.YtifjmokilbijlaaDoorW.PrintWords Go.Proofs.YtifjmokilbijlaaDoorW.PrintLast Go.Proofs.YtifjmokilbijlaaDoorW.PrintMore BallLex
attribute [local go_sem] max2_int min2_int max_two min_two max_three min_three max_four min_four
set_option linter.unusedVariables false
set_option linter.unusedSimpArgs false
theorem pre_in (s p : ByteArray) (hl : p.size ≤ s.size) (hp : p.size ≤ 1000) (hs : s.size ≤ 1000000) (w : World) :
    Calls Tryd.prog 99 #[.string s, .string p] w fun e w' => e = .returned (.bool ((s.extract 0 p.size).toList == p.toList)) ∧ w' = w := by
  have dn : decide ((p.size : Int) ≤ (s.size : Int)) = true := decide_eq_true (by omega)
  have q0 := eq_true (show (p.size : Int) ≤ (s.size : Int) by omega)
  have q1 := eq_true (show 0 ≤ (p.size : Int) by omega)
  have q2 := eq_true (show p.size ≤ s.size by omega)
  clear hl hp hs
  go_enter Tryd.func99, Tryd.ntmps99
  go_wp2_with (fail)
  go_ret
  exact ⟨rfl, rfl⟩
theorem pre_out (s p : ByteArray) (hl : ¬ p.size ≤ s.size) (hp : p.size ≤ 1000) (hs : s.size ≤ 1000000) (w : World) :
    Calls Tryd.prog 99 #[.string s, .string p] w fun e w' => e = .returned (.bool false) ∧ w' = w := by
  have dn : decide ((p.size : Int) ≤ (s.size : Int)) = false := decide_eq_false (by omega)
  have q2 := eq_false hl
  clear hl hp hs
  go_enter Tryd.func99, Tryd.ntmps99
  go_wp2_with (fail)
  go_ret
  exact ⟨rfl, rfl⟩
theorem pre_c (s p : ByteArray) (hp : p.size ≤ 1000) (hs : s.size ≤ 1000000) (w : World) :
    Calls Tryd.prog 79 #[.string s, .string p] w fun e w' => e = .returned (.bool (decide (p.size ≤ s.size) && (s.extract 0 p.size).toList == p.toList)) ∧ w' = w := by
  by_cases hl : p.size ≤ s.size
  · have HC := Aside0.mk (pre_in s p hl hp hs)
    rw [decide_eq_true hl, Bool.true_and]
    clear hl hp hs
    go_enter Tryd.func79, Tryd.ntmps79
    go_wp2_with (fail)
    refine (HC.out _).mono ?_
    rintro e W1 ⟨rfl, rfl⟩
    go_wp2_with (fail)
    go_ret
    exact ⟨rfl, rfl⟩
  · have HC := Aside0.mk (pre_out s p hl hp hs)
    rw [decide_eq_false hl, Bool.false_and]
    clear hl hp hs
    go_enter Tryd.func79, Tryd.ntmps79
    go_wp2_with (fail)
    refine (HC.out _).mono ?_
    rintro e W1 ⟨rfl, rfl⟩
    go_wp2_with (fail)
    go_ret
    exact ⟨rfl, rfl⟩
end Go.Proofs.YtifjmokilbijlaaDoor.PLex
