import Derived.Test.YtifjmokilbijlaaDoorMLexLexRunT
namespace Go.Proofs.YtifjmokilbijlaaDoor.PLex
open Go Go.RowKit Go.Proofs.YtifjmokilbijlaaDoorW.PrintWords Go.Proofs.YtifjmokilbijlaaDoorW.PrintLast Go.Proofs.YtifjmokilbijlaaDoorW.PrintMore BallLex
attribute [local go_sem] max2_int min2_int max_two min_two max_three min_three max_four min_four
set_option linter.unusedVariables false
set_option linter.unusedSimpArgs false
def word (c : Nat) : Bool := letter c || digit c
set_option maxHeartbeats 4000000 in
theorem tells_letter : Tells 37 letter := by
  refine ⟨_, Tryd.func37, by kernel_rfl, rfl, fun c W hc => ?_⟩
  have hcase : c < 65 ∨ (65 ≤ c ∧ c ≤ 90) ∨ (91 ≤ c ∧ c ≤ 94) ∨ c = 95 ∨ c = 96 ∨ (97 ≤ c ∧ c ≤ 122) ∨ 122 < c := by omega
  rcases hcase with h | h | h | h | h | h | h
  · have e : letter c = false := by
      rw [Bool.eq_false_iff]
      simp only [ne_eq, letter, Bool.or_eq_true, Bool.and_eq_true, Bool.not_eq_true', decide_eq_true_eq, beq_iff_eq, beq_eq_false_iff_ne]
      omega
    rw [e]
    have d0 : decide (97 ≤ (c : Int)) = false := decide_eq_false (by omega)
    have d1 : decide ((c : Int) ≤ 122) = true := decide_eq_true (by omega)
    have d2 : decide (65 ≤ (c : Int)) = false := decide_eq_false (by omega)
    have d3 : decide ((c : Int) ≤ 90) = true := decide_eq_true (by omega)
    have q0 : ((c : Int) == 95) = false := by simp; omega
    have r0 : ((c : Int) != 95) = true := by simp; omega
    clear e h hc
    go_enter Tryd.func37, Tryd.ntmps37
    go_wp2
    go_ret
    exact ⟨rfl, by (repeat (first | exact Drawn0.refl _ | apply Drawn0.step))⟩
  · have e : letter c = true := by
      simp only [letter, Bool.or_eq_true, Bool.and_eq_true, Bool.not_eq_true', decide_eq_true_eq, beq_iff_eq, beq_eq_false_iff_ne]
      omega
    rw [e]
    have d0 : decide (97 ≤ (c : Int)) = false := decide_eq_false (by omega)
    have d1 : decide ((c : Int) ≤ 122) = true := decide_eq_true (by omega)
    have d2 : decide (65 ≤ (c : Int)) = true := decide_eq_true (by omega)
    have d3 : decide ((c : Int) ≤ 90) = true := decide_eq_true (by omega)
    have q0 : ((c : Int) == 95) = false := by simp; omega
    have r0 : ((c : Int) != 95) = true := by simp; omega
    clear e h hc
    go_enter Tryd.func37, Tryd.ntmps37
    go_wp2
    go_ret
    exact ⟨rfl, by (repeat (first | exact Drawn0.refl _ | apply Drawn0.step))⟩
  · have e : letter c = false := by
      rw [Bool.eq_false_iff]
      simp only [ne_eq, letter, Bool.or_eq_true, Bool.and_eq_true, Bool.not_eq_true', decide_eq_true_eq, beq_iff_eq, beq_eq_false_iff_ne]
      omega
    rw [e]
    have d0 : decide (97 ≤ (c : Int)) = false := decide_eq_false (by omega)
    have d1 : decide ((c : Int) ≤ 122) = true := decide_eq_true (by omega)
    have d2 : decide (65 ≤ (c : Int)) = true := decide_eq_true (by omega)
    have d3 : decide ((c : Int) ≤ 90) = false := decide_eq_false (by omega)
    have q0 : ((c : Int) == 95) = false := by simp; omega
    have r0 : ((c : Int) != 95) = true := by simp; omega
    clear e h hc
    go_enter Tryd.func37, Tryd.ntmps37
    go_wp2
    go_ret
    exact ⟨rfl, by (repeat (first | exact Drawn0.refl _ | apply Drawn0.step))⟩
  · have e : letter c = true := by
      simp only [letter, Bool.or_eq_true, Bool.and_eq_true, Bool.not_eq_true', decide_eq_true_eq, beq_iff_eq, beq_eq_false_iff_ne]
      omega
    rw [e]
    have d0 : decide (97 ≤ (c : Int)) = false := decide_eq_false (by omega)
    have d1 : decide ((c : Int) ≤ 122) = true := decide_eq_true (by omega)
    have d2 : decide (65 ≤ (c : Int)) = true := decide_eq_true (by omega)
    have d3 : decide ((c : Int) ≤ 90) = false := decide_eq_false (by omega)
    have q0 : ((c : Int) == 95) = true := by simp; omega
    have r0 : ((c : Int) != 95) = false := by simp; omega
    clear e h hc
    go_enter Tryd.func37, Tryd.ntmps37
    go_wp2
    go_ret
    exact ⟨rfl, by (repeat (first | exact Drawn0.refl _ | apply Drawn0.step))⟩
  · have e : letter c = false := by
      rw [Bool.eq_false_iff]
      simp only [ne_eq, letter, Bool.or_eq_true, Bool.and_eq_true, Bool.not_eq_true', decide_eq_true_eq, beq_iff_eq, beq_eq_false_iff_ne]
      omega
    rw [e]
    have d0 : decide (97 ≤ (c : Int)) = false := decide_eq_false (by omega)
    have d1 : decide ((c : Int) ≤ 122) = true := decide_eq_true (by omega)
    have d2 : decide (65 ≤ (c : Int)) = true := decide_eq_true (by omega)
    have d3 : decide ((c : Int) ≤ 90) = false := decide_eq_false (by omega)
    have q0 : ((c : Int) == 95) = false := by simp; omega
    have r0 : ((c : Int) != 95) = true := by simp; omega
    clear e h hc
    go_enter Tryd.func37, Tryd.ntmps37
    go_wp2
    go_ret
    exact ⟨rfl, by (repeat (first | exact Drawn0.refl _ | apply Drawn0.step))⟩
  · have e : letter c = true := by
      simp only [letter, Bool.or_eq_true, Bool.and_eq_true, Bool.not_eq_true', decide_eq_true_eq, beq_iff_eq, beq_eq_false_iff_ne]
      omega
    rw [e]
    have d0 : decide (97 ≤ (c : Int)) = true := decide_eq_true (by omega)
    have d1 : decide ((c : Int) ≤ 122) = true := decide_eq_true (by omega)
    have d2 : decide (65 ≤ (c : Int)) = true := decide_eq_true (by omega)
    have d3 : decide ((c : Int) ≤ 90) = false := decide_eq_false (by omega)
    have q0 : ((c : Int) == 95) = false := by simp; omega
    have r0 : ((c : Int) != 95) = true := by simp; omega
    clear e h hc
    go_enter Tryd.func37, Tryd.ntmps37
    go_wp2
    go_ret
    exact ⟨rfl, by (repeat (first | exact Drawn0.refl _ | apply Drawn0.step))⟩
  · have e : letter c = false := by
      rw [Bool.eq_false_iff]
      simp only [ne_eq, letter, Bool.or_eq_true, Bool.and_eq_true, Bool.not_eq_true', decide_eq_true_eq, beq_iff_eq, beq_eq_false_iff_ne]
      omega
    rw [e]
    have d0 : decide (97 ≤ (c : Int)) = true := decide_eq_true (by omega)
    have d1 : decide ((c : Int) ≤ 122) = false := decide_eq_false (by omega)
    have d2 : decide (65 ≤ (c : Int)) = true := decide_eq_true (by omega)
    have d3 : decide ((c : Int) ≤ 90) = false := decide_eq_false (by omega)
    have q0 : ((c : Int) == 95) = false := by simp; omega
    have r0 : ((c : Int) != 95) = true := by simp; omega
    clear e h hc
    go_enter Tryd.func37, Tryd.ntmps37
    go_wp2
    go_ret
    exact ⟨rfl, by (repeat (first | exact Drawn0.refl _ | apply Drawn0.step))⟩
set_option maxHeartbeats 4000000 in
theorem tells_digit : Tells 40 digit := by
  refine ⟨_, Tryd.func40, by kernel_rfl, rfl, fun c W hc => ?_⟩
  have hcase : c < 48 ∨ (48 ≤ c ∧ c ≤ 57) ∨ 57 < c := by omega
  rcases hcase with h | h | h
  · have e : digit c = false := by
      rw [Bool.eq_false_iff]
      simp only [ne_eq, digit, Bool.or_eq_true, Bool.and_eq_true, Bool.not_eq_true', decide_eq_true_eq, beq_iff_eq, beq_eq_false_iff_ne]
      omega
    rw [e]
    have d0 : decide (48 ≤ (c : Int)) = false := decide_eq_false (by omega)
    have d1 : decide ((c : Int) ≤ 57) = true := decide_eq_true (by omega)
    clear e h hc
    go_enter Tryd.func40, Tryd.ntmps40
    go_wp2
    go_ret
    exact ⟨rfl, by (repeat (first | exact Drawn0.refl _ | apply Drawn0.step))⟩
  · have e : digit c = true := by
      simp only [digit, Bool.or_eq_true, Bool.and_eq_true, Bool.not_eq_true', decide_eq_true_eq, beq_iff_eq, beq_eq_false_iff_ne]
      omega
    rw [e]
    have d0 : decide (48 ≤ (c : Int)) = true := decide_eq_true (by omega)
    have d1 : decide ((c : Int) ≤ 57) = true := decide_eq_true (by omega)
    clear e h hc
    go_enter Tryd.func40, Tryd.ntmps40
    go_wp2
    go_ret
    exact ⟨rfl, by (repeat (first | exact Drawn0.refl _ | apply Drawn0.step))⟩
  · have e : digit c = false := by
      rw [Bool.eq_false_iff]
      simp only [ne_eq, digit, Bool.or_eq_true, Bool.and_eq_true, Bool.not_eq_true', decide_eq_true_eq, beq_iff_eq, beq_eq_false_iff_ne]
      omega
    rw [e]
    have d0 : decide (48 ≤ (c : Int)) = true := decide_eq_true (by omega)
    have d1 : decide ((c : Int) ≤ 57) = false := decide_eq_false (by omega)
    clear e h hc
    go_enter Tryd.func40, Tryd.ntmps40
    go_wp2
    go_ret
    exact ⟨rfl, by (repeat (first | exact Drawn0.refl _ | apply Drawn0.step))⟩
set_option maxHeartbeats 4000000 in
theorem tells_word : Tells 57 word := by
  refine ⟨_, Tryd.func57, by kernel_rfl, rfl, fun c W hc => ?_⟩
  have hcase : c < 48 ∨ (48 ≤ c ∧ c ≤ 57) ∨ (58 ≤ c ∧ c ≤ 64) ∨ (65 ≤ c ∧ c ≤ 90) ∨ (91 ≤ c ∧ c ≤ 94) ∨ c = 95 ∨ c = 96 ∨ (97 ≤ c ∧ c ≤ 122) ∨ 122 < c := by omega
  rcases hcase with h | h | h | h | h | h | h | h | h
  · have e : word c = false := by
      rw [Bool.eq_false_iff]
      simp only [ne_eq, word, letter, digit, Bool.or_eq_true, Bool.and_eq_true, Bool.not_eq_true', decide_eq_true_eq, beq_iff_eq, beq_eq_false_iff_ne]
      omega
    rw [e]
    have d0 : decide (97 ≤ (c : Int)) = false := decide_eq_false (by omega)
    have d1 : decide ((c : Int) ≤ 122) = true := decide_eq_true (by omega)
    have d2 : decide (65 ≤ (c : Int)) = false := decide_eq_false (by omega)
    have d3 : decide ((c : Int) ≤ 90) = true := decide_eq_true (by omega)
    have d4 : decide (48 ≤ (c : Int)) = false := decide_eq_false (by omega)
    have d5 : decide ((c : Int) ≤ 57) = true := decide_eq_true (by omega)
    have q0 : ((c : Int) == 95) = false := by simp; omega
    have r0 : ((c : Int) != 95) = true := by simp; omega
    clear e h hc
    go_enter Tryd.func57, Tryd.ntmps57
    go_wp2
    go_ret
    exact ⟨rfl, by (repeat (first | exact Drawn0.refl _ | apply Drawn0.step))⟩
  · have e : word c = true := by
      simp only [word, letter, digit, Bool.or_eq_true, Bool.and_eq_true, Bool.not_eq_true', decide_eq_true_eq, beq_iff_eq, beq_eq_false_iff_ne]
      omega
    rw [e]
    have d0 : decide (97 ≤ (c : Int)) = false := decide_eq_false (by omega)
    have d1 : decide ((c : Int) ≤ 122) = true := decide_eq_true (by omega)
    have d2 : decide (65 ≤ (c : Int)) = false := decide_eq_false (by omega)
    have d3 : decide ((c : Int) ≤ 90) = true := decide_eq_true (by omega)
    have d4 : decide (48 ≤ (c : Int)) = true := decide_eq_true (by omega)
    have d5 : decide ((c : Int) ≤ 57) = true := decide_eq_true (by omega)
    have q0 : ((c : Int) == 95) = false := by simp; omega
    have r0 : ((c : Int) != 95) = true := by simp; omega
    clear e h hc
    go_enter Tryd.func57, Tryd.ntmps57
    go_wp2
    go_ret
    exact ⟨rfl, by (repeat (first | exact Drawn0.refl _ | apply Drawn0.step))⟩
  · have e : word c = false := by
      rw [Bool.eq_false_iff]
      simp only [ne_eq, word, letter, digit, Bool.or_eq_true, Bool.and_eq_true, Bool.not_eq_true', decide_eq_true_eq, beq_iff_eq, beq_eq_false_iff_ne]
      omega
    rw [e]
    have d0 : decide (97 ≤ (c : Int)) = false := decide_eq_false (by omega)
    have d1 : decide ((c : Int) ≤ 122) = true := decide_eq_true (by omega)
    have d2 : decide (65 ≤ (c : Int)) = false := decide_eq_false (by omega)
    have d3 : decide ((c : Int) ≤ 90) = true := decide_eq_true (by omega)
    have d4 : decide (48 ≤ (c : Int)) = true := decide_eq_true (by omega)
    have d5 : decide ((c : Int) ≤ 57) = false := decide_eq_false (by omega)
    have q0 : ((c : Int) == 95) = false := by simp; omega
    have r0 : ((c : Int) != 95) = true := by simp; omega
    clear e h hc
    go_enter Tryd.func57, Tryd.ntmps57
    go_wp2
    go_ret
    exact ⟨rfl, by (repeat (first | exact Drawn0.refl _ | apply Drawn0.step))⟩
  · have e : word c = true := by
      simp only [word, letter, digit, Bool.or_eq_true, Bool.and_eq_true, Bool.not_eq_true', decide_eq_true_eq, beq_iff_eq, beq_eq_false_iff_ne]
      omega
    rw [e]
    have d0 : decide (97 ≤ (c : Int)) = false := decide_eq_false (by omega)
    have d1 : decide ((c : Int) ≤ 122) = true := decide_eq_true (by omega)
    have d2 : decide (65 ≤ (c : Int)) = true := decide_eq_true (by omega)
    have d3 : decide ((c : Int) ≤ 90) = true := decide_eq_true (by omega)
    have d4 : decide (48 ≤ (c : Int)) = true := decide_eq_true (by omega)
    have d5 : decide ((c : Int) ≤ 57) = false := decide_eq_false (by omega)
    have q0 : ((c : Int) == 95) = false := by simp; omega
    have r0 : ((c : Int) != 95) = true := by simp; omega
    clear e h hc
    go_enter Tryd.func57, Tryd.ntmps57
    go_wp2
    go_ret
    exact ⟨rfl, by (repeat (first | exact Drawn0.refl _ | apply Drawn0.step))⟩
  · have e : word c = false := by
      rw [Bool.eq_false_iff]
      simp only [ne_eq, word, letter, digit, Bool.or_eq_true, Bool.and_eq_true, Bool.not_eq_true', decide_eq_true_eq, beq_iff_eq, beq_eq_false_iff_ne]
      omega
    rw [e]
    have d0 : decide (97 ≤ (c : Int)) = false := decide_eq_false (by omega)
    have d1 : decide ((c : Int) ≤ 122) = true := decide_eq_true (by omega)
    have d2 : decide (65 ≤ (c : Int)) = true := decide_eq_true (by omega)
    have d3 : decide ((c : Int) ≤ 90) = false := decide_eq_false (by omega)
    have d4 : decide (48 ≤ (c : Int)) = true := decide_eq_true (by omega)
    have d5 : decide ((c : Int) ≤ 57) = false := decide_eq_false (by omega)
    have q0 : ((c : Int) == 95) = false := by simp; omega
    have r0 : ((c : Int) != 95) = true := by simp; omega
    clear e h hc
    go_enter Tryd.func57, Tryd.ntmps57
    go_wp2
    go_ret
    exact ⟨rfl, by (repeat (first | exact Drawn0.refl _ | apply Drawn0.step))⟩
  · have e : word c = true := by
      simp only [word, letter, digit, Bool.or_eq_true, Bool.and_eq_true, Bool.not_eq_true', decide_eq_true_eq, beq_iff_eq, beq_eq_false_iff_ne]
      omega
    rw [e]
    have d0 : decide (97 ≤ (c : Int)) = false := decide_eq_false (by omega)
    have d1 : decide ((c : Int) ≤ 122) = true := decide_eq_true (by omega)
    have d2 : decide (65 ≤ (c : Int)) = true := decide_eq_true (by omega)
    have d3 : decide ((c : Int) ≤ 90) = false := decide_eq_false (by omega)
    have d4 : decide (48 ≤ (c : Int)) = true := decide_eq_true (by omega)
    have d5 : decide ((c : Int) ≤ 57) = false := decide_eq_false (by omega)
    have q0 : ((c : Int) == 95) = true := by simp; omega
    have r0 : ((c : Int) != 95) = false := by simp; omega
    clear e h hc
    go_enter Tryd.func57, Tryd.ntmps57
    go_wp2
    go_ret
    exact ⟨rfl, by (repeat (first | exact Drawn0.refl _ | apply Drawn0.step))⟩
  · have e : word c = false := by
      rw [Bool.eq_false_iff]
      simp only [ne_eq, word, letter, digit, Bool.or_eq_true, Bool.and_eq_true, Bool.not_eq_true', decide_eq_true_eq, beq_iff_eq, beq_eq_false_iff_ne]
      omega
    rw [e]
    have d0 : decide (97 ≤ (c : Int)) = false := decide_eq_false (by omega)
    have d1 : decide ((c : Int) ≤ 122) = true := decide_eq_true (by omega)
    have d2 : decide (65 ≤ (c : Int)) = true := decide_eq_true (by omega)
    have d3 : decide ((c : Int) ≤ 90) = false := decide_eq_false (by omega)
    have d4 : decide (48 ≤ (c : Int)) = true := decide_eq_true (by omega)
    have d5 : decide ((c : Int) ≤ 57) = false := decide_eq_false (by omega)
    have q0 : ((c : Int) == 95) = false := by simp; omega
    have r0 : ((c : Int) != 95) = true := by simp; omega
    clear e h hc
    go_enter Tryd.func57, Tryd.ntmps57
    go_wp2
    go_ret
    exact ⟨rfl, by (repeat (first | exact Drawn0.refl _ | apply Drawn0.step))⟩
  · have e : word c = true := by
      simp only [word, letter, digit, Bool.or_eq_true, Bool.and_eq_true, Bool.not_eq_true', decide_eq_true_eq, beq_iff_eq, beq_eq_false_iff_ne]
      omega
    rw [e]
    have d0 : decide (97 ≤ (c : Int)) = true := decide_eq_true (by omega)
    have d1 : decide ((c : Int) ≤ 122) = true := decide_eq_true (by omega)
    have d2 : decide (65 ≤ (c : Int)) = true := decide_eq_true (by omega)
    have d3 : decide ((c : Int) ≤ 90) = false := decide_eq_false (by omega)
    have d4 : decide (48 ≤ (c : Int)) = true := decide_eq_true (by omega)
    have d5 : decide ((c : Int) ≤ 57) = false := decide_eq_false (by omega)
    have q0 : ((c : Int) == 95) = false := by simp; omega
    have r0 : ((c : Int) != 95) = true := by simp; omega
    clear e h hc
    go_enter Tryd.func57, Tryd.ntmps57
    go_wp2
    go_ret
    exact ⟨rfl, by (repeat (first | exact Drawn0.refl _ | apply Drawn0.step))⟩
  · have e : word c = false := by
      rw [Bool.eq_false_iff]
      simp only [ne_eq, word, letter, digit, Bool.or_eq_true, Bool.and_eq_true, Bool.not_eq_true', decide_eq_true_eq, beq_iff_eq, beq_eq_false_iff_ne]
      omega
    rw [e]
    have d0 : decide (97 ≤ (c : Int)) = true := decide_eq_true (by omega)
    have d1 : decide ((c : Int) ≤ 122) = false := decide_eq_false (by omega)
    have d2 : decide (65 ≤ (c : Int)) = true := decide_eq_true (by omega)
    have d3 : decide ((c : Int) ≤ 90) = false := decide_eq_false (by omega)
    have d4 : decide (48 ≤ (c : Int)) = true := decide_eq_true (by omega)
    have d5 : decide ((c : Int) ≤ 57) = false := decide_eq_false (by omega)
    have q0 : ((c : Int) == 95) = false := by simp; omega
    have r0 : ((c : Int) != 95) = true := by simp; omega
    clear e h hc
    go_enter Tryd.func57, Tryd.ntmps57
    go_wp2
    go_ret
    exact ⟨rfl, by (repeat (first | exact Drawn0.refl _ | apply Drawn0.step))⟩
set_option maxHeartbeats 4000000 in
theorem tells_blank : Tells 55 BallLex.blank := by
  refine ⟨_, Tryd.func55, by kernel_rfl, rfl, fun c W hc => ?_⟩
  have hcase : c = 32 ∨ c = 9 ∨ c = 10 ∨ c = 13 ∨ (c ≠ 32 ∧ c ≠ 9 ∧ c ≠ 10 ∧ c ≠ 13) := by omega
  rcases hcase with h | h | h | h | h
  · have e : BallLex.blank c = true := by
      simp only [BallLex.blank, Bool.or_eq_true, Bool.and_eq_true, Bool.not_eq_true', decide_eq_true_eq, beq_iff_eq, beq_eq_false_iff_ne]
      omega
    rw [e]
    have q0 : ((c : Int) == 32) = true := by simp; omega
    have r0 : ((c : Int) != 32) = false := by simp; omega
    have q1 : ((c : Int) == 9) = false := by simp; omega
    have r1 : ((c : Int) != 9) = true := by simp; omega
    have q2 : ((c : Int) == 10) = false := by simp; omega
    have r2 : ((c : Int) != 10) = true := by simp; omega
    have q3 : ((c : Int) == 13) = false := by simp; omega
    have r3 : ((c : Int) != 13) = true := by simp; omega
    clear e h hc
    go_enter Tryd.func55, Tryd.ntmps55
    go_wp2
    go_ret
    exact ⟨rfl, by (repeat (first | exact Drawn0.refl _ | apply Drawn0.step))⟩
  · have e : BallLex.blank c = true := by
      simp only [BallLex.blank, Bool.or_eq_true, Bool.and_eq_true, Bool.not_eq_true', decide_eq_true_eq, beq_iff_eq, beq_eq_false_iff_ne]
      omega
    rw [e]
    have q0 : ((c : Int) == 32) = false := by simp; omega
    have r0 : ((c : Int) != 32) = true := by simp; omega
    have q1 : ((c : Int) == 9) = true := by simp; omega
    have r1 : ((c : Int) != 9) = false := by simp; omega
    have q2 : ((c : Int) == 10) = false := by simp; omega
    have r2 : ((c : Int) != 10) = true := by simp; omega
    have q3 : ((c : Int) == 13) = false := by simp; omega
    have r3 : ((c : Int) != 13) = true := by simp; omega
    clear e h hc
    go_enter Tryd.func55, Tryd.ntmps55
    go_wp2
    go_ret
    exact ⟨rfl, by (repeat (first | exact Drawn0.refl _ | apply Drawn0.step))⟩
  · have e : BallLex.blank c = true := by
      simp only [BallLex.blank, Bool.or_eq_true, Bool.and_eq_true, Bool.not_eq_true', decide_eq_true_eq, beq_iff_eq, beq_eq_false_iff_ne]
      omega
    rw [e]
    have q0 : ((c : Int) == 32) = false := by simp; omega
    have r0 : ((c : Int) != 32) = true := by simp; omega
    have q1 : ((c : Int) == 9) = false := by simp; omega
    have r1 : ((c : Int) != 9) = true := by simp; omega
    have q2 : ((c : Int) == 10) = true := by simp; omega
    have r2 : ((c : Int) != 10) = false := by simp; omega
    have q3 : ((c : Int) == 13) = false := by simp; omega
    have r3 : ((c : Int) != 13) = true := by simp; omega
    clear e h hc
    go_enter Tryd.func55, Tryd.ntmps55
    go_wp2
    go_ret
    exact ⟨rfl, by (repeat (first | exact Drawn0.refl _ | apply Drawn0.step))⟩
  · have e : BallLex.blank c = true := by
      simp only [BallLex.blank, Bool.or_eq_true, Bool.and_eq_true, Bool.not_eq_true', decide_eq_true_eq, beq_iff_eq, beq_eq_false_iff_ne]
      omega
    rw [e]
    have q0 : ((c : Int) == 32) = false := by simp; omega
    have r0 : ((c : Int) != 32) = true := by simp; omega
    have q1 : ((c : Int) == 9) = false := by simp; omega
    have r1 : ((c : Int) != 9) = true := by simp; omega
    have q2 : ((c : Int) == 10) = false := by simp; omega
    have r2 : ((c : Int) != 10) = true := by simp; omega
    have q3 : ((c : Int) == 13) = true := by simp; omega
    have r3 : ((c : Int) != 13) = false := by simp; omega
    clear e h hc
    go_enter Tryd.func55, Tryd.ntmps55
    go_wp2
    go_ret
    exact ⟨rfl, by (repeat (first | exact Drawn0.refl _ | apply Drawn0.step))⟩
  · have e : BallLex.blank c = false := by
      rw [Bool.eq_false_iff]
      simp only [ne_eq, BallLex.blank, Bool.or_eq_true, Bool.and_eq_true, Bool.not_eq_true', decide_eq_true_eq, beq_iff_eq, beq_eq_false_iff_ne]
      omega
    rw [e]
    have q0 : ((c : Int) == 32) = false := by simp; omega
    have r0 : ((c : Int) != 32) = true := by simp; omega
    have q1 : ((c : Int) == 9) = false := by simp; omega
    have r1 : ((c : Int) != 9) = true := by simp; omega
    have q2 : ((c : Int) == 10) = false := by simp; omega
    have r2 : ((c : Int) != 10) = true := by simp; omega
    have q3 : ((c : Int) == 13) = false := by simp; omega
    have r3 : ((c : Int) != 13) = true := by simp; omega
    clear e h hc
    go_enter Tryd.func55, Tryd.ntmps55
    go_wp2
    go_ret
    exact ⟨rfl, by (repeat (first | exact Drawn0.refl _ | apply Drawn0.step))⟩
set_option maxHeartbeats 4000000 in
theorem tells_line : Tells 56 inLine := by
  refine ⟨_, Tryd.func56, by kernel_rfl, rfl, fun c W hc => ?_⟩
  have hcase : c = 10 ∨ c ≠ 10 := by omega
  rcases hcase with h | h
  · have e : inLine c = false := by
      rw [Bool.eq_false_iff]
      simp only [ne_eq, inLine, Bool.or_eq_true, Bool.and_eq_true, Bool.not_eq_true', decide_eq_true_eq, beq_iff_eq, beq_eq_false_iff_ne]
      omega
    rw [e]
    have q0 : ((c : Int) == 10) = true := by simp; omega
    have r0 : ((c : Int) != 10) = false := by simp; omega
    clear e h hc
    go_enter Tryd.func56, Tryd.ntmps56
    go_wp2
    go_ret
    exact ⟨rfl, by (repeat (first | exact Drawn0.refl _ | apply Drawn0.step))⟩
  · have e : inLine c = true := by
      simp only [inLine, Bool.or_eq_true, Bool.and_eq_true, Bool.not_eq_true', decide_eq_true_eq, beq_iff_eq, beq_eq_false_iff_ne]
      omega
    rw [e]
    have q0 : ((c : Int) == 10) = false := by simp; omega
    have r0 : ((c : Int) != 10) = true := by simp; omega
    clear e h hc
    go_enter Tryd.func56, Tryd.ntmps56
    go_wp2
    go_ret
    exact ⟨rfl, by (repeat (first | exact Drawn0.refl _ | apply Drawn0.step))⟩
end Go.Proofs.YtifjmokilbijlaaDoor.PLex
