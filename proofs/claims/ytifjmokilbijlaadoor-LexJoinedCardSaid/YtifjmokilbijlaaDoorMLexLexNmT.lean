import Derived.Test.YtifjmokilbijlaaDoorMLexLexKyT
import Derived.Test.YtifjmokilbijlaaDoorMLexLexBlT
import Derived.Test.YtifjmokilbijlaaDoorMLexLexPT
namespace Go.Proofs.YtifjmokilbijlaaDoor.PLex
open Go Go.RowKit Go.Proofs.YtifjmokilbijlaaDoorW.PrintWords Go.Proofs.YtifjmokilbijlaaDoorW.PrintLast Go.Proofs.YtifjmokilbijlaaDoorW.PrintMore BallLex
attribute [local go_sem] max2_int min2_int max_two min_two max_three min_three max_four min_four
set_option linter.unusedVariables false
set_option linter.unusedSimpArgs false
set_option maxHeartbeats 4000000 in
theorem tells_word39 : Tells 39 word := by
  refine ⟨_, Tryd.func39, by kernel_rfl, rfl, fun c W hc => ?_⟩
  have hcase : c < 48 ∨ (48 ≤ c ∧ c ≤ 57) ∨ (58 ≤ c ∧ c ≤ 64) ∨ (65 ≤ c ∧ c ≤ 90) ∨ (91 ≤ c ∧ c ≤ 94) ∨ c = 95 ∨ c = 96 ∨ (97 ≤ c ∧ c ≤ 122) ∨ 122 < c := by omega
  rcases hcase with h | h | h | h | h | h | h | h | h
  · have e : word c = false := by
      rw [Bool.eq_false_iff]
      simp only [ne_eq, word, letter, digit, Bool.or_eq_true, Bool.and_eq_true, Bool.not_eq_true', decide_eq_true_eq, beq_iff_eq, beq_eq_false_iff_ne]
      omega
    rw [e]
    have d0 : decide (97 ≤ (c : Int)) = false := decide_eq_false (by omega)
    have d1 : decide ((c : Int) ≤ 122) = true := decide_eq_true (by omega)
    have d2 : decide (65 ≤ (c : Int)) = false := decide_eq_false (by omega)
    have d3 : decide ((c : Int) ≤ 90) = true := decide_eq_true (by omega)
    have d4 : decide (48 ≤ (c : Int)) = false := decide_eq_false (by omega)
    have d5 : decide ((c : Int) ≤ 57) = true := decide_eq_true (by omega)
    have q0 : ((c : Int) == 95) = false := by simp; omega
    have r0 : ((c : Int) != 95) = true := by simp; omega
    clear e h hc
    go_enter Tryd.func39, Tryd.ntmps39
    go_wp2
    go_ret
    exact ⟨rfl, by (repeat (first | exact Drawn0.refl _ | apply Drawn0.step))⟩
  · have e : word c = true := by
      simp only [word, letter, digit, Bool.or_eq_true, Bool.and_eq_true, Bool.not_eq_true', decide_eq_true_eq, beq_iff_eq, beq_eq_false_iff_ne]
      omega
    rw [e]
    have d0 : decide (97 ≤ (c : Int)) = false := decide_eq_false (by omega)
    have d1 : decide ((c : Int) ≤ 122) = true := decide_eq_true (by omega)
    have d2 : decide (65 ≤ (c : Int)) = false := decide_eq_false (by omega)
    have d3 : decide ((c : Int) ≤ 90) = true := decide_eq_true (by omega)
    have d4 : decide (48 ≤ (c : Int)) = true := decide_eq_true (by omega)
    have d5 : decide ((c : Int) ≤ 57) = true := decide_eq_true (by omega)
    have q0 : ((c : Int) == 95) = false := by simp; omega
    have r0 : ((c : Int) != 95) = true := by simp; omega
    clear e h hc
    go_enter Tryd.func39, Tryd.ntmps39
    go_wp2
    go_ret
    exact ⟨rfl, by (repeat (first | exact Drawn0.refl _ | apply Drawn0.step))⟩
  · have e : word c = false := by
      rw [Bool.eq_false_iff]
      simp only [ne_eq, word, letter, digit, Bool.or_eq_true, Bool.and_eq_true, Bool.not_eq_true', decide_eq_true_eq, beq_iff_eq, beq_eq_false_iff_ne]
      omega
    rw [e]
    have d0 : decide (97 ≤ (c : Int)) = false := decide_eq_false (by omega)
    have d1 : decide ((c : Int) ≤ 122) = true := decide_eq_true (by omega)
    have d2 : decide (65 ≤ (c : Int)) = false := decide_eq_false (by omega)
    have d3 : decide ((c : Int) ≤ 90) = true := decide_eq_true (by omega)
    have d4 : decide (48 ≤ (c : Int)) = true := decide_eq_true (by omega)
    have d5 : decide ((c : Int) ≤ 57) = false := decide_eq_false (by omega)
    have q0 : ((c : Int) == 95) = false := by simp; omega
    have r0 : ((c : Int) != 95) = true := by simp; omega
    clear e h hc
    go_enter Tryd.func39, Tryd.ntmps39
    go_wp2
    go_ret
    exact ⟨rfl, by (repeat (first | exact Drawn0.refl _ | apply Drawn0.step))⟩
  · have e : word c = true := by
      simp only [word, letter, digit, Bool.or_eq_true, Bool.and_eq_true, Bool.not_eq_true', decide_eq_true_eq, beq_iff_eq, beq_eq_false_iff_ne]
      omega
    rw [e]
    have d0 : decide (97 ≤ (c : Int)) = false := decide_eq_false (by omega)
    have d1 : decide ((c : Int) ≤ 122) = true := decide_eq_true (by omega)
    have d2 : decide (65 ≤ (c : Int)) = true := decide_eq_true (by omega)
    have d3 : decide ((c : Int) ≤ 90) = true := decide_eq_true (by omega)
    have d4 : decide (48 ≤ (c : Int)) = true := decide_eq_true (by omega)
    have d5 : decide ((c : Int) ≤ 57) = false := decide_eq_false (by omega)
    have q0 : ((c : Int) == 95) = false := by simp; omega
    have r0 : ((c : Int) != 95) = true := by simp; omega
    clear e h hc
    go_enter Tryd.func39, Tryd.ntmps39
    go_wp2
    go_ret
    exact ⟨rfl, by (repeat (first | exact Drawn0.refl _ | apply Drawn0.step))⟩
  · have e : word c = false := by
      rw [Bool.eq_false_iff]
      simp only [ne_eq, word, letter, digit, Bool.or_eq_true, Bool.and_eq_true, Bool.not_eq_true', decide_eq_true_eq, beq_iff_eq, beq_eq_false_iff_ne]
      omega
    rw [e]
    have d0 : decide (97 ≤ (c : Int)) = false := decide_eq_false (by omega)
    have d1 : decide ((c : Int) ≤ 122) = true := decide_eq_true (by omega)
    have d2 : decide (65 ≤ (c : Int)) = true := decide_eq_true (by omega)
    have d3 : decide ((c : Int) ≤ 90) = false := decide_eq_false (by omega)
    have d4 : decide (48 ≤ (c : Int)) = true := decide_eq_true (by omega)
    have d5 : decide ((c : Int) ≤ 57) = false := decide_eq_false (by omega)
    have q0 : ((c : Int) == 95) = false := by simp; omega
    have r0 : ((c : Int) != 95) = true := by simp; omega
    clear e h hc
    go_enter Tryd.func39, Tryd.ntmps39
    go_wp2
    go_ret
    exact ⟨rfl, by (repeat (first | exact Drawn0.refl _ | apply Drawn0.step))⟩
  · have e : word c = true := by
      simp only [word, letter, digit, Bool.or_eq_true, Bool.and_eq_true, Bool.not_eq_true', decide_eq_true_eq, beq_iff_eq, beq_eq_false_iff_ne]
      omega
    rw [e]
    have d0 : decide (97 ≤ (c : Int)) = false := decide_eq_false (by omega)
    have d1 : decide ((c : Int) ≤ 122) = true := decide_eq_true (by omega)
    have d2 : decide (65 ≤ (c : Int)) = true := decide_eq_true (by omega)
    have d3 : decide ((c : Int) ≤ 90) = false := decide_eq_false (by omega)
    have d4 : decide (48 ≤ (c : Int)) = true := decide_eq_true (by omega)
    have d5 : decide ((c : Int) ≤ 57) = false := decide_eq_false (by omega)
    have q0 : ((c : Int) == 95) = true := by simp; omega
    have r0 : ((c : Int) != 95) = false := by simp; omega
    clear e h hc
    go_enter Tryd.func39, Tryd.ntmps39
    go_wp2
    go_ret
    exact ⟨rfl, by (repeat (first | exact Drawn0.refl _ | apply Drawn0.step))⟩
  · have e : word c = false := by
      rw [Bool.eq_false_iff]
      simp only [ne_eq, word, letter, digit, Bool.or_eq_true, Bool.and_eq_true, Bool.not_eq_true', decide_eq_true_eq, beq_iff_eq, beq_eq_false_iff_ne]
      omega
    rw [e]
    have d0 : decide (97 ≤ (c : Int)) = false := decide_eq_false (by omega)
    have d1 : decide ((c : Int) ≤ 122) = true := decide_eq_true (by omega)
    have d2 : decide (65 ≤ (c : Int)) = true := decide_eq_true (by omega)
    have d3 : decide ((c : Int) ≤ 90) = false := decide_eq_false (by omega)
    have d4 : decide (48 ≤ (c : Int)) = true := decide_eq_true (by omega)
    have d5 : decide ((c : Int) ≤ 57) = false := decide_eq_false (by omega)
    have q0 : ((c : Int) == 95) = false := by simp; omega
    have r0 : ((c : Int) != 95) = true := by simp; omega
    clear e h hc
    go_enter Tryd.func39, Tryd.ntmps39
    go_wp2
    go_ret
    exact ⟨rfl, by (repeat (first | exact Drawn0.refl _ | apply Drawn0.step))⟩
  · have e : word c = true := by
      simp only [word, letter, digit, Bool.or_eq_true, Bool.and_eq_true, Bool.not_eq_true', decide_eq_true_eq, beq_iff_eq, beq_eq_false_iff_ne]
      omega
    rw [e]
    have d0 : decide (97 ≤ (c : Int)) = true := decide_eq_true (by omega)
    have d1 : decide ((c : Int) ≤ 122) = true := decide_eq_true (by omega)
    have d2 : decide (65 ≤ (c : Int)) = true := decide_eq_true (by omega)
    have d3 : decide ((c : Int) ≤ 90) = false := decide_eq_false (by omega)
    have d4 : decide (48 ≤ (c : Int)) = true := decide_eq_true (by omega)
    have d5 : decide ((c : Int) ≤ 57) = false := decide_eq_false (by omega)
    have q0 : ((c : Int) == 95) = false := by simp; omega
    have r0 : ((c : Int) != 95) = true := by simp; omega
    clear e h hc
    go_enter Tryd.func39, Tryd.ntmps39
    go_wp2
    go_ret
    exact ⟨rfl, by (repeat (first | exact Drawn0.refl _ | apply Drawn0.step))⟩
  · have e : word c = false := by
      rw [Bool.eq_false_iff]
      simp only [ne_eq, word, letter, digit, Bool.or_eq_true, Bool.and_eq_true, Bool.not_eq_true', decide_eq_true_eq, beq_iff_eq, beq_eq_false_iff_ne]
      omega
    rw [e]
    have d0 : decide (97 ≤ (c : Int)) = true := decide_eq_true (by omega)
    have d1 : decide ((c : Int) ≤ 122) = false := decide_eq_false (by omega)
    have d2 : decide (65 ≤ (c : Int)) = true := decide_eq_true (by omega)
    have d3 : decide ((c : Int) ≤ 90) = false := decide_eq_false (by omega)
    have d4 : decide (48 ≤ (c : Int)) = true := decide_eq_true (by omega)
    have d5 : decide ((c : Int) ≤ 57) = false := decide_eq_false (by omega)
    have q0 : ((c : Int) == 95) = false := by simp; omega
    have r0 : ((c : Int) != 95) = true := by simp; omega
    clear e h hc
    go_enter Tryd.func39, Tryd.ntmps39
    go_wp2
    go_ret
    exact ⟨rfl, by (repeat (first | exact Drawn0.refl _ | apply Drawn0.step))⟩
/-- May it be a name? -/
def nameB (s : ByteArray) : Bool := !(s.size == 0) && decide (s.size ≤ 16) && letter (by_ s 0) && !(keyB s) && (rp word s 0 == s.size)
theorem empty_ (s : ByteArray) : s.toList.isEmpty = decide (s.size = 0) := by
  rw [Lib.toList_data, Lib.size_eq]
  cases s.data.toList <;> simp
theorem eqnil_ (s : ByteArray) : (s.toList == []) = decide (s.size = 0) := by
  rw [Lib.toList_data, Lib.size_eq]
  cases s.data.toList <;> simp
set_option maxHeartbeats 4000000 in
theorem name_c (s : ByteArray) (hs : s.size ≤ 1000000) (w : World) : Calls Tryd.prog 19 #[.string s] w fun e w' => e = .returned (.bool (nameB s)) ∧ Below w.heap.size w w' := by
  by_cases h0 : s.size = 0
  · have ev : nameB s = false := by unfold nameB; simp [h0]
    rw [ev]
    have e1 : s.toList.isEmpty = true := by rw [empty_]; exact decide_eq_true h0
    have e2 : (s.toList == []) = true := by rw [eqnil_]; exact decide_eq_true h0
    clear ev h0 hs
    go_enter Tryd.func19, Tryd.ntmps19
    go_wp2_with (fail)
    go_ret
    exact ⟨rfl, Below.refl _ _⟩
  have e1 : s.toList.isEmpty = false := by rw [empty_]; exact decide_eq_false h0
  have e2 : (s.toList == []) = false := by rw [eqnil_]; exact decide_eq_false h0
  by_cases h16 : s.size ≤ 16
  rotate_left
  · have ev : nameB s = false := by unfold nameB; simp [h16]
    rw [ev]
    have d1 : decide (16 < (s.size : Int)) = true := decide_eq_true (by omega)
    have d2 : decide (16 < s.size) = true := decide_eq_true (by omega)
    clear ev h0 hs h16
    go_enter Tryd.func19, Tryd.ntmps19
    go_wp2_with (fail)
    go_ret
    exact ⟨rfl, Below.refl _ _⟩
  have d1 : decide (16 < (s.size : Int)) = false := decide_eq_false (by omega)
  have d2 : decide (16 < s.size) = false := decide_eq_false (by omega)
  have hlt : 0 < s.size := by omega
  have q0 := eq_true (show (0 : Int) < (s.size : Int) by omega)
  have q1 := eq_true hlt
  obtain ⟨_, _, _, _, cl⟩ := tells_letter
  have CL := Aside0.mk cl
  have BY := Aside0.mk (by_at s 0 hlt)
  have HC := Aside0.mk (show by_ s 0 < 256 by rw [by_at s 0 hlt]; exact UInt8.toNat_lt _)
  have HZ := Aside0.mk (show s.size ≤ 16 ∧ ¬ s.size = 0 from ⟨h16, h0⟩)
  clear cl h0 hs h16
  go_enter Tryd.func19, Tryd.ntmps19
  go_wp2_with (fail)
  have hby := BY.out
  rw [← hby]
  refine (CL.out (by_ s 0) _ HC.out).mono ?_
  rintro e W1 ⟨rfl, hd⟩
  have HB1 := Aside0.mk hd.below
  clear hd hby
  by_cases hl : letter (by_ s 0) = true
  rotate_left
  · have hl' : letter (by_ s 0) = false := by simpa using hl
    have ev : nameB s = false := by unfold nameB; simp [hl']
    have EV := Aside0.mk ev
    rw [hl']
    clear ev hl hl'
    go_wp2_with (fail)
    go_ret
    rw [EV.out]
    exact ⟨rfl, HB1.out⟩
  have HL := Aside0.mk hl
  rw [hl]
  clear hl
  go_wp2_with (fail)
  refine (key_c s _).mono ?_
  rintro e W2 ⟨rfl, hb⟩
  have HB2 := Aside0.mk (below_step HB1.out hb)
  clear hb HB1
  cases hk : keyB s with
  | true =>
    have ev : nameB s = false := by unfold nameB; simp [hk]
    have EV := Aside0.mk ev
    clear ev hk
    go_wp2_with (fail)
    go_ret
    rw [EV.out]
    exact ⟨rfl, HB2.out⟩
  | false =>
    have ev : nameB s = (rp word s 0 == s.size) := by
      unfold nameB
      have := HZ.out
      simp [hk, HL.out, this.1, this.2]
    have EV := Aside0.mk ev
    clear ev hk
    have HG := Aside0.mk (blk_new W2 (.cells #[.string s, .int .i64 0] 54 (0, 0)))
    have HB3 := Aside0.mk (below_alloc HB2.out (.cells #[.string s, .int .i64 0] 54 (0, 0)))
    have HGE := Aside0.mk (below_size HB2.out)
    go_wp2_with (fail)
    refine (run_c 39 word tells_word39 W2.heap.size s 0 (Nat.zero_le _) (by have := HZ.out; omega) w _ HB3.out HGE.out HG.out).mono ?_
    rintro e W4 ⟨rfl, hG4, hK4, hB4⟩
    have HB4 := Aside0.mk hB4
    have es := cut_size s 0 (rp word s 0) (Nat.zero_le _) (rp_le _ _ _ (Nat.zero_le _))
    rw [Nat.sub_zero] at es
    clear hG4 hK4 hB4
    go_wp2_with (fail)
    go_ret
    rw [EV.out]
    have eb : (((rp word s 0 : Nat) : Int) == ((s.size : Nat) : Int)) = (rp word s 0 == s.size) := by rw [Bool.eq_iff_iff, beq_iff_eq, beq_iff_eq]; omega
    refine ⟨?_, HB4.out⟩
    show Ending.returned (.bool (((rp word s 0 : Nat) : Int) == ((s.size : Nat) : Int))) = _
    rw [eb]
end Go.Proofs.YtifjmokilbijlaaDoor.PLex
