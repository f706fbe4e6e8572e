import Derived.Test.YtbnligfjcmmjpaaPEvLx1
import Derived.Test.YtbnligfjcmmjpaaPEvLx1
namespace Go.Proofs.Ytbnligfjcmmjpaa.PEvL
open Go Go.RowKit Go.Proofs.YtbnligfjcmmjpaaW.PrintWords Go.Proofs.YtbnligfjcmmjpaaW.PrintLast Go.Proofs.YtbnligfjcmmjpaaW.PrintMore
attribute [local go_sem] max2_int min2_int max_two min_two max_three min_three max_four min_four
set_option linter.unusedSimpArgs false
set_option linter.unusedVariables false
theorem bin_add (x y : Int) : eval_Bin.f 2 x y = some (wrap64 (x + y)) := by simp [eval_Bin.f]
theorem bin_sub (x y : Int) : eval_Bin.f 3 x y = some (wrap64 (x - y)) := by simp [eval_Bin.f]
theorem bin_mul (x y : Int) : eval_Bin.f 4 x y = some (wrap64 (x * y)) := by simp [eval_Bin.f]
set_option maxHeartbeats 8000000 in
set_option maxRecDepth 100000 in
theorem cl_add (x y : Int) (w : World) : Calls Try.prog 24 #[.int .i64 x, .int .i64 y] w fun e w' => e = .returned (.int .i64 (wrap64 (x + y))) ∧ Drawn0 w w' := by
  go_enter Try.func24, Try.ntmps24
  go_wp2_with (first | ((with_reducible refine gate_callee (f := 22) rfl ?_); refine goesL_ (some 3) rfl rfl Try.func22 (by kernel_rfl) rfl #[.int .i64 2, .int .i64 x, .int .i64 y] rfl (by (try simp only [List.map_toArray, List.map_cons, List.map_nil]); first | done | rfl) ?_; (with_reducible refine (eval_Bin.calls 2 x y _ _ (bin_add x y)).mono ?_); rintro e w' ⟨rfl, ⟨nd, rfl⟩⟩; refine ⟨_, rfl, ?_⟩) | (go_at_call 22; (with_reducible refine (eval_Bin.calls 2 x y _ _ (bin_add x y)).mono ?_); rintro e w' ⟨rfl, ⟨nd, rfl⟩⟩))
  go_ret
  exact ⟨by first | rfl | (simp; done) | (simp [*]; done), by repeat (first | exact Drawn0.refl _ | apply Drawn0.step)⟩
set_option maxHeartbeats 8000000 in
set_option maxRecDepth 100000 in
theorem cl_mul (x y : Int) (w : World) : Calls Try.prog 25 #[.int .i64 x, .int .i64 y] w fun e w' => e = .returned (.int .i64 (wrap64 (x * y))) ∧ Drawn0 w w' := by
  go_enter Try.func25, Try.ntmps25
  go_wp2_with (first | ((with_reducible refine gate_callee (f := 22) rfl ?_); refine goesL_ (some 3) rfl rfl Try.func22 (by kernel_rfl) rfl #[.int .i64 4, .int .i64 x, .int .i64 y] rfl (by (try simp only [List.map_toArray, List.map_cons, List.map_nil]); first | done | rfl) ?_; (with_reducible refine (eval_Bin.calls 4 x y _ _ (bin_mul x y)).mono ?_); rintro e w' ⟨rfl, ⟨nd, rfl⟩⟩; refine ⟨_, rfl, ?_⟩) | (go_at_call 22; (with_reducible refine (eval_Bin.calls 4 x y _ _ (bin_mul x y)).mono ?_); rintro e w' ⟨rfl, ⟨nd, rfl⟩⟩))
  go_ret
  exact ⟨by first | rfl | (simp; done) | (simp [*]; done), by repeat (first | exact Drawn0.refl _ | apply Drawn0.step)⟩
theorem aw : ballcocklaw23_awake.f = some true := by decide +kernel
theorem wmod (x : Int) : ∃ k, wrap64 x = x + 18446744073709551616 * k := by
  refine ⟨(wrap64 x - x) / 18446744073709551616, ?_⟩
  unfold wrap64; omega
theorem weq {x y : Int} (h : ∃ k, x = y + 18446744073709551616 * k) : wrap64 x = wrap64 y := by
  obtain ⟨k, h⟩ := h
  unfold wrap64; omega
theorem r1 (a b c : Int) : wrap64 (wrap64 (a + b) + c) = wrap64 (a + wrap64 (b + c)) := by
  obtain ⟨i, hi⟩ := wmod (a + b)
  obtain ⟨j, hj⟩ := wmod (b + c)
  rw [hi, hj]
  exact weq ⟨i - j, by grind⟩
theorem r2 (a b c : Int) : wrap64 (wrap64 (a * b) * c) = wrap64 (a * wrap64 (b * c)) := by
  obtain ⟨i, hi⟩ := wmod (a * b)
  obtain ⟨j, hj⟩ := wmod (b * c)
  rw [hi, hj]
  exact weq ⟨i * c - a * j, by grind⟩
theorem r3 (a b c : Int) : wrap64 (a * wrap64 (b + c)) = wrap64 (wrap64 (a * b) + wrap64 (a * c)) := by
  obtain ⟨i, hi⟩ := wmod (b + c)
  obtain ⟨j, hj⟩ := wmod (a * b)
  obtain ⟨k, hk⟩ := wmod (a * c)
  rw [hi, hj, hk]
  exact weq ⟨a * i - j - k, by grind⟩
theorem r4 (a b : Int) : wrap64 (a - b) = wrap64 (a + wrap64 (-1 * b)) := by
  obtain ⟨i, hi⟩ := wmod (-1 * b)
  rw [hi]
  exact weq ⟨-i, by grind⟩
theorem r5 : wrap64 0 = 0 := by unfold wrap64; omega
attribute [local go_sem] r1 r2 r3 r4 r5
set_option maxHeartbeats 8000000 in
set_option maxRecDepth 100000 in
theorem laws (a b c : Int) (w : World) : Calls Try.prog 8 #[.int .i64 a, .int .i64 b, .int .i64 c] w fun e w' => e = .returned (.bool true) ∧ Drawn0 w w' := by
  go_enter Try.func8, Try.ntmps8
  go_wp2_with (first | ((with_reducible refine gate_callee (f := 21) rfl ?_); refine goesL_ (some 9) rfl rfl Try.func21 (by kernel_rfl) rfl #[] rfl (by (try simp only [List.map_toArray, List.map_cons, List.map_nil]); first | done | rfl) ?_; (with_reducible refine (ballcocklaw23_awake.calls true _ rfl aw).mono ?_); rintro e w' ⟨rfl, ⟨nd, rfl⟩⟩; refine ⟨_, rfl, ?_⟩) | (go_at_call 21; (with_reducible refine (ballcocklaw23_awake.calls true _ rfl aw).mono ?_); rintro e w' ⟨rfl, ⟨nd, rfl⟩⟩) | ((with_reducible refine (cl_add _ _ _).mono ?_); rintro e w' ⟨rfl, ⟨nd, rfl⟩⟩) | ((with_reducible refine (cl_mul _ _ _).mono ?_); rintro e w' ⟨rfl, ⟨nd, rfl⟩⟩) | ((with_reducible refine (eval_Bin.calls 3 _ _ _ _ (bin_sub _ _)).mono ?_); rintro e w' ⟨rfl, ⟨nd, rfl⟩⟩))
  go_ret
  exact ⟨by first | rfl | (simp; done) | (simp [*]; done), by repeat (first | exact Drawn0.refl _ | apply Drawn0.step)⟩
def ballcocklaw23_EvalLaws.f (_ _ _ : Int) : Option Bool := some true
theorem ballcocklaw23_EvalLaws.calls (a0 a1 a2 : Int) (r : Bool) (w : World) (h : ballcocklaw23_EvalLaws.f a0 a1 a2 = some r) : Calls Try.prog 8 #[.int .i64 a0, .int .i64 a1, .int .i64 a2] w fun e w' => e = .returned (.bool r) ∧ Below w.heap.size w w' := by
  have e : r = true := (Option.some.inj h).symm
  subst e
  exact (laws a0 a1 a2 w).mono fun e w' h => ⟨h.1, h.2.below⟩
theorem pure_holds (a0 a1 a2 : Int) (_h0 : (Lit.int .i64 a0).wf = true) (_h1 : (Lit.int .i64 a1).wf = true) (_h2 : (Lit.int .i64 a2).wf = true) : ballcocklaw23_EvalLaws.f a0 a1 a2 = some true := rfl
end Go.Proofs.Ytbnligfjcmmjpaa.PEvL
