-- Written by a program of this session (wip/myprint.py).
import Derived.Test.YtpcdcanmbokpfaaPRatx0
import Derived.Test.YtpcdcanmbokpfaaPRatx3
namespace Go.Proofs.Ytpcdcanmbokpfaa.PRat
open Go.RowKit Go.Proofs.YtpcdcanmbokpfaaW.PrintWords Go.Proofs.YtpcdcanmbokpfaaW.PrintLast Go.Proofs.YtpcdcanmbokpfaaW.PrintMore
attribute [local go_sem] max2_int min2_int max_two min_two max_three min_three max_four min_four   -- for this text's walks alone
set_option linter.unusedVariables false
set_option linter.unusedSimpArgs false

/-! ### rat_sum: function 26 -/
mutual
def rat_sum.j0 : Nat → Int → Int → Int → Int → Bool → Bool → Bool → Option (Int × Int × Bool)
  | 0, _, _, _, _, _, _, _ => none
  | k + 1, x11, x12, x13, x14, x15, x16, x82 => if x82 = true then (rat_sum.j1 k x13 x14 x11 x12 x16) else (rat_sum.j1 k x11 x12 x13 x14 x15)
def rat_sum.j1 : Nat → Int → Int → Int → Int → Bool → Option (Int × Int × Bool)
  | 0, _, _, _, _, _ => none
  | k + 1, x11, x12, x13, x14, x15 => (bits_Sub64.f x12 x14 0).bind fun bt117 => ((bits_Sub64.f x11 x13 bt117.2).bind fun bt119 => (some (bt119.1, bt117.1, x15)))
end
def rat_sum.f (k : Nat) (a0 : Int) (a1 : Int) (a2 : Int) (a3 : Int) : Option (Int × Int × Bool) := (rat_size.f a0).bind fun t105 => ((rat_size.f a1).bind fun t106 => ((bits_Mul64.f t105 t106).bind fun bt107 => ((rat_size.f a2).bind fun t109 => ((rat_size.f a3).bind fun t110 => ((bits_Mul64.f t109 t110).bind fun bt111 => (if (((decide (a0 < 0)) != (decide (a1 < 0))) == ((decide (a2 < 0)) != (decide (a3 < 0)))) = true then ((bits_Add64.f bt107.2 bt111.2 0).bind fun bt113 => ((bits_Add64.f bt107.1 bt111.1 bt113.2).bind fun bt115 => (some (bt115.1, bt113.1, ((decide (a0 < 0)) != (decide (a1 < 0))))))) else (if bt107.1 < bt111.1 then (rat_sum.j0 k bt107.1 bt107.2 bt111.1 bt111.2 ((decide (a0 < 0)) != (decide (a1 < 0))) ((decide (a2 < 0)) != (decide (a3 < 0))) true) else (if bt107.1 = bt111.1 then (rat_sum.j0 k bt107.1 bt107.2 bt111.1 bt111.2 ((decide (a0 < 0)) != (decide (a1 < 0))) ((decide (a2 < 0)) != (decide (a3 < 0))) (decide (bt107.2 < bt111.2))) else (rat_sum.j0 k bt107.1 bt107.2 bt111.1 bt111.2 ((decide (a0 < 0)) != (decide (a1 < 0))) ((decide (a2 < 0)) != (decide (a3 < 0))) false)))))))))
theorem rat_sum.mono_l : ∀ k, (∀ y0 y1 y2 y3 y4 y5 y6, LeO (rat_sum.j0 k y0 y1 y2 y3 y4 y5 y6) (rat_sum.j0 (k + 1) y0 y1 y2 y3 y4 y5 y6)) ∧ (∀ y0 y1 y2 y3 y4, LeO (rat_sum.j1 k y0 y1 y2 y3 y4) (rat_sum.j1 (k + 1) y0 y1 y2 y3 y4))
  | 0 => ⟨fun _ _ _ _ _ _ _ r h => by simp [rat_sum.j0] at h, fun _ _ _ _ _ r h => by simp [rat_sum.j1] at h⟩
  | k + 1 => by
    obtain ⟨ih0, ih1⟩ := rat_sum.mono_l k
    refine ⟨?_, ?_⟩
    · intro y0 y1 y2 y3 y4 y5 y6
      unfold rat_sum.j0
      repeat' first
      | (with_reducible exact ih0 _ _ _ _ _ _ _)
      | (with_reducible exact ih1 _ _ _ _ _)
      | (with_reducible exact LeO.refl _)
      | (with_reducible exact LeO.none _)
      | (with_reducible refine LeO.ite ?_ ?_)
      | (with_reducible refine LeO.bind ?_ (fun _ => ?_))
      | exact ih0 _ _ _ _ _ _ _
      | exact ih1 _ _ _ _ _
      | exact LeO.none _
      | refine LeO.ite ?_ ?_
      | refine LeO.bind ?_ (fun _ => ?_)
    · intro y0 y1 y2 y3 y4
      unfold rat_sum.j1
      repeat' first
      | (with_reducible exact ih0 _ _ _ _ _ _ _)
      | (with_reducible exact ih1 _ _ _ _ _)
      | (with_reducible exact LeO.refl _)
      | (with_reducible exact LeO.none _)
      | (with_reducible refine LeO.ite ?_ ?_)
      | (with_reducible refine LeO.bind ?_ (fun _ => ?_))
      | exact ih0 _ _ _ _ _ _ _
      | exact ih1 _ _ _ _ _
      | exact LeO.none _
      | refine LeO.ite ?_ ?_
      | refine LeO.bind ?_ (fun _ => ?_)
theorem rat_sum.mono : ∀ a0 a1 a2 a3 k, LeO (rat_sum.f k a0 a1 a2 a3) (rat_sum.f (k + 1) a0 a1 a2 a3) := by
  intro a0 a1 a2 a3 k
  obtain ⟨ih0, ih1⟩ := rat_sum.mono_l k
  unfold rat_sum.f
  repeat' first
      | (with_reducible exact ih0 _ _ _ _ _ _ _)
      | (with_reducible exact ih1 _ _ _ _ _)
      | (with_reducible exact LeO.refl _)
      | (with_reducible exact LeO.none _)
      | (with_reducible refine LeO.ite ?_ ?_)
      | (with_reducible refine LeO.bind ?_ (fun _ => ?_))
      | exact ih0 _ _ _ _ _ _ _
      | exact ih1 _ _ _ _ _
      | exact LeO.none _
      | refine LeO.ite ?_ ?_
      | refine LeO.bind ?_ (fun _ => ?_)
set_option maxHeartbeats 8000000 in
set_option maxRecDepth 100000 in
theorem rat_sum.calls (k : Nat) (a0 : Int) (a1 : Int) (a2 : Int) (a3 : Int) (r1 : Int) (r2 : Int) (r3 : Bool) (w : World) (h : rat_sum.f k a0 a1 a2 a3 = some (r1, r2, r3)) :
    Calls Try.prog 26 #[.int .i64 a0, .int .i64 a1, .int .i64 a2, .int .i64 a3] w fun e w' => e = .returned (.tuple #[.int .u64 r1, .int .u64 r2, .bool r3]) ∧ Drawn0 w w' := by
  have H : ((rat_size.f a0).bind fun t105 => ((rat_size.f a1).bind fun t106 => ((bits_Mul64.f t105 t106).bind fun bt107 => ((rat_size.f a2).bind fun t109 => ((rat_size.f a3).bind fun t110 => ((bits_Mul64.f t109 t110).bind fun bt111 => (if (((decide (a0 < 0)) != (decide (a1 < 0))) == ((decide (a2 < 0)) != (decide (a3 < 0)))) = true then ((bits_Add64.f bt107.2 bt111.2 0).bind fun bt113 => ((bits_Add64.f bt107.1 bt111.1 bt113.2).bind fun bt115 => (some (bt115.1, bt113.1, ((decide (a0 < 0)) != (decide (a1 < 0))))))) else (if bt107.1 < bt111.1 then (rat_sum.j0 k bt107.1 bt107.2 bt111.1 bt111.2 ((decide (a0 < 0)) != (decide (a1 < 0))) ((decide (a2 < 0)) != (decide (a3 < 0))) true) else (if bt107.1 = bt111.1 then (rat_sum.j0 k bt107.1 bt107.2 bt111.1 bt111.2 ((decide (a0 < 0)) != (decide (a1 < 0))) ((decide (a2 < 0)) != (decide (a3 < 0))) (decide (bt107.2 < bt111.2))) else (rat_sum.j0 k bt107.1 bt107.2 bt111.1 bt111.2 ((decide (a0 < 0)) != (decide (a1 < 0))) ((decide (a2 < 0)) != (decide (a3 < 0))) false)))))))))) = some (r1, r2, r3) := h
  clear h
  replace H := Option.bind_eq_some_iff.mp H
  obtain ⟨t105, A50, H⟩ := H
  replace H : ((rat_size.f a1).bind fun t106 => ((bits_Mul64.f t105 t106).bind fun bt107 => ((rat_size.f a2).bind fun t109 => ((rat_size.f a3).bind fun t110 => ((bits_Mul64.f t109 t110).bind fun bt111 => (if (((decide (a0 < 0)) != (decide (a1 < 0))) == ((decide (a2 < 0)) != (decide (a3 < 0)))) = true then ((bits_Add64.f bt107.2 bt111.2 0).bind fun bt113 => ((bits_Add64.f bt107.1 bt111.1 bt113.2).bind fun bt115 => (some (bt115.1, bt113.1, ((decide (a0 < 0)) != (decide (a1 < 0))))))) else (if bt107.1 < bt111.1 then (rat_sum.j0 k bt107.1 bt107.2 bt111.1 bt111.2 ((decide (a0 < 0)) != (decide (a1 < 0))) ((decide (a2 < 0)) != (decide (a3 < 0))) true) else (if bt107.1 = bt111.1 then (rat_sum.j0 k bt107.1 bt107.2 bt111.1 bt111.2 ((decide (a0 < 0)) != (decide (a1 < 0))) ((decide (a2 < 0)) != (decide (a3 < 0))) (decide (bt107.2 < bt111.2))) else (rat_sum.j0 k bt107.1 bt107.2 bt111.1 bt111.2 ((decide (a0 < 0)) != (decide (a1 < 0))) ((decide (a2 < 0)) != (decide (a3 < 0))) false))))))))) = some (r1, r2, r3) := H
  have A5 := Aside0.mk A50
  clear A50
  replace H := Option.bind_eq_some_iff.mp H
  obtain ⟨t106, A60, H⟩ := H
  replace H : ((bits_Mul64.f t105 t106).bind fun bt107 => ((rat_size.f a2).bind fun t109 => ((rat_size.f a3).bind fun t110 => ((bits_Mul64.f t109 t110).bind fun bt111 => (if (((decide (a0 < 0)) != (decide (a1 < 0))) == ((decide (a2 < 0)) != (decide (a3 < 0)))) = true then ((bits_Add64.f bt107.2 bt111.2 0).bind fun bt113 => ((bits_Add64.f bt107.1 bt111.1 bt113.2).bind fun bt115 => (some (bt115.1, bt113.1, ((decide (a0 < 0)) != (decide (a1 < 0))))))) else (if bt107.1 < bt111.1 then (rat_sum.j0 k bt107.1 bt107.2 bt111.1 bt111.2 ((decide (a0 < 0)) != (decide (a1 < 0))) ((decide (a2 < 0)) != (decide (a3 < 0))) true) else (if bt107.1 = bt111.1 then (rat_sum.j0 k bt107.1 bt107.2 bt111.1 bt111.2 ((decide (a0 < 0)) != (decide (a1 < 0))) ((decide (a2 < 0)) != (decide (a3 < 0))) (decide (bt107.2 < bt111.2))) else (rat_sum.j0 k bt107.1 bt107.2 bt111.1 bt111.2 ((decide (a0 < 0)) != (decide (a1 < 0))) ((decide (a2 < 0)) != (decide (a3 < 0))) false)))))))) = some (r1, r2, r3) := H
  have A6 := Aside0.mk A60
  clear A60
  replace H := Option.bind_eq_some_iff.mp H
  obtain ⟨⟨t107, t108⟩, A70, H⟩ := H
  replace H : ((rat_size.f a2).bind fun t109 => ((rat_size.f a3).bind fun t110 => ((bits_Mul64.f t109 t110).bind fun bt111 => (if (((decide (a0 < 0)) != (decide (a1 < 0))) == ((decide (a2 < 0)) != (decide (a3 < 0)))) = true then ((bits_Add64.f t108 bt111.2 0).bind fun bt113 => ((bits_Add64.f t107 bt111.1 bt113.2).bind fun bt115 => (some (bt115.1, bt113.1, ((decide (a0 < 0)) != (decide (a1 < 0))))))) else (if t107 < bt111.1 then (rat_sum.j0 k t107 t108 bt111.1 bt111.2 ((decide (a0 < 0)) != (decide (a1 < 0))) ((decide (a2 < 0)) != (decide (a3 < 0))) true) else (if t107 = bt111.1 then (rat_sum.j0 k t107 t108 bt111.1 bt111.2 ((decide (a0 < 0)) != (decide (a1 < 0))) ((decide (a2 < 0)) != (decide (a3 < 0))) (decide (t108 < bt111.2))) else (rat_sum.j0 k t107 t108 bt111.1 bt111.2 ((decide (a0 < 0)) != (decide (a1 < 0))) ((decide (a2 < 0)) != (decide (a3 < 0))) false))))))) = some (r1, r2, r3) := H
  have A7 := Aside0.mk A70
  clear A70
  replace H := Option.bind_eq_some_iff.mp H
  obtain ⟨t109, A80, H⟩ := H
  replace H : ((rat_size.f a3).bind fun t110 => ((bits_Mul64.f t109 t110).bind fun bt111 => (if (((decide (a0 < 0)) != (decide (a1 < 0))) == ((decide (a2 < 0)) != (decide (a3 < 0)))) = true then ((bits_Add64.f t108 bt111.2 0).bind fun bt113 => ((bits_Add64.f t107 bt111.1 bt113.2).bind fun bt115 => (some (bt115.1, bt113.1, ((decide (a0 < 0)) != (decide (a1 < 0))))))) else (if t107 < bt111.1 then (rat_sum.j0 k t107 t108 bt111.1 bt111.2 ((decide (a0 < 0)) != (decide (a1 < 0))) ((decide (a2 < 0)) != (decide (a3 < 0))) true) else (if t107 = bt111.1 then (rat_sum.j0 k t107 t108 bt111.1 bt111.2 ((decide (a0 < 0)) != (decide (a1 < 0))) ((decide (a2 < 0)) != (decide (a3 < 0))) (decide (t108 < bt111.2))) else (rat_sum.j0 k t107 t108 bt111.1 bt111.2 ((decide (a0 < 0)) != (decide (a1 < 0))) ((decide (a2 < 0)) != (decide (a3 < 0))) false)))))) = some (r1, r2, r3) := H
  have A8 := Aside0.mk A80
  clear A80
  replace H := Option.bind_eq_some_iff.mp H
  obtain ⟨t110, A90, H⟩ := H
  replace H : ((bits_Mul64.f t109 t110).bind fun bt111 => (if (((decide (a0 < 0)) != (decide (a1 < 0))) == ((decide (a2 < 0)) != (decide (a3 < 0)))) = true then ((bits_Add64.f t108 bt111.2 0).bind fun bt113 => ((bits_Add64.f t107 bt111.1 bt113.2).bind fun bt115 => (some (bt115.1, bt113.1, ((decide (a0 < 0)) != (decide (a1 < 0))))))) else (if t107 < bt111.1 then (rat_sum.j0 k t107 t108 bt111.1 bt111.2 ((decide (a0 < 0)) != (decide (a1 < 0))) ((decide (a2 < 0)) != (decide (a3 < 0))) true) else (if t107 = bt111.1 then (rat_sum.j0 k t107 t108 bt111.1 bt111.2 ((decide (a0 < 0)) != (decide (a1 < 0))) ((decide (a2 < 0)) != (decide (a3 < 0))) (decide (t108 < bt111.2))) else (rat_sum.j0 k t107 t108 bt111.1 bt111.2 ((decide (a0 < 0)) != (decide (a1 < 0))) ((decide (a2 < 0)) != (decide (a3 < 0))) false))))) = some (r1, r2, r3) := H
  have A9 := Aside0.mk A90
  clear A90
  replace H := Option.bind_eq_some_iff.mp H
  obtain ⟨⟨t111, t112⟩, A100, H⟩ := H
  replace H : (if (((decide (a0 < 0)) != (decide (a1 < 0))) == ((decide (a2 < 0)) != (decide (a3 < 0)))) = true then ((bits_Add64.f t108 t112 0).bind fun bt113 => ((bits_Add64.f t107 t111 bt113.2).bind fun bt115 => (some (bt115.1, bt113.1, ((decide (a0 < 0)) != (decide (a1 < 0))))))) else (if t107 < t111 then (rat_sum.j0 k t107 t108 t111 t112 ((decide (a0 < 0)) != (decide (a1 < 0))) ((decide (a2 < 0)) != (decide (a3 < 0))) true) else (if t107 = t111 then (rat_sum.j0 k t107 t108 t111 t112 ((decide (a0 < 0)) != (decide (a1 < 0))) ((decide (a2 < 0)) != (decide (a3 < 0))) (decide (t108 < t112))) else (rat_sum.j0 k t107 t108 t111 t112 ((decide (a0 < 0)) != (decide (a1 < 0))) ((decide (a2 < 0)) != (decide (a3 < 0))) false)))) = some (r1, r2, r3) := H
  have A10 := Aside0.mk A100
  clear A100
  by_cases c11 : (((decide (a0 < 0)) != (decide (a1 < 0))) == ((decide (a2 < 0)) != (decide (a3 < 0)))) = true
  · rw [if_pos c11] at H
    have c11b0 : (((decide (a0 < 0)) != (decide (a1 < 0))) == ((decide (a2 < 0)) != (decide (a3 < 0)))) = true := c11
    (try (have c11b1 : decide (((decide (a0 < 0)) != (decide (a1 < 0))) = ((decide (a2 < 0)) != (decide (a3 < 0)))) = true := by simpa using c11))
    (try (have c11b2 : (((decide (a0 < 0)) != (decide (a1 < 0))) == ((decide (a2 < 0)) != (decide (a3 < 0)))) = true := by simpa using c11))
    (try (have c11b3 : (((!((decide (a0 < 0)) == (decide (a1 < 0))))) == ((!((decide (a2 < 0)) == (decide (a3 < 0)))))) = true := by simpa [bne] using c11))
    clear c11
    replace H := Option.bind_eq_some_iff.mp H
    obtain ⟨⟨t113, t114⟩, A120, H⟩ := H
    replace H : ((bits_Add64.f t107 t111 t114).bind fun bt115 => (some (bt115.1, t113, ((decide (a0 < 0)) != (decide (a1 < 0)))))) = some (r1, r2, r3) := H
    have A12 := Aside0.mk A120
    clear A120
    replace H := Option.bind_eq_some_iff.mp H
    obtain ⟨⟨t115, t116⟩, A130, H⟩ := H
    replace H : (some (t115, t113, ((decide (a0 < 0)) != (decide (a1 < 0))))) = some (r1, r2, r3) := H
    have A13 := Aside0.mk A130
    clear A130
    simp only [Option.some.injEq, Prod.mk.injEq] at H
    obtain ⟨rfl, rfl, rfl⟩ := H
    go_enter Try.func26, Try.ntmps26
    go_wp2_with (first | ((with_reducible refine gate_callee (f := 25) rfl ?_); refine goesL_ (some 27) rfl rfl Try.func25 (by kernel_rfl) rfl #[.int .i64 a0] rfl (by (try simp only [List.map_toArray, List.map_cons, List.map_nil]); first | done | rfl | (simp only [List.length_drop, List.length_take]; rfl)) ?_; (with_reducible refine (rat_size.calls a0 t105 _ A5.out).mono ?_); rintro e w' ⟨rfl, ⟨nd, rfl⟩⟩; refine ⟨_, rfl, ?_⟩) | ((with_reducible refine gate_callee (f := 25) rfl ?_); refine goesL_ (some 29) rfl rfl Try.func25 (by kernel_rfl) rfl #[.int .i64 a1] rfl (by (try simp only [List.map_toArray, List.map_cons, List.map_nil]); first | done | rfl | (simp only [List.length_drop, List.length_take]; rfl)) ?_; (with_reducible refine (rat_size.calls a1 t106 _ A6.out).mono ?_); rintro e w' ⟨rfl, ⟨nd, rfl⟩⟩; refine ⟨_, rfl, ?_⟩) | ((with_reducible refine gate_callee (f := 40) rfl ?_); refine goesL_ (some 30) rfl rfl Try.func40 (by kernel_rfl) rfl #[.int .u64 t105, .int .u64 t106] rfl (by (try simp only [List.map_toArray, List.map_cons, List.map_nil]); first | done | rfl | (simp only [List.length_drop, List.length_take]; rfl)) ?_; (with_reducible refine (bits_Mul64.calls t105 t106 t107 t108 _ A7.out).mono ?_); rintro e w' ⟨rfl, ⟨nd, rfl⟩⟩; refine ⟨_, rfl, ?_⟩) | ((with_reducible refine gate_callee (f := 25) rfl ?_); refine goesL_ (some 35) rfl rfl Try.func25 (by kernel_rfl) rfl #[.int .i64 a2] rfl (by (try simp only [List.map_toArray, List.map_cons, List.map_nil]); first | done | rfl | (simp only [List.length_drop, List.length_take]; rfl)) ?_; (with_reducible refine (rat_size.calls a2 t109 _ A8.out).mono ?_); rintro e w' ⟨rfl, ⟨nd, rfl⟩⟩; refine ⟨_, rfl, ?_⟩) | ((with_reducible refine gate_callee (f := 25) rfl ?_); refine goesL_ (some 37) rfl rfl Try.func25 (by kernel_rfl) rfl #[.int .i64 a3] rfl (by (try simp only [List.map_toArray, List.map_cons, List.map_nil]); first | done | rfl | (simp only [List.length_drop, List.length_take]; rfl)) ?_; (with_reducible refine (rat_size.calls a3 t110 _ A9.out).mono ?_); rintro e w' ⟨rfl, ⟨nd, rfl⟩⟩; refine ⟨_, rfl, ?_⟩) | ((with_reducible refine gate_callee (f := 40) rfl ?_); refine goesL_ (some 38) rfl rfl Try.func40 (by kernel_rfl) rfl #[.int .u64 t109, .int .u64 t110] rfl (by (try simp only [List.map_toArray, List.map_cons, List.map_nil]); first | done | rfl | (simp only [List.length_drop, List.length_take]; rfl)) ?_; (with_reducible refine (bits_Mul64.calls t109 t110 t111 t112 _ A10.out).mono ?_); rintro e w' ⟨rfl, ⟨nd, rfl⟩⟩; refine ⟨_, rfl, ?_⟩) | ((with_reducible refine gate_callee (f := 41) rfl ?_); refine goesX_ (some 57) rfl rfl #[.int .u64 t108, .int .u64 t112, .int .u64 0] rfl (by (try simp only [List.map_toArray, List.map_cons, List.map_nil]); first | done | rfl | (simp only [List.length_drop, List.length_take]; rfl)) ?_; (with_reducible refine (bits_Add64.calls t108 t112 0 t113 t114 _ A12.out).mono ?_); rintro e w' ⟨rfl, ⟨nd, rfl⟩⟩; refine ⟨_, rfl, ?_⟩) | ((with_reducible refine gate_callee (f := 41) rfl ?_); refine goesX_ (some 64) rfl rfl #[.int .u64 t107, .int .u64 t111, .int .u64 t114] rfl (by (try simp only [List.map_toArray, List.map_cons, List.map_nil]); first | done | rfl | (simp only [List.length_drop, List.length_take]; rfl)) ?_; (with_reducible refine (bits_Add64.calls t107 t111 t114 t115 t116 _ A13.out).mono ?_); rintro e w' ⟨rfl, ⟨nd, rfl⟩⟩; refine ⟨_, rfl, ?_⟩))
    go_ret3
    exact ⟨by first | rfl | (simp; done) | (simp [*]; done), by repeat (first | exact Drawn0.refl _ | apply Drawn0.step)⟩
  · rw [if_neg c11] at H
    have c11b0 : (((decide (a0 < 0)) != (decide (a1 < 0))) == ((decide (a2 < 0)) != (decide (a3 < 0)))) = false := by simpa using c11
    (try (have c11b1 : decide (((decide (a0 < 0)) != (decide (a1 < 0))) = ((decide (a2 < 0)) != (decide (a3 < 0)))) = false := by simpa using c11))
    (try (have c11b2 : (((decide (a0 < 0)) != (decide (a1 < 0))) == ((decide (a2 < 0)) != (decide (a3 < 0)))) = false := by simpa using c11))
    (try (have c11b3 : ¬ (((decide (a0 < 0)) != (decide (a1 < 0))) = ((decide (a2 < 0)) != (decide (a3 < 0)))) := by simpa using c11))
    (try (have c11b4 : (((!((decide (a0 < 0)) == (decide (a1 < 0))))) == ((!((decide (a2 < 0)) == (decide (a3 < 0)))))) = false := by simpa [bne] using c11))
    clear c11
    have HC14 := Aside0.mk H
    clear H
    go_enter Try.func26, Try.ntmps26
    go_upto_region 8 with (first | ((with_reducible refine gate_callee (f := 25) rfl ?_); refine goesL_ (some 27) rfl rfl Try.func25 (by kernel_rfl) rfl #[.int .i64 a0] rfl (by (try simp only [List.map_toArray, List.map_cons, List.map_nil]); first | done | rfl | (simp only [List.length_drop, List.length_take]; rfl)) ?_; (with_reducible refine (rat_size.calls a0 t105 _ A5.out).mono ?_); rintro e w' ⟨rfl, ⟨nd, rfl⟩⟩; refine ⟨_, rfl, ?_⟩) | ((with_reducible refine gate_callee (f := 25) rfl ?_); refine goesL_ (some 29) rfl rfl Try.func25 (by kernel_rfl) rfl #[.int .i64 a1] rfl (by (try simp only [List.map_toArray, List.map_cons, List.map_nil]); first | done | rfl | (simp only [List.length_drop, List.length_take]; rfl)) ?_; (with_reducible refine (rat_size.calls a1 t106 _ A6.out).mono ?_); rintro e w' ⟨rfl, ⟨nd, rfl⟩⟩; refine ⟨_, rfl, ?_⟩) | ((with_reducible refine gate_callee (f := 40) rfl ?_); refine goesL_ (some 30) rfl rfl Try.func40 (by kernel_rfl) rfl #[.int .u64 t105, .int .u64 t106] rfl (by (try simp only [List.map_toArray, List.map_cons, List.map_nil]); first | done | rfl | (simp only [List.length_drop, List.length_take]; rfl)) ?_; (with_reducible refine (bits_Mul64.calls t105 t106 t107 t108 _ A7.out).mono ?_); rintro e w' ⟨rfl, ⟨nd, rfl⟩⟩; refine ⟨_, rfl, ?_⟩) | ((with_reducible refine gate_callee (f := 25) rfl ?_); refine goesL_ (some 35) rfl rfl Try.func25 (by kernel_rfl) rfl #[.int .i64 a2] rfl (by (try simp only [List.map_toArray, List.map_cons, List.map_nil]); first | done | rfl | (simp only [List.length_drop, List.length_take]; rfl)) ?_; (with_reducible refine (rat_size.calls a2 t109 _ A8.out).mono ?_); rintro e w' ⟨rfl, ⟨nd, rfl⟩⟩; refine ⟨_, rfl, ?_⟩) | ((with_reducible refine gate_callee (f := 25) rfl ?_); refine goesL_ (some 37) rfl rfl Try.func25 (by kernel_rfl) rfl #[.int .i64 a3] rfl (by (try simp only [List.map_toArray, List.map_cons, List.map_nil]); first | done | rfl | (simp only [List.length_drop, List.length_take]; rfl)) ?_; (with_reducible refine (rat_size.calls a3 t110 _ A9.out).mono ?_); rintro e w' ⟨rfl, ⟨nd, rfl⟩⟩; refine ⟨_, rfl, ?_⟩) | ((with_reducible refine gate_callee (f := 40) rfl ?_); refine goesL_ (some 38) rfl rfl Try.func40 (by kernel_rfl) rfl #[.int .u64 t109, .int .u64 t110] rfl (by (try simp only [List.map_toArray, List.map_cons, List.map_nil]); first | done | rfl | (simp only [List.length_drop, List.length_take]; rfl)) ?_; (with_reducible refine (bits_Mul64.calls t109 t110 t111 t112 _ A10.out).mono ?_); rintro e w' ⟨rfl, ⟨nd, rfl⟩⟩; refine ⟨_, rfl, ?_⟩))
    (try simp only [Act.put, List.setIfInBounds_toArray, List.set_cons_zero, List.set_cons_succ])
    go_cut [82] (fun v82 wc => ∃ (kq : Nat) (x82_13 : Bool), v82 = .bool x82_13 ∧ Aside0 (rat_sum.j0 kq t107 t108 t111 t112 ((decide (a0 < 0)) != (decide (a1 < 0))) ((decide (a2 < 0)) != (decide (a3 < 0))) x82_13 = some (r1, r2, r3)) ∧ Aside0 (kq ≤ k) ∧ Drawn0 w wc)
    case first =>
      have H := HC14.out
      clear HC14
      by_cases c15 : t107 < t111
      · rw [if_pos c15] at H
        have c15b0 : decide (t107 < t111) = true := decide_eq_true c15
        clear c15
        (first | rw [c15b0] | (simp only [i64_w, i32_w]; rw [c15b0]) | skip)
        have H' := Aside0.mk H
        clear H
        go_wp2
        go_meet
        case rel => exact ⟨_, (true), (by first | rfl | (simp; done) | (simp [*]; done)), H', ⟨by first | omega | exact Nat.le_refl _⟩, by repeat (first | exact Drawn0.refl _ | apply Drawn0.step)⟩
      · rw [if_neg c15] at H
        have c15b0 : decide (t107 < t111) = false := decide_eq_false c15
        clear c15
        (first | rw [c15b0] | (simp only [i64_w, i32_w]; rw [c15b0]) | skip)
        by_cases c16 : t107 = t111
        · rw [if_pos c16] at H
          have c16b0 : (t107 == t111) = true := beq_iff_eq.mpr c16
          have c16b1 : (t107 != t111) = false := bne_eq_false_iff_eq.mpr c16
          clear c16
          have H' := Aside0.mk H
          clear H
          go_wp2
          go_meet
          case rel => exact ⟨_, (decide (t108 < t112)), (by first | rfl | (simp; done) | (simp [*]; done)), H', ⟨by first | omega | exact Nat.le_refl _⟩, by repeat (first | exact Drawn0.refl _ | apply Drawn0.step)⟩
        · rw [if_neg c16] at H
          have c16b0 : (t107 == t111) = false := beq_eq_false_iff_ne.mpr c16
          have c16b1 : (t107 != t111) = true := bne_iff_ne.mpr c16
          have H' := Aside0.mk H
          clear H
          go_wp2
          go_meet
          case rel => exact ⟨_, (false), (by first | rfl | (simp; done) | (simp [*]; done)), H', ⟨by first | omega | exact Nat.le_refl _⟩, by repeat (first | exact Drawn0.refl _ | apply Drawn0.step)⟩
    case rest =>
      clear HC14
      try clear c1
      try clear c2
      try clear p2
      try clear c4
      try clear c11
      try clear c11b0
      try clear c11b1
      try clear c11b2
      try clear c15
      try clear c15b0
      try clear c16
      try clear c16b0
      try clear c16b1
      obtain ⟨kq, x82_13, rfl, HA, HJ13, ⟨mc13, rfl⟩⟩ := hcut
      cases kq with
      | zero => exact absurd HA.out (by simp [rat_sum.j0])
      | succ kj13 =>
        have H := HA.out
        clear HA
        simp only [rat_sum.j0] at H
        have HC17 := Aside0.mk H
        clear H
        go_upto_if 82 with (fail)
        go_cut [11, 12, 13, 14, 15] (fun v11 v12 v13 v14 v15 wc => ∃ (kq : Nat) (x11_16 : Int) (x12_16 : Int) (x13_16 : Int) (x14_16 : Int) (x15_16 : Bool), v11 = .int .u64 x11_16 ∧ v12 = .int .u64 x12_16 ∧ v13 = .int .u64 x13_16 ∧ v14 = .int .u64 x14_16 ∧ v15 = .bool x15_16 ∧ Aside0 (rat_sum.j1 kq x11_16 x12_16 x13_16 x14_16 x15_16 = some (r1, r2, r3)) ∧ Aside0 (kq ≤ kj13) ∧ Drawn0 w wc)
        case first =>
          have H := HC17.out
          clear HC17
          by_cases c18 : x82_13 = true
          · subst c18
            have H1 : (rat_sum.j1 kj13 t111 t112 t107 t108 ((decide (a2 < 0)) != (decide (a3 < 0)))) = some (r1, r2, r3) := by rw [if_pos rfl] at H; exact H
            clear H
            have H := H1
            clear H1
            have H' := Aside0.mk H
            clear H
            go_wp2
            go_meet
            case rel => exact ⟨_, (t111), (t112), (t107), (t108), (((decide (a2 < 0)) != (decide (a3 < 0)))), (by first | rfl | (simp; done) | (simp [*]; done)), (by first | rfl | (simp; done) | (simp [*]; done)), (by first | rfl | (simp; done) | (simp [*]; done)), (by first | rfl | (simp; done) | (simp [*]; done)), (by first | rfl | (simp; done) | (simp [*]; done)), H', ⟨by have := HJ13.out; first | omega | exact Nat.le_refl _⟩, by repeat (first | exact Drawn0.refl _ | apply Drawn0.step)⟩
          · replace c18 := Bool.eq_false_iff.mpr c18
            subst c18
            have H1 : (rat_sum.j1 kj13 t107 t108 t111 t112 ((decide (a0 < 0)) != (decide (a1 < 0)))) = some (r1, r2, r3) := by rw [if_neg (show ¬ (false = true) by decide)] at H; exact H
            clear H
            have H := H1
            clear H1
            have H' := Aside0.mk H
            clear H
            go_wp2
            go_meet
            case rel => exact ⟨_, (t107), (t108), (t111), (t112), (((decide (a0 < 0)) != (decide (a1 < 0)))), (by first | rfl | (simp; done) | (simp [*]; done)), (by first | rfl | (simp; done) | (simp [*]; done)), (by first | rfl | (simp; done) | (simp [*]; done)), (by first | rfl | (simp; done) | (simp [*]; done)), (by first | rfl | (simp; done) | (simp [*]; done)), H', ⟨by have := HJ13.out; first | omega | exact Nat.le_refl _⟩, by repeat (first | exact Drawn0.refl _ | apply Drawn0.step)⟩
        case rest =>
          clear HC17
          try clear c1
          try clear c2
          try clear p2
          try clear c4
          try clear c11
          try clear c11b0
          try clear c11b1
          try clear c11b2
          try clear c13
          try clear c15
          try clear c15b0
          try clear c16
          try clear c16b0
          try clear c16b1
          try clear c18
          try clear p2
          obtain ⟨kq, x11_16, x12_16, x13_16, x14_16, x15_16, rfl, rfl, rfl, rfl, rfl, HA, HJ16, ⟨mc16, rfl⟩⟩ := hcut
          cases kq with
          | zero => exact absurd HA.out (by simp [rat_sum.j1])
          | succ kj16 =>
            have H := HA.out
            clear HA
            simp only [rat_sum.j1] at H
            replace H := Option.bind_eq_some_iff.mp H
            obtain ⟨⟨t117, t118⟩, A190, H⟩ := H
            replace H : ((bits_Sub64.f x11_16 x13_16 t118).bind fun bt119 => (some (bt119.1, t117, x15_16))) = some (r1, r2, r3) := H
            have A19 := Aside0.mk A190
            clear A190
            replace H := Option.bind_eq_some_iff.mp H
            obtain ⟨⟨t119, t120⟩, A200, H⟩ := H
            replace H : (some (t119, t117, x15_16)) = some (r1, r2, r3) := H
            have A20 := Aside0.mk A200
            clear A200
            simp only [Option.some.injEq, Prod.mk.injEq] at H
            obtain ⟨rfl, rfl, rfl⟩ := H
            go_wp2_with (first | ((with_reducible refine gate_callee (f := 42) rfl ?_); refine goesX_ (some 91) rfl rfl #[.int .u64 x12_16, .int .u64 x14_16, .int .u64 0] rfl (by (try simp only [List.map_toArray, List.map_cons, List.map_nil]); first | done | rfl | (simp only [List.length_drop, List.length_take]; rfl)) ?_; (with_reducible refine (bits_Sub64.calls x12_16 x14_16 0 t117 t118 _ A19.out).mono ?_); rintro e w' ⟨rfl, ⟨nd, rfl⟩⟩; refine ⟨_, rfl, ?_⟩) | ((with_reducible refine gate_callee (f := 42) rfl ?_); refine goesX_ (some 98) rfl rfl #[.int .u64 x11_16, .int .u64 x13_16, .int .u64 t118] rfl (by (try simp only [List.map_toArray, List.map_cons, List.map_nil]); first | done | rfl | (simp only [List.length_drop, List.length_take]; rfl)) ?_; (with_reducible refine (bits_Sub64.calls x11_16 x13_16 t118 t119 t120 _ A20.out).mono ?_); rintro e w' ⟨rfl, ⟨nd, rfl⟩⟩; refine ⟨_, rfl, ?_⟩))
            go_ret3
            exact ⟨by first | rfl | (simp; done) | (simp [*]; done), by repeat (first | exact Drawn0.refl _ | apply Drawn0.step)⟩

end Go.Proofs.Ytpcdcanmbokpfaa.PRat
