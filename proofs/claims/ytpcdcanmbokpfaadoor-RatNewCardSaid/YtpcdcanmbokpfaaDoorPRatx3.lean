-- Written by a program of this session (wip/myprint.py).
import Derived.Test.YtpcdcanmbokpfaaDoorPRatx0
import Derived.Test.YtpcdcanmbokpfaaDoorPRatx2
namespace Go.Proofs.YtpcdcanmbokpfaaDoor.PRat
open Go.RowKit Go.Proofs.YtpcdcanmbokpfaaDoorW.PrintWords Go.Proofs.YtpcdcanmbokpfaaDoorW.PrintLast Go.Proofs.YtpcdcanmbokpfaaDoorW.PrintMore
attribute [local go_sem] max2_int min2_int max_two min_two max_three min_three max_four min_four   -- for this text's walks alone
set_option linter.unusedVariables false
set_option linter.unusedSimpArgs false

/-! ### bits_Sub64: function 37 -/
def bits_Sub64.f (a0 : Int) (a1 : Int) (a2 : Int) : Option (Int × Int) := if 0 ≤ a0 ∧ 0 ≤ a1 ∧ 0 ≤ a2 ∧ a2 ≤ 1 ∧ a1 < 18446744073709551616 then some ((a0 + 18446744073709551616 - a1 - a2) % 18446744073709551616, if a0 < a1 + a2 then 1 else 0) else none
theorem bits_Sub64.calls (a0 : Int) (a1 : Int) (a2 : Int) (r1 : Int) (r2 : Int) (w : World) (h : bits_Sub64.f a0 a1 a2 = some (r1, r2)) :
    XCalls Tryd.prog 37 #[.int .u64 a0, .int .u64 a1, .int .u64 a2] w fun e w' => e = .returned (.tuple #[.int .u64 r1, .int .u64 r2]) ∧ Drawn0 w w' := by
  unfold bits_Sub64.f at h
  split at h
  · rename_i hc
    have e := Option.some.inj h
    simp only [Prod.mk.injEq] at e
    obtain ⟨rfl, rfl⟩ := e
    obtain ⟨h0, h1, h2, h3, h4⟩ := hc
    obtain ⟨x, rfl⟩ := Int.eq_ofNat_of_zero_le h0
    obtain ⟨y, rfl⟩ := Int.eq_ofNat_of_zero_le h1
    obtain ⟨b, rfl⟩ := Int.eq_ofNat_of_zero_le h2
    refine ⟨_, ?_, rfl, Drawn0.refl _⟩
    rw [run_callFunc_extern Tryd.func37 (by kernel_rfl) (by kernel_rfl) (by kernel_rfl) (e := subEntry) (by kernel_rfl), run_sub x y b (by omega)]
    simp only [Result.andThen]
    have e1 : (((x + 18446744073709551616 - y - b) % 18446744073709551616 : Nat) : Int) = ((x : Int) + 18446744073709551616 - y - b) % 18446744073709551616 := by omega
    have e2 : ((if x < y + b then 1 else 0 : Nat) : Int) = if (x : Int) < y + b then 1 else 0 := by
      by_cases hlt : x < y + b
      · rw [if_pos hlt, if_pos (by omega)]; rfl
      · rw [if_neg hlt, if_neg (by omega)]; rfl
    rw [e1, e2]
  · cases h

/-! ### rat_sum: function 23 -/
mutual
def rat_sum.j0 : Nat → Int → Int → Int → Int → Bool → Bool → Bool → Option (Int × Int × Bool)
  | 0, _, _, _, _, _, _, _ => none
  | k + 1, x11, x12, x13, x14, x15, x16, x82 => if x82 = true then (rat_sum.j1 k x13 x14 x11 x12 x16) else (rat_sum.j1 k x11 x12 x13 x14 x15)
def rat_sum.j1 : Nat → Int → Int → Int → Int → Bool → Option (Int × Int × Bool)
  | 0, _, _, _, _, _ => none
  | k + 1, x11, x12, x13, x14, x15 => (bits_Sub64.f x12 x14 0).bind fun bt119 => ((bits_Sub64.f x11 x13 bt119.2).bind fun bt121 => (some (bt121.1, bt119.1, x15)))
end
def rat_sum.f (k : Nat) (a0 : Int) (a1 : Int) (a2 : Int) (a3 : Int) : Option (Int × Int × Bool) := (rat_size.f a0).bind fun t107 => ((rat_size.f a1).bind fun t108 => ((bits_Mul64.f t107 t108).bind fun bt109 => ((rat_size.f a2).bind fun t111 => ((rat_size.f a3).bind fun t112 => ((bits_Mul64.f t111 t112).bind fun bt113 => (if (((decide (a0 < 0)) != (decide (a1 < 0))) == ((decide (a2 < 0)) != (decide (a3 < 0)))) = true then ((bits_Add64.f bt109.2 bt113.2 0).bind fun bt115 => ((bits_Add64.f bt109.1 bt113.1 bt115.2).bind fun bt117 => (some (bt117.1, bt115.1, ((decide (a0 < 0)) != (decide (a1 < 0))))))) else (if bt109.1 < bt113.1 then (rat_sum.j0 k bt109.1 bt109.2 bt113.1 bt113.2 ((decide (a0 < 0)) != (decide (a1 < 0))) ((decide (a2 < 0)) != (decide (a3 < 0))) true) else (if bt109.1 = bt113.1 then (rat_sum.j0 k bt109.1 bt109.2 bt113.1 bt113.2 ((decide (a0 < 0)) != (decide (a1 < 0))) ((decide (a2 < 0)) != (decide (a3 < 0))) (decide (bt109.2 < bt113.2))) else (rat_sum.j0 k bt109.1 bt109.2 bt113.1 bt113.2 ((decide (a0 < 0)) != (decide (a1 < 0))) ((decide (a2 < 0)) != (decide (a3 < 0))) false)))))))))
theorem rat_sum.mono_l : ∀ k, (∀ y0 y1 y2 y3 y4 y5 y6, LeO (rat_sum.j0 k y0 y1 y2 y3 y4 y5 y6) (rat_sum.j0 (k + 1) y0 y1 y2 y3 y4 y5 y6)) ∧ (∀ y0 y1 y2 y3 y4, LeO (rat_sum.j1 k y0 y1 y2 y3 y4) (rat_sum.j1 (k + 1) y0 y1 y2 y3 y4))
  | 0 => ⟨fun _ _ _ _ _ _ _ r h => by simp [rat_sum.j0] at h, fun _ _ _ _ _ r h => by simp [rat_sum.j1] at h⟩
  | k + 1 => by
    obtain ⟨ih0, ih1⟩ := rat_sum.mono_l k
    refine ⟨?_, ?_⟩
    · intro y0 y1 y2 y3 y4 y5 y6
      unfold rat_sum.j0
      repeat' first
      | (with_reducible exact ih0 _ _ _ _ _ _ _)
      | (with_reducible exact ih1 _ _ _ _ _)
      | (with_reducible exact LeO.refl _)
      | (with_reducible exact LeO.none _)
      | (with_reducible refine LeO.ite ?_ ?_)
      | (with_reducible refine LeO.bind ?_ (fun _ => ?_))
      | exact ih0 _ _ _ _ _ _ _
      | exact ih1 _ _ _ _ _
      | exact LeO.none _
      | refine LeO.ite ?_ ?_
      | refine LeO.bind ?_ (fun _ => ?_)
    · intro y0 y1 y2 y3 y4
      unfold rat_sum.j1
      repeat' first
      | (with_reducible exact ih0 _ _ _ _ _ _ _)
      | (with_reducible exact ih1 _ _ _ _ _)
      | (with_reducible exact LeO.refl _)
      | (with_reducible exact LeO.none _)
      | (with_reducible refine LeO.ite ?_ ?_)
      | (with_reducible refine LeO.bind ?_ (fun _ => ?_))
      | exact ih0 _ _ _ _ _ _ _
      | exact ih1 _ _ _ _ _
      | exact LeO.none _
      | refine LeO.ite ?_ ?_
      | refine LeO.bind ?_ (fun _ => ?_)
theorem rat_sum.mono : ∀ a0 a1 a2 a3 k, LeO (rat_sum.f k a0 a1 a2 a3) (rat_sum.f (k + 1) a0 a1 a2 a3) := by
  intro a0 a1 a2 a3 k
  obtain ⟨ih0, ih1⟩ := rat_sum.mono_l k
  unfold rat_sum.f
  repeat' first
      | (with_reducible exact ih0 _ _ _ _ _ _ _)
      | (with_reducible exact ih1 _ _ _ _ _)
      | (with_reducible exact LeO.refl _)
      | (with_reducible exact LeO.none _)
      | (with_reducible refine LeO.ite ?_ ?_)
      | (with_reducible refine LeO.bind ?_ (fun _ => ?_))
      | exact ih0 _ _ _ _ _ _ _
      | exact ih1 _ _ _ _ _
      | exact LeO.none _
      | refine LeO.ite ?_ ?_
      | refine LeO.bind ?_ (fun _ => ?_)
set_option maxHeartbeats 8000000 in
set_option maxRecDepth 100000 in
theorem rat_sum.calls (k : Nat) (a0 : Int) (a1 : Int) (a2 : Int) (a3 : Int) (r1 : Int) (r2 : Int) (r3 : Bool) (w : World) (h : rat_sum.f k a0 a1 a2 a3 = some (r1, r2, r3)) :
    Calls Tryd.prog 23 #[.int .i64 a0, .int .i64 a1, .int .i64 a2, .int .i64 a3] w fun e w' => e = .returned (.tuple #[.int .u64 r1, .int .u64 r2, .bool r3]) ∧ Drawn0 w w' := by
  have H : ((rat_size.f a0).bind fun t107 => ((rat_size.f a1).bind fun t108 => ((bits_Mul64.f t107 t108).bind fun bt109 => ((rat_size.f a2).bind fun t111 => ((rat_size.f a3).bind fun t112 => ((bits_Mul64.f t111 t112).bind fun bt113 => (if (((decide (a0 < 0)) != (decide (a1 < 0))) == ((decide (a2 < 0)) != (decide (a3 < 0)))) = true then ((bits_Add64.f bt109.2 bt113.2 0).bind fun bt115 => ((bits_Add64.f bt109.1 bt113.1 bt115.2).bind fun bt117 => (some (bt117.1, bt115.1, ((decide (a0 < 0)) != (decide (a1 < 0))))))) else (if bt109.1 < bt113.1 then (rat_sum.j0 k bt109.1 bt109.2 bt113.1 bt113.2 ((decide (a0 < 0)) != (decide (a1 < 0))) ((decide (a2 < 0)) != (decide (a3 < 0))) true) else (if bt109.1 = bt113.1 then (rat_sum.j0 k bt109.1 bt109.2 bt113.1 bt113.2 ((decide (a0 < 0)) != (decide (a1 < 0))) ((decide (a2 < 0)) != (decide (a3 < 0))) (decide (bt109.2 < bt113.2))) else (rat_sum.j0 k bt109.1 bt109.2 bt113.1 bt113.2 ((decide (a0 < 0)) != (decide (a1 < 0))) ((decide (a2 < 0)) != (decide (a3 < 0))) false)))))))))) = some (r1, r2, r3) := h
  clear h
  replace H := Option.bind_eq_some_iff.mp H
  obtain ⟨t107, A50, H⟩ := H
  replace H : ((rat_size.f a1).bind fun t108 => ((bits_Mul64.f t107 t108).bind fun bt109 => ((rat_size.f a2).bind fun t111 => ((rat_size.f a3).bind fun t112 => ((bits_Mul64.f t111 t112).bind fun bt113 => (if (((decide (a0 < 0)) != (decide (a1 < 0))) == ((decide (a2 < 0)) != (decide (a3 < 0)))) = true then ((bits_Add64.f bt109.2 bt113.2 0).bind fun bt115 => ((bits_Add64.f bt109.1 bt113.1 bt115.2).bind fun bt117 => (some (bt117.1, bt115.1, ((decide (a0 < 0)) != (decide (a1 < 0))))))) else (if bt109.1 < bt113.1 then (rat_sum.j0 k bt109.1 bt109.2 bt113.1 bt113.2 ((decide (a0 < 0)) != (decide (a1 < 0))) ((decide (a2 < 0)) != (decide (a3 < 0))) true) else (if bt109.1 = bt113.1 then (rat_sum.j0 k bt109.1 bt109.2 bt113.1 bt113.2 ((decide (a0 < 0)) != (decide (a1 < 0))) ((decide (a2 < 0)) != (decide (a3 < 0))) (decide (bt109.2 < bt113.2))) else (rat_sum.j0 k bt109.1 bt109.2 bt113.1 bt113.2 ((decide (a0 < 0)) != (decide (a1 < 0))) ((decide (a2 < 0)) != (decide (a3 < 0))) false))))))))) = some (r1, r2, r3) := H
  have A5 := Aside0.mk A50
  clear A50
  replace H := Option.bind_eq_some_iff.mp H
  obtain ⟨t108, A60, H⟩ := H
  replace H : ((bits_Mul64.f t107 t108).bind fun bt109 => ((rat_size.f a2).bind fun t111 => ((rat_size.f a3).bind fun t112 => ((bits_Mul64.f t111 t112).bind fun bt113 => (if (((decide (a0 < 0)) != (decide (a1 < 0))) == ((decide (a2 < 0)) != (decide (a3 < 0)))) = true then ((bits_Add64.f bt109.2 bt113.2 0).bind fun bt115 => ((bits_Add64.f bt109.1 bt113.1 bt115.2).bind fun bt117 => (some (bt117.1, bt115.1, ((decide (a0 < 0)) != (decide (a1 < 0))))))) else (if bt109.1 < bt113.1 then (rat_sum.j0 k bt109.1 bt109.2 bt113.1 bt113.2 ((decide (a0 < 0)) != (decide (a1 < 0))) ((decide (a2 < 0)) != (decide (a3 < 0))) true) else (if bt109.1 = bt113.1 then (rat_sum.j0 k bt109.1 bt109.2 bt113.1 bt113.2 ((decide (a0 < 0)) != (decide (a1 < 0))) ((decide (a2 < 0)) != (decide (a3 < 0))) (decide (bt109.2 < bt113.2))) else (rat_sum.j0 k bt109.1 bt109.2 bt113.1 bt113.2 ((decide (a0 < 0)) != (decide (a1 < 0))) ((decide (a2 < 0)) != (decide (a3 < 0))) false)))))))) = some (r1, r2, r3) := H
  have A6 := Aside0.mk A60
  clear A60
  replace H := Option.bind_eq_some_iff.mp H
  obtain ⟨⟨t109, t110⟩, A70, H⟩ := H
  replace H : ((rat_size.f a2).bind fun t111 => ((rat_size.f a3).bind fun t112 => ((bits_Mul64.f t111 t112).bind fun bt113 => (if (((decide (a0 < 0)) != (decide (a1 < 0))) == ((decide (a2 < 0)) != (decide (a3 < 0)))) = true then ((bits_Add64.f t110 bt113.2 0).bind fun bt115 => ((bits_Add64.f t109 bt113.1 bt115.2).bind fun bt117 => (some (bt117.1, bt115.1, ((decide (a0 < 0)) != (decide (a1 < 0))))))) else (if t109 < bt113.1 then (rat_sum.j0 k t109 t110 bt113.1 bt113.2 ((decide (a0 < 0)) != (decide (a1 < 0))) ((decide (a2 < 0)) != (decide (a3 < 0))) true) else (if t109 = bt113.1 then (rat_sum.j0 k t109 t110 bt113.1 bt113.2 ((decide (a0 < 0)) != (decide (a1 < 0))) ((decide (a2 < 0)) != (decide (a3 < 0))) (decide (t110 < bt113.2))) else (rat_sum.j0 k t109 t110 bt113.1 bt113.2 ((decide (a0 < 0)) != (decide (a1 < 0))) ((decide (a2 < 0)) != (decide (a3 < 0))) false))))))) = some (r1, r2, r3) := H
  have A7 := Aside0.mk A70
  clear A70
  replace H := Option.bind_eq_some_iff.mp H
  obtain ⟨t111, A80, H⟩ := H
  replace H : ((rat_size.f a3).bind fun t112 => ((bits_Mul64.f t111 t112).bind fun bt113 => (if (((decide (a0 < 0)) != (decide (a1 < 0))) == ((decide (a2 < 0)) != (decide (a3 < 0)))) = true then ((bits_Add64.f t110 bt113.2 0).bind fun bt115 => ((bits_Add64.f t109 bt113.1 bt115.2).bind fun bt117 => (some (bt117.1, bt115.1, ((decide (a0 < 0)) != (decide (a1 < 0))))))) else (if t109 < bt113.1 then (rat_sum.j0 k t109 t110 bt113.1 bt113.2 ((decide (a0 < 0)) != (decide (a1 < 0))) ((decide (a2 < 0)) != (decide (a3 < 0))) true) else (if t109 = bt113.1 then (rat_sum.j0 k t109 t110 bt113.1 bt113.2 ((decide (a0 < 0)) != (decide (a1 < 0))) ((decide (a2 < 0)) != (decide (a3 < 0))) (decide (t110 < bt113.2))) else (rat_sum.j0 k t109 t110 bt113.1 bt113.2 ((decide (a0 < 0)) != (decide (a1 < 0))) ((decide (a2 < 0)) != (decide (a3 < 0))) false)))))) = some (r1, r2, r3) := H
  have A8 := Aside0.mk A80
  clear A80
  replace H := Option.bind_eq_some_iff.mp H
  obtain ⟨t112, A90, H⟩ := H
  replace H : ((bits_Mul64.f t111 t112).bind fun bt113 => (if (((decide (a0 < 0)) != (decide (a1 < 0))) == ((decide (a2 < 0)) != (decide (a3 < 0)))) = true then ((bits_Add64.f t110 bt113.2 0).bind fun bt115 => ((bits_Add64.f t109 bt113.1 bt115.2).bind fun bt117 => (some (bt117.1, bt115.1, ((decide (a0 < 0)) != (decide (a1 < 0))))))) else (if t109 < bt113.1 then (rat_sum.j0 k t109 t110 bt113.1 bt113.2 ((decide (a0 < 0)) != (decide (a1 < 0))) ((decide (a2 < 0)) != (decide (a3 < 0))) true) else (if t109 = bt113.1 then (rat_sum.j0 k t109 t110 bt113.1 bt113.2 ((decide (a0 < 0)) != (decide (a1 < 0))) ((decide (a2 < 0)) != (decide (a3 < 0))) (decide (t110 < bt113.2))) else (rat_sum.j0 k t109 t110 bt113.1 bt113.2 ((decide (a0 < 0)) != (decide (a1 < 0))) ((decide (a2 < 0)) != (decide (a3 < 0))) false))))) = some (r1, r2, r3) := H
  have A9 := Aside0.mk A90
  clear A90
  replace H := Option.bind_eq_some_iff.mp H
  obtain ⟨⟨t113, t114⟩, A100, H⟩ := H
  replace H : (if (((decide (a0 < 0)) != (decide (a1 < 0))) == ((decide (a2 < 0)) != (decide (a3 < 0)))) = true then ((bits_Add64.f t110 t114 0).bind fun bt115 => ((bits_Add64.f t109 t113 bt115.2).bind fun bt117 => (some (bt117.1, bt115.1, ((decide (a0 < 0)) != (decide (a1 < 0))))))) else (if t109 < t113 then (rat_sum.j0 k t109 t110 t113 t114 ((decide (a0 < 0)) != (decide (a1 < 0))) ((decide (a2 < 0)) != (decide (a3 < 0))) true) else (if t109 = t113 then (rat_sum.j0 k t109 t110 t113 t114 ((decide (a0 < 0)) != (decide (a1 < 0))) ((decide (a2 < 0)) != (decide (a3 < 0))) (decide (t110 < t114))) else (rat_sum.j0 k t109 t110 t113 t114 ((decide (a0 < 0)) != (decide (a1 < 0))) ((decide (a2 < 0)) != (decide (a3 < 0))) false)))) = some (r1, r2, r3) := H
  have A10 := Aside0.mk A100
  clear A100
  by_cases c11 : (((decide (a0 < 0)) != (decide (a1 < 0))) == ((decide (a2 < 0)) != (decide (a3 < 0)))) = true
  · rw [if_pos c11] at H
    have c11b0 : (((decide (a0 < 0)) != (decide (a1 < 0))) == ((decide (a2 < 0)) != (decide (a3 < 0)))) = true := c11
    (try (have c11b1 : decide (((decide (a0 < 0)) != (decide (a1 < 0))) = ((decide (a2 < 0)) != (decide (a3 < 0)))) = true := by simpa using c11))
    (try (have c11b2 : (((decide (a0 < 0)) != (decide (a1 < 0))) == ((decide (a2 < 0)) != (decide (a3 < 0)))) = true := by simpa using c11))
    (try (have c11b3 : (((!((decide (a0 < 0)) == (decide (a1 < 0))))) == ((!((decide (a2 < 0)) == (decide (a3 < 0)))))) = true := by simpa [bne] using c11))
    clear c11
    replace H := Option.bind_eq_some_iff.mp H
    obtain ⟨⟨t115, t116⟩, A120, H⟩ := H
    replace H : ((bits_Add64.f t109 t113 t116).bind fun bt117 => (some (bt117.1, t115, ((decide (a0 < 0)) != (decide (a1 < 0)))))) = some (r1, r2, r3) := H
    have A12 := Aside0.mk A120
    clear A120
    replace H := Option.bind_eq_some_iff.mp H
    obtain ⟨⟨t117, t118⟩, A130, H⟩ := H
    replace H : (some (t117, t115, ((decide (a0 < 0)) != (decide (a1 < 0))))) = some (r1, r2, r3) := H
    have A13 := Aside0.mk A130
    clear A130
    simp only [Option.some.injEq, Prod.mk.injEq] at H
    obtain ⟨rfl, rfl, rfl⟩ := H
    go_enter Tryd.func23, Tryd.ntmps23
    go_wp2_with (first | ((with_reducible refine gate_callee (f := 17) rfl ?_); refine goesL_ (some 27) rfl rfl Tryd.func17 (by kernel_rfl) rfl #[.int .i64 a0] rfl (by (try simp only [List.map_toArray, List.map_cons, List.map_nil]); first | done | rfl | (simp only [List.length_drop, List.length_take]; rfl)) ?_; (with_reducible refine (rat_size.calls a0 t107 _ A5.out).mono ?_); rintro e w' ⟨rfl, ⟨nd, rfl⟩⟩; refine ⟨_, rfl, ?_⟩) | ((with_reducible refine gate_callee (f := 17) rfl ?_); refine goesL_ (some 29) rfl rfl Tryd.func17 (by kernel_rfl) rfl #[.int .i64 a1] rfl (by (try simp only [List.map_toArray, List.map_cons, List.map_nil]); first | done | rfl | (simp only [List.length_drop, List.length_take]; rfl)) ?_; (with_reducible refine (rat_size.calls a1 t108 _ A6.out).mono ?_); rintro e w' ⟨rfl, ⟨nd, rfl⟩⟩; refine ⟨_, rfl, ?_⟩) | ((with_reducible refine gate_callee (f := 35) rfl ?_); refine goesL_ (some 30) rfl rfl Tryd.func35 (by kernel_rfl) rfl #[.int .u64 t107, .int .u64 t108] rfl (by (try simp only [List.map_toArray, List.map_cons, List.map_nil]); first | done | rfl | (simp only [List.length_drop, List.length_take]; rfl)) ?_; (with_reducible refine (bits_Mul64.calls t107 t108 t109 t110 _ A7.out).mono ?_); rintro e w' ⟨rfl, ⟨nd, rfl⟩⟩; refine ⟨_, rfl, ?_⟩) | ((with_reducible refine gate_callee (f := 17) rfl ?_); refine goesL_ (some 35) rfl rfl Tryd.func17 (by kernel_rfl) rfl #[.int .i64 a2] rfl (by (try simp only [List.map_toArray, List.map_cons, List.map_nil]); first | done | rfl | (simp only [List.length_drop, List.length_take]; rfl)) ?_; (with_reducible refine (rat_size.calls a2 t111 _ A8.out).mono ?_); rintro e w' ⟨rfl, ⟨nd, rfl⟩⟩; refine ⟨_, rfl, ?_⟩) | ((with_reducible refine gate_callee (f := 17) rfl ?_); refine goesL_ (some 37) rfl rfl Tryd.func17 (by kernel_rfl) rfl #[.int .i64 a3] rfl (by (try simp only [List.map_toArray, List.map_cons, List.map_nil]); first | done | rfl | (simp only [List.length_drop, List.length_take]; rfl)) ?_; (with_reducible refine (rat_size.calls a3 t112 _ A9.out).mono ?_); rintro e w' ⟨rfl, ⟨nd, rfl⟩⟩; refine ⟨_, rfl, ?_⟩) | ((with_reducible refine gate_callee (f := 35) rfl ?_); refine goesL_ (some 38) rfl rfl Tryd.func35 (by kernel_rfl) rfl #[.int .u64 t111, .int .u64 t112] rfl (by (try simp only [List.map_toArray, List.map_cons, List.map_nil]); first | done | rfl | (simp only [List.length_drop, List.length_take]; rfl)) ?_; (with_reducible refine (bits_Mul64.calls t111 t112 t113 t114 _ A10.out).mono ?_); rintro e w' ⟨rfl, ⟨nd, rfl⟩⟩; refine ⟨_, rfl, ?_⟩) | ((with_reducible refine gate_callee (f := 36) rfl ?_); refine goesX_ (some 57) rfl rfl #[.int .u64 t110, .int .u64 t114, .int .u64 0] rfl (by (try simp only [List.map_toArray, List.map_cons, List.map_nil]); first | done | rfl | (simp only [List.length_drop, List.length_take]; rfl)) ?_; (with_reducible refine (bits_Add64.calls t110 t114 0 t115 t116 _ A12.out).mono ?_); rintro e w' ⟨rfl, ⟨nd, rfl⟩⟩; refine ⟨_, rfl, ?_⟩) | ((with_reducible refine gate_callee (f := 36) rfl ?_); refine goesX_ (some 64) rfl rfl #[.int .u64 t109, .int .u64 t113, .int .u64 t116] rfl (by (try simp only [List.map_toArray, List.map_cons, List.map_nil]); first | done | rfl | (simp only [List.length_drop, List.length_take]; rfl)) ?_; (with_reducible refine (bits_Add64.calls t109 t113 t116 t117 t118 _ A13.out).mono ?_); rintro e w' ⟨rfl, ⟨nd, rfl⟩⟩; refine ⟨_, rfl, ?_⟩))
    go_ret3
    exact ⟨by first | rfl | (simp; done) | (simp [*]; done), by repeat (first | exact Drawn0.refl _ | apply Drawn0.step)⟩
  · rw [if_neg c11] at H
    have c11b0 : (((decide (a0 < 0)) != (decide (a1 < 0))) == ((decide (a2 < 0)) != (decide (a3 < 0)))) = false := by simpa using c11
    (try (have c11b1 : decide (((decide (a0 < 0)) != (decide (a1 < 0))) = ((decide (a2 < 0)) != (decide (a3 < 0)))) = false := by simpa using c11))
    (try (have c11b2 : (((decide (a0 < 0)) != (decide (a1 < 0))) == ((decide (a2 < 0)) != (decide (a3 < 0)))) = false := by simpa using c11))
    (try (have c11b3 : ¬ (((decide (a0 < 0)) != (decide (a1 < 0))) = ((decide (a2 < 0)) != (decide (a3 < 0)))) := by simpa using c11))
    (try (have c11b4 : (((!((decide (a0 < 0)) == (decide (a1 < 0))))) == ((!((decide (a2 < 0)) == (decide (a3 < 0)))))) = false := by simpa [bne] using c11))
    clear c11
    have HC14 := Aside0.mk H
    clear H
    go_enter Tryd.func23, Tryd.ntmps23
    go_upto_region 8 with (first | ((with_reducible refine gate_callee (f := 17) rfl ?_); refine goesL_ (some 27) rfl rfl Tryd.func17 (by kernel_rfl) rfl #[.int .i64 a0] rfl (by (try simp only [List.map_toArray, List.map_cons, List.map_nil]); first | done | rfl | (simp only [List.length_drop, List.length_take]; rfl)) ?_; (with_reducible refine (rat_size.calls a0 t107 _ A5.out).mono ?_); rintro e w' ⟨rfl, ⟨nd, rfl⟩⟩; refine ⟨_, rfl, ?_⟩) | ((with_reducible refine gate_callee (f := 17) rfl ?_); refine goesL_ (some 29) rfl rfl Tryd.func17 (by kernel_rfl) rfl #[.int .i64 a1] rfl (by (try simp only [List.map_toArray, List.map_cons, List.map_nil]); first | done | rfl | (simp only [List.length_drop, List.length_take]; rfl)) ?_; (with_reducible refine (rat_size.calls a1 t108 _ A6.out).mono ?_); rintro e w' ⟨rfl, ⟨nd, rfl⟩⟩; refine ⟨_, rfl, ?_⟩) | ((with_reducible refine gate_callee (f := 35) rfl ?_); refine goesL_ (some 30) rfl rfl Tryd.func35 (by kernel_rfl) rfl #[.int .u64 t107, .int .u64 t108] rfl (by (try simp only [List.map_toArray, List.map_cons, List.map_nil]); first | done | rfl | (simp only [List.length_drop, List.length_take]; rfl)) ?_; (with_reducible refine (bits_Mul64.calls t107 t108 t109 t110 _ A7.out).mono ?_); rintro e w' ⟨rfl, ⟨nd, rfl⟩⟩; refine ⟨_, rfl, ?_⟩) | ((with_reducible refine gate_callee (f := 17) rfl ?_); refine goesL_ (some 35) rfl rfl Tryd.func17 (by kernel_rfl) rfl #[.int .i64 a2] rfl (by (try simp only [List.map_toArray, List.map_cons, List.map_nil]); first | done | rfl | (simp only [List.length_drop, List.length_take]; rfl)) ?_; (with_reducible refine (rat_size.calls a2 t111 _ A8.out).mono ?_); rintro e w' ⟨rfl, ⟨nd, rfl⟩⟩; refine ⟨_, rfl, ?_⟩) | ((with_reducible refine gate_callee (f := 17) rfl ?_); refine goesL_ (some 37) rfl rfl Tryd.func17 (by kernel_rfl) rfl #[.int .i64 a3] rfl (by (try simp only [List.map_toArray, List.map_cons, List.map_nil]); first | done | rfl | (simp only [List.length_drop, List.length_take]; rfl)) ?_; (with_reducible refine (rat_size.calls a3 t112 _ A9.out).mono ?_); rintro e w' ⟨rfl, ⟨nd, rfl⟩⟩; refine ⟨_, rfl, ?_⟩) | ((with_reducible refine gate_callee (f := 35) rfl ?_); refine goesL_ (some 38) rfl rfl Tryd.func35 (by kernel_rfl) rfl #[.int .u64 t111, .int .u64 t112] rfl (by (try simp only [List.map_toArray, List.map_cons, List.map_nil]); first | done | rfl | (simp only [List.length_drop, List.length_take]; rfl)) ?_; (with_reducible refine (bits_Mul64.calls t111 t112 t113 t114 _ A10.out).mono ?_); rintro e w' ⟨rfl, ⟨nd, rfl⟩⟩; refine ⟨_, rfl, ?_⟩))
    (try simp only [Act.put, List.setIfInBounds_toArray, List.set_cons_zero, List.set_cons_succ])
    go_cut [82] (fun v82 wc => ∃ (kq : Nat) (x82_13 : Bool), v82 = .bool x82_13 ∧ Aside0 (rat_sum.j0 kq t109 t110 t113 t114 ((decide (a0 < 0)) != (decide (a1 < 0))) ((decide (a2 < 0)) != (decide (a3 < 0))) x82_13 = some (r1, r2, r3)) ∧ Aside0 (kq ≤ k) ∧ Drawn0 w wc)
    case first =>
      have H := HC14.out
      clear HC14
      by_cases c15 : t109 < t113
      · rw [if_pos c15] at H
        have c15b0 : decide (t109 < t113) = true := decide_eq_true c15
        clear c15
        (first | rw [c15b0] | (simp only [i64_w, i32_w]; rw [c15b0]) | skip)
        have H' := Aside0.mk H
        clear H
        go_wp2
        go_meet
        case rel => exact ⟨_, (true), (by first | rfl | (simp; done) | (simp [*]; done)), H', ⟨by first | omega | exact Nat.le_refl _⟩, by repeat (first | exact Drawn0.refl _ | apply Drawn0.step)⟩
      · rw [if_neg c15] at H
        have c15b0 : decide (t109 < t113) = false := decide_eq_false c15
        clear c15
        (first | rw [c15b0] | (simp only [i64_w, i32_w]; rw [c15b0]) | skip)
        by_cases c16 : t109 = t113
        · rw [if_pos c16] at H
          have c16b0 : (t109 == t113) = true := beq_iff_eq.mpr c16
          have c16b1 : (t109 != t113) = false := bne_eq_false_iff_eq.mpr c16
          clear c16
          have H' := Aside0.mk H
          clear H
          go_wp2
          go_meet
          case rel => exact ⟨_, (decide (t110 < t114)), (by first | rfl | (simp; done) | (simp [*]; done)), H', ⟨by first | omega | exact Nat.le_refl _⟩, by repeat (first | exact Drawn0.refl _ | apply Drawn0.step)⟩
        · rw [if_neg c16] at H
          have c16b0 : (t109 == t113) = false := beq_eq_false_iff_ne.mpr c16
          have c16b1 : (t109 != t113) = true := bne_iff_ne.mpr c16
          have H' := Aside0.mk H
          clear H
          go_wp2
          go_meet
          case rel => exact ⟨_, (false), (by first | rfl | (simp; done) | (simp [*]; done)), H', ⟨by first | omega | exact Nat.le_refl _⟩, by repeat (first | exact Drawn0.refl _ | apply Drawn0.step)⟩
    case rest =>
      clear HC14
      try clear c1
      try clear c2
      try clear p2
      try clear c3
      try clear c11
      try clear c11b0
      try clear c11b1
      try clear c11b2
      try clear c15
      try clear c15b0
      try clear c16
      try clear c16b0
      try clear c16b1
      obtain ⟨kq, x82_13, rfl, HA, HJ13, ⟨mc13, rfl⟩⟩ := hcut
      cases kq with
      | zero => exact absurd HA.out (by simp [rat_sum.j0])
      | succ kj13 =>
        have H := HA.out
        clear HA
        simp only [rat_sum.j0] at H
        have HC17 := Aside0.mk H
        clear H
        go_upto_if 82 with (fail)
        go_cut [11, 12, 13, 14, 15] (fun v11 v12 v13 v14 v15 wc => ∃ (kq : Nat) (x11_16 : Int) (x12_16 : Int) (x13_16 : Int) (x14_16 : Int) (x15_16 : Bool), v11 = .int .u64 x11_16 ∧ v12 = .int .u64 x12_16 ∧ v13 = .int .u64 x13_16 ∧ v14 = .int .u64 x14_16 ∧ v15 = .bool x15_16 ∧ Aside0 (rat_sum.j1 kq x11_16 x12_16 x13_16 x14_16 x15_16 = some (r1, r2, r3)) ∧ Aside0 (kq ≤ kj13) ∧ Drawn0 w wc)
        case first =>
          have H := HC17.out
          clear HC17
          by_cases c18 : x82_13 = true
          · subst c18
            have H1 : (rat_sum.j1 kj13 t113 t114 t109 t110 ((decide (a2 < 0)) != (decide (a3 < 0)))) = some (r1, r2, r3) := by rw [if_pos rfl] at H; exact H
            clear H
            have H := H1
            clear H1
            have H' := Aside0.mk H
            clear H
            go_wp2
            go_meet
            case rel => exact ⟨_, (t113), (t114), (t109), (t110), (((decide (a2 < 0)) != (decide (a3 < 0)))), (by first | rfl | (simp; done) | (simp [*]; done)), (by first | rfl | (simp; done) | (simp [*]; done)), (by first | rfl | (simp; done) | (simp [*]; done)), (by first | rfl | (simp; done) | (simp [*]; done)), (by first | rfl | (simp; done) | (simp [*]; done)), H', ⟨by have := HJ13.out; first | omega | exact Nat.le_refl _⟩, by repeat (first | exact Drawn0.refl _ | apply Drawn0.step)⟩
          · replace c18 := Bool.eq_false_iff.mpr c18
            subst c18
            have H1 : (rat_sum.j1 kj13 t109 t110 t113 t114 ((decide (a0 < 0)) != (decide (a1 < 0)))) = some (r1, r2, r3) := by rw [if_neg (show ¬ (false = true) by decide)] at H; exact H
            clear H
            have H := H1
            clear H1
            have H' := Aside0.mk H
            clear H
            go_wp2
            go_meet
            case rel => exact ⟨_, (t109), (t110), (t113), (t114), (((decide (a0 < 0)) != (decide (a1 < 0)))), (by first | rfl | (simp; done) | (simp [*]; done)), (by first | rfl | (simp; done) | (simp [*]; done)), (by first | rfl | (simp; done) | (simp [*]; done)), (by first | rfl | (simp; done) | (simp [*]; done)), (by first | rfl | (simp; done) | (simp [*]; done)), H', ⟨by have := HJ13.out; first | omega | exact Nat.le_refl _⟩, by repeat (first | exact Drawn0.refl _ | apply Drawn0.step)⟩
        case rest =>
          clear HC17
          try clear c1
          try clear c2
          try clear p2
          try clear c3
          try clear c11
          try clear c11b0
          try clear c11b1
          try clear c11b2
          try clear c13
          try clear c15
          try clear c15b0
          try clear c16
          try clear c16b0
          try clear c16b1
          try clear c17
          try clear c18
          try clear p2
          obtain ⟨kq, x11_16, x12_16, x13_16, x14_16, x15_16, rfl, rfl, rfl, rfl, rfl, HA, HJ16, ⟨mc16, rfl⟩⟩ := hcut
          cases kq with
          | zero => exact absurd HA.out (by simp [rat_sum.j1])
          | succ kj16 =>
            have H := HA.out
            clear HA
            simp only [rat_sum.j1] at H
            replace H := Option.bind_eq_some_iff.mp H
            obtain ⟨⟨t119, t120⟩, A190, H⟩ := H
            replace H : ((bits_Sub64.f x11_16 x13_16 t120).bind fun bt121 => (some (bt121.1, t119, x15_16))) = some (r1, r2, r3) := H
            have A19 := Aside0.mk A190
            clear A190
            replace H := Option.bind_eq_some_iff.mp H
            obtain ⟨⟨t121, t122⟩, A200, H⟩ := H
            replace H : (some (t121, t119, x15_16)) = some (r1, r2, r3) := H
            have A20 := Aside0.mk A200
            clear A200
            simp only [Option.some.injEq, Prod.mk.injEq] at H
            obtain ⟨rfl, rfl, rfl⟩ := H
            go_wp2_with (first | ((with_reducible refine gate_callee (f := 37) rfl ?_); refine goesX_ (some 91) rfl rfl #[.int .u64 x12_16, .int .u64 x14_16, .int .u64 0] rfl (by (try simp only [List.map_toArray, List.map_cons, List.map_nil]); first | done | rfl | (simp only [List.length_drop, List.length_take]; rfl)) ?_; (with_reducible refine (bits_Sub64.calls x12_16 x14_16 0 t119 t120 _ A19.out).mono ?_); rintro e w' ⟨rfl, ⟨nd, rfl⟩⟩; refine ⟨_, rfl, ?_⟩) | ((with_reducible refine gate_callee (f := 37) rfl ?_); refine goesX_ (some 98) rfl rfl #[.int .u64 x11_16, .int .u64 x13_16, .int .u64 t120] rfl (by (try simp only [List.map_toArray, List.map_cons, List.map_nil]); first | done | rfl | (simp only [List.length_drop, List.length_take]; rfl)) ?_; (with_reducible refine (bits_Sub64.calls x11_16 x13_16 t120 t121 t122 _ A20.out).mono ?_); rintro e w' ⟨rfl, ⟨nd, rfl⟩⟩; refine ⟨_, rfl, ?_⟩))
            go_ret3
            exact ⟨by first | rfl | (simp; done) | (simp [*]; done), by repeat (first | exact Drawn0.refl _ | apply Drawn0.step)⟩

end Go.Proofs.YtpcdcanmbokpfaaDoor.PRat
