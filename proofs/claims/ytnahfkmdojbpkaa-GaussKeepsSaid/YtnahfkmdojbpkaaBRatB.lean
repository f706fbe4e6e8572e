import Derived.Test.YtnahfkmdojbpkaaBRatA
/-! Fractions of 64 bits, as the program reckons them: division of two words. -/
set_option linter.all false
set_option maxRecDepth 100000
namespace Go.E
open Go Go.Proofs Go.Eng
open BallQ (In64 Right q out fits put)
variable {TB : Nat → Option Obj}
theorem test_iff {q y0 rh c : Nat} (hq : q < 4294967296) (hy0 : y0 < 4294967296) (hr : rh < 4294967296) (hc : c < 4294967296) :
    (IntKind.u64.wrap (IntKind.u64.wrap (4294967296 * (rh : Int)) + (c : Int)) < IntKind.u64.wrap ((q : Int) * (y0 : Int))) = (4294967296 * rh + c < q * y0) := by
  have := test_eq hq hy0 hr hc
  rw [decide_eq_decide] at this
  exact propext this
/-- What stands in the slots while a digit is sought. -/
structure DV (σ : St) (G : Heap) (Y s u c1 c0 : Nat) : Prop where
  f2 : σ.F 2 = .p (.int .u64 (Y : Int))
  f8 : σ.F 8 = .p (.int .u64 (s : Int))
  f9 : σ.F 9 = .p (.int .u64 ((Y / 4294967296 : Nat) : Int))
  f10 : σ.F 10 = .p (.int .u64 ((Y % 4294967296 : Nat) : Int))
  f11 : σ.F 11 = .p (.int .u64 (u : Int))
  f13 : σ.F 13 = .p (.int .u64 (c1 : Int))
  f14 : σ.F 14 = .p (.int .u64 (c0 : Int))
  g : σ.G = G
theorem DV_iff {σ : St} {G : Heap} {Y s u c1 c0 : Nat} : DV σ G Y s u c1 c0 ↔ σ.F 2 = .p (.int .u64 (Y : Int)) ∧ σ.F 8 = .p (.int .u64 (s : Int)) ∧ σ.F 9 = .p (.int .u64 ((Y / 4294967296 : Nat) : Int)) ∧ σ.F 10 = .p (.int .u64 ((Y % 4294967296 : Nat) : Int)) ∧
    σ.F 11 = .p (.int .u64 (u : Int)) ∧ σ.F 13 = .p (.int .u64 (c1 : Int)) ∧ σ.F 14 = .p (.int .u64 (c0 : Int)) ∧ σ.G = G :=
  ⟨fun ⟨a, b, c, d, e, f, g, h⟩ => ⟨a, b, c, d, e, f, g, h⟩, fun ⟨a, b, c, d, e, f, g, h⟩ => ⟨a, b, c, d, e, f, g, h⟩⟩
theorem quo_eq {R y : Nat} (hR : R < 18446744073709551616) : IntKind.u64.wrap ((R : Int) / (y : Int)) = ((R / y : Nat) : Int) := by
  have := (sub_mul_eq (y1 := y) hR).1
  rwa [Int.tdiv_eq_ediv_of_nonneg (by omega)] at this
theorem rem_eq {R y : Nat} (hR : R < 18446744073709551616) : IntKind.u64.wrap ((R : Int) - IntKind.u64.wrap (((R / y : Nat) : Int) * (y : Int))) = ((R % y : Nat) : Int) := (sub_mul_eq (y1 := y) hR).2
theorem ge_iff {q n : Nat} {z : Int} (hz : z = (n : Int)) : (z ≤ (q : Int)) = (n ≤ q) := by subst hz; exact propext (by omega)
theorem lt_two {R Y c : Nat} (h : R < Y) (hc : c < 4294967296) : (R * 4294967296 + c) / Y < 4294967296 := by
  rw [Nat.div_lt_iff_lt_mul (by omega)]; omega
theorem wq_eq {Q v : Nat} (hQ : Q < 4294967296) (hv : v < 4294967296) : IntKind.u64.wrap (IntKind.u64.wrap ((Q : Int) * 4294967296) + (v : Int)) = ((Q * 4294967296 + v : Nat) : Int) := by
  rw [wu64, wu64]; omega
theorem div64_ev (hi lo y : Nat) (h : hi < y) (hy : y < 18446744073709551616) (hl : lo < 18446744073709551616) (d : Nat) (G : Heap) : Tel Try.prog TB d 85 [.p (.int .u64 (hi : Int)), .p (.int .u64 (lo : Int)), .p (.int .u64 (y : Int))] G
    (.tup [.p (.int .u64 (((hi * 18446744073709551616 + lo) / y : Nat) : Int)), .p (.int .u64 (((hi * 18446744073709551616 + lo) % y : Nat) : Int))]) G := by
  have y0 : ¬ (y = 0) := by omega
  have yh : ¬ ((y : Int) ≤ (hi : Int)) := by omega
  have yh' : ¬ (y ≤ hi) := by omega
  by_cases h0 : hi = 0
  · subst h0
    have e1 := (sub_mul_eq (y1 := y) hl).1
    rw [Int.tdiv_eq_ediv_of_nonneg (by omega)] at e1
    have e2 : Int.tmod (lo : Int) (y : Int) = ((lo % y : Nat) : Int) := by rw [Int.tmod_eq_emod_of_nonneg (by omega)]; rfl
    refine Tel.intro mix Try.func85 rfl (Nat.le_of_ble_eq_true rfl) {} (by kernel_rfl) (by kernel_rfl) ?_
    simp -implicitDefEqProofs [-Int.natCast_ediv, -Int.natCast_emod, -Int.natCast_mul, -Int.natCast_add, Try.results85, y0, yh, yh', e1, e2]
  · obtain ⟨s, hz, s63, sN, sL⟩ := zeros_ev (TB := TB) y (by omega) hy (d + 1) empty
    have es : IntKind.u64.wrap (s : Int) = (s : Int) := by rw [wu64]; clear sN sL; omega
    have es2 : IntKind.u64.wrap (64 - (s : Int)) = ((64 - s : Nat) : Int) := by rw [wu64]; clear sN sL; omega
    have s64 : s ≤ 64 := Nat.le_trans s63 (by decide)
    have p1 : 0 < 2 ^ s := Nat.pow_pos (by decide)
    have pp : 2 ^ (64 - s) * 2 ^ s = 18446744073709551616 := by rw [← Nat.pow_add, Nat.sub_add_cancel s64]
    obtain ⟨k1, k2, k3, k4⟩ := shift_parts pp h hl sN
    have eY : shlI .u64 (y : Int) (s : Int) = ((y * 2 ^ s : Nat) : Int) := by rw [shl_eq _ _ s64, Nat.mod_eq_of_lt sN]
    have eH : shlI .u64 (hi : Int) (s : Int) = ((hi * 2 ^ s : Nat) : Int) := by rw [shl_eq _ _ s64, Nat.mod_eq_of_lt k1]
    have eL : shlI .u64 (lo : Int) (s : Int) = ((lo * 2 ^ s % 18446744073709551616 : Nat) : Int) := shl_eq _ _ s64
    have eR : shrI .u64 (lo : Int) ((64 - s : Nat) : Int) = ((lo / 2 ^ (64 - s) : Nat) : Int) := shr_eq _ _ (Nat.sub_le _ _)
    have eO := or_eq k1 k2 s64
    have hLm : lo * 2 ^ s % 18446744073709551616 < 18446744073709551616 := Nat.mod_lt _ (by decide)
    have eq1 : (hi * 18446744073709551616 + lo) / y = (hi * 18446744073709551616 + lo) * 2 ^ s / (y * 2 ^ s) := by rw [Nat.mul_div_mul_right _ _ p1]
    have eq2 : (hi * 18446744073709551616 + lo) % y = (hi * 18446744073709551616 + lo) * 2 ^ s % (y * 2 ^ s) / 2 ^ s := by
      rw [Nat.mul_mod_mul_right, Nat.mul_div_cancel _ p1]
    rw [eq1, eq2, k4]
    clear eq1 eq2 k4 k1 k2 pp p1
    generalize hi * 2 ^ s + lo / 2 ^ (64 - s) = u at *
    generalize hi * 2 ^ s = H at *
    generalize lo / 2 ^ (64 - s) = E at *
    generalize lo * 2 ^ s % 18446744073709551616 = L at *
    generalize y * 2 ^ s = Y at *
    have a1 := and32 _ sN
    have a2 := and32 _ hLm
    have sh : ∀ x : Nat, shrI .u64 (x : Int) 32 = ((x / 4294967296 : Nat) : Int) := fun x => shr_eq x 32 (by omega)
    have n : Norm Y (Y / 4294967296) (Y % 4294967296) := ⟨by omega, sL, sN, by omega⟩
    have hh := n.half
    have hY0 : 0 < Y := by omega
    have td := BallQ.two_digits (U := u * 18446744073709551616 + L) (y := Y) (B := 4294967296) (u := u) (c1 := L / 4294967296) (c0 := L % 4294967296) hY0 (by omega)
    obtain ⟨Q, eQ⟩ : ∃ Q, Q = (u * 4294967296 + L / 4294967296) / Y := ⟨_, rfl⟩
    obtain ⟨R, eM⟩ : ∃ R, R = (u * 4294967296 + L / 4294967296) % Y := ⟨_, rfl⟩
    have rq := rest_eq (u := u) (c := L / 4294967296) (y := Y) eQ hY0 n.hi
    rw [td.1, td.2, ← eQ, ← eM]
    rw [← eM] at rq
    clear td
    have hc1 : L / 4294967296 < 4294967296 := by omega
    have hQ : Q < 4294967296 := by rw [eQ]; exact lt_two k3 hc1
    have hR : R < Y := by rw [eM]; exact Nat.mod_lt _ hY0
    have hc0 : L % 4294967296 < 4294967296 := by omega
    have hy1 : 0 < Y / 4294967296 := by omega
    have hy2 : Y / 4294967296 < 4294967296 := hh.2
    have b1 := BallQ.digit_bound n.e k3 n.d0 (by omega) hy1
    have r1 : u % (Y / 4294967296) < Y / 4294967296 := Nat.mod_lt _ hy1
    have hd0 := n.d0
    have w1 := quo_eq (R := u) (y := Y / 4294967296) (by omega)
    have w2 := rem_eq (R := u) (y := Y / 4294967296) (by omega)
    have nz : Y / 4294967296 ≠ 0 := by omega
    have nz2 : 4294967296 ≤ Y := by omega
    refine Tel.intro mix Try.func85 rfl (Nat.le_of_ble_eq_true rfl) {} (by kernel_rfl) (by kernel_rfl) ?_
    simp -implicitDefEqProofs [-Int.natCast_ediv, -Int.natCast_emod, -Int.natCast_mul, -Int.natCast_add, Try.results85, y0, yh, yh', h0]
    refine callp hz ?_
    simp -implicitDefEqProofs [-Int.natCast_ediv, -Int.natCast_emod, -Int.natCast_mul, -Int.natCast_add, Try.results85, es, es2, eY, eH, eL, eR, eO, a1, a2, sh, nz, nz2, w1, w2]
    clear yh yh' y0 h0 hz eY eH eL eR eO a1 a2 es es2 h hl hy
    refine gwp_loopP (fun k σ => ∃ qh rh : Nat, DV σ (cut d G) Y s u (L / 4294967296) (L % 4294967296) ∧ σ.F 15 = .p (.int .u64 (qh : Int)) ∧ σ.F 16 = .p (.int .u64 (rh : Int)) ∧
      BallQ.Digit u (L / 4294967296) Y (Y / 4294967296) (Y % 4294967296) 4294967296 qh rh ∧ qh ≤ 4294967297 ∧ rh < 4294967296 ∧ k + rh = 4294967296)
      (fun e σ => e = .exit 0 ∧ DV σ (cut d G) Y s u (L / 4294967296) (L % 4294967296) ∧ σ.F 15 = .p (.int .u64 (Q : Int))) (m := 4294967296 - u % (Y / 4294967296))
      ⟨_, _, ⟨by simp, by simp, by simp, by simp, by simp, by simp, by simp, rfl⟩, by simp -implicitDefEqProofs [-Int.natCast_ediv, -Int.natCast_emod, -Int.natCast_mul, -Int.natCast_add, w1], by simp -implicitDefEqProofs [-Int.natCast_ediv, -Int.natCast_emod, -Int.natCast_mul, -Int.natCast_add, w1, w2], BallQ.digit_start n.e hy1 hc1, b1, by omega, by omega⟩ ?_ ?_
    · rintro k σ ⟨qh, rh, ⟨f2, f8, f9, f10, f11, f13, f14, hg⟩, f15, f16, D, hq, hr, hk⟩
      have more : (4294967296 ≤ qh ∨ 4294967296 * rh + L / 4294967296 < qh * (Y % 4294967296)) → 0 < qh ∧ BallQ.Digit u (L / 4294967296) Y (Y / 4294967296) (Y % 4294967296) 4294967296 (qh - 1) (rh + Y / 4294967296) := by
        intro h
        have hm := BallQ.digit_more D n.e hY0 k3 hc1 h
        exact ⟨Nat.lt_of_le_of_lt (Nat.zero_le _) hm, BallQ.digit_step D hm⟩
      have e1 : IntKind.u64.wrap ((rh : Int) + ((Y / 4294967296 : Nat) : Int)) = ((rh + Y / 4294967296 : Nat) : Int) := by rw [wu64]; omega
      have e2 : 0 < qh → IntKind.u64.wrap ((qh : Int) - 1) = ((qh - 1 : Nat) : Int) := fun h => by rw [wu64]; omega
      have g1 := fun q : Nat => ge_iff (q := q) (n := 4294967296) (z := 4294967296) rfl
      by_cases hb : 4294967296 ≤ qh
      · obtain ⟨q0, D'⟩ := more (.inl hb)
        by_cases hf : 4294967296 ≤ rh + Y / 4294967296
        · have eq' := BallQ.digit_far D' n.e hY0 hd0 (by omega) hf
          simp -implicitDefEqProofs [-Int.natCast_ediv, -Int.natCast_emod, -Int.natCast_mul, -Int.natCast_add, DV_iff, f2, f8, f9, f10, f11, f13, f14, f15, f16, hg, g1, hb, e1, e2 q0, hf]
          rw [eq', ← eQ]
        · simp -implicitDefEqProofs [-Int.natCast_ediv, -Int.natCast_emod, -Int.natCast_mul, -Int.natCast_add, DV_iff, f2, f8, f9, f10, f11, f13, f14, f15, f16, hg, g1, hb, e1, e2 q0, hf]
          exact ⟨4294967296 - (rh + Y / 4294967296), by omega, qh - 1, rfl, rh + Y / 4294967296, rfl, D', by omega, by omega, by omega⟩
      · have ti := test_iff (q := qh) (rh := rh) (by omega) hd0 hr hc1
        by_cases ht : 4294967296 * rh + L / 4294967296 < qh * (Y % 4294967296)
        · obtain ⟨q0, D'⟩ := more (.inr ht)
          by_cases hf : 4294967296 ≤ rh + Y / 4294967296
          · have eq' := BallQ.digit_far D' n.e hY0 hd0 (by omega) hf
            simp -implicitDefEqProofs [-Int.natCast_ediv, -Int.natCast_emod, -Int.natCast_mul, -Int.natCast_add, DV_iff, f2, f8, f9, f10, f11, f13, f14, f15, f16, hg, g1, hb, e1, e2 q0, hf, ti, ht]
            rw [eq', ← eQ]
          · simp -implicitDefEqProofs [-Int.natCast_ediv, -Int.natCast_emod, -Int.natCast_mul, -Int.natCast_add, DV_iff, f2, f8, f9, f10, f11, f13, f14, f15, f16, hg, g1, hb, e1, e2 q0, hf, ti, ht]
            exact ⟨4294967296 - (rh + Y / 4294967296), by omega, qh - 1, rfl, rh + Y / 4294967296, rfl, D', by omega, by omega, by omega⟩
        · have eq' := BallQ.digit_end D n.e hY0 (by omega)
          simp -implicitDefEqProofs [-Int.natCast_ediv, -Int.natCast_emod, -Int.natCast_mul, -Int.natCast_add, DV_iff, f2, f8, f9, f10, f11, f13, f14, f15, f16, hg, g1, hb, ti, ht]
          rw [eq', ← eQ]
    · rintro e σ ⟨rfl, ⟨f2, f8, f9, f10, f11, f13, f14, hg⟩, f15⟩
      have b2 := BallQ.digit_bound n.e hR n.d0 (by omega) hy1
      have r2 : R % (Y / 4294967296) < Y / 4294967296 := Nat.mod_lt _ hy1
      have lt2 := lt_two hR hc0
      have R64 : R < 18446744073709551616 := Nat.lt_trans hR sN
      have v1 := quo_eq (R := R) (y := Y / 4294967296) R64
      have v2 := rem_eq (R := R) (y := Y / 4294967296) R64
      simp -implicitDefEqProofs [-Int.natCast_ediv, -Int.natCast_emod, -Int.natCast_mul, -Int.natCast_add, f2, f8, f9, f10, f11, f13, f14, f15, hg, nz2, rq, v1, v2]
      refine gwp_loopP (fun k σ => ∃ qh rh : Nat, DV σ (cut d G) Y s u (L / 4294967296) (L % 4294967296) ∧ σ.F 15 = .p (.int .u64 (Q : Int)) ∧ σ.F 17 = .p (.int .u64 (R : Int)) ∧ σ.F 18 = .p (.int .u64 (qh : Int)) ∧ σ.F 16 = .p (.int .u64 (rh : Int)) ∧
        BallQ.Digit R (L % 4294967296) Y (Y / 4294967296) (Y % 4294967296) 4294967296 qh rh ∧ qh ≤ 4294967297 ∧ rh < 4294967296 ∧ k + rh = 4294967296)
        (fun e σ => e = .exit 2 ∧ DV σ (cut d G) Y s u (L / 4294967296) (L % 4294967296) ∧ σ.F 15 = .p (.int .u64 (Q : Int)) ∧ σ.F 17 = .p (.int .u64 (R : Int)) ∧ σ.F 18 = .p (.int .u64 (((R * 4294967296 + L % 4294967296) / Y : Nat) : Int))) (m := 4294967296 - R % (Y / 4294967296))
        ⟨R / (Y / 4294967296), R % (Y / 4294967296), DV_iff.2 (by simp -implicitDefEqProofs [-Int.natCast_ediv, -Int.natCast_emod, -Int.natCast_mul, -Int.natCast_add, f2, f8, f9, f10, f11, f13, f14, hg]), by simp -implicitDefEqProofs [-Int.natCast_ediv, -Int.natCast_emod, -Int.natCast_mul, -Int.natCast_add, f15], by simp -implicitDefEqProofs [-Int.natCast_ediv, -Int.natCast_emod, -Int.natCast_mul, -Int.natCast_add, rq], by simp -implicitDefEqProofs [-Int.natCast_ediv, -Int.natCast_emod, -Int.natCast_mul, -Int.natCast_add, v1], by simp -implicitDefEqProofs [-Int.natCast_ediv, -Int.natCast_emod, -Int.natCast_mul, -Int.natCast_add, v1, v2], BallQ.digit_start n.e hy1 hc0, b2, by omega, by omega⟩ ?_ ?_
      · rintro k σ ⟨qh, rh, ⟨f2, f8, f9, f10, f11, f13, f14, hg⟩, f15, f17, f18, f16, D, hq, hr, hk⟩
        have more : (4294967296 ≤ qh ∨ 4294967296 * rh + L % 4294967296 < qh * (Y % 4294967296)) → 0 < qh ∧ BallQ.Digit R (L % 4294967296) Y (Y / 4294967296) (Y % 4294967296) 4294967296 (qh - 1) (rh + Y / 4294967296) := by
          intro h
          have hm := BallQ.digit_more D n.e hY0 hR hc0 h
          exact ⟨Nat.lt_of_le_of_lt (Nat.zero_le _) hm, BallQ.digit_step D hm⟩
        have e1 : IntKind.u64.wrap ((rh : Int) + ((Y / 4294967296 : Nat) : Int)) = ((rh + Y / 4294967296 : Nat) : Int) := by rw [wu64]; omega
        have e2 : 0 < qh → IntKind.u64.wrap ((qh : Int) - 1) = ((qh - 1 : Nat) : Int) := fun h => by rw [wu64]; omega
        have g1 := fun q : Nat => ge_iff (q := q) (n := 4294967296) (z := 4294967296) rfl
        by_cases hb : 4294967296 ≤ qh
        · obtain ⟨q0, D'⟩ := more (.inl hb)
          by_cases hf : 4294967296 ≤ rh + Y / 4294967296
          · have eq' := BallQ.digit_far D' n.e hY0 hd0 (by omega) hf
            simp -implicitDefEqProofs [-Int.natCast_ediv, -Int.natCast_emod, -Int.natCast_mul, -Int.natCast_add, DV_iff, f2, f8, f9, f10, f11, f13, f14, f15, f16, f17, f18, hg, g1, hb, e1, e2 q0, hf]
            rw [eq']
          · simp -implicitDefEqProofs [-Int.natCast_ediv, -Int.natCast_emod, -Int.natCast_mul, -Int.natCast_add, DV_iff, f2, f8, f9, f10, f11, f13, f14, f15, f16, f17, f18, hg, g1, hb, e1, e2 q0, hf]
            exact ⟨4294967296 - (rh + Y / 4294967296), by omega, qh - 1, rfl, rh + Y / 4294967296, rfl, D', by omega, by omega, by omega⟩
        · have ti := test_iff (q := qh) (rh := rh) (by omega) hd0 hr hc0
          by_cases ht : 4294967296 * rh + L % 4294967296 < qh * (Y % 4294967296)
          · obtain ⟨q0, D'⟩ := more (.inr ht)
            by_cases hf : 4294967296 ≤ rh + Y / 4294967296
            · have eq' := BallQ.digit_far D' n.e hY0 hd0 (by omega) hf
              simp -implicitDefEqProofs [-Int.natCast_ediv, -Int.natCast_emod, -Int.natCast_mul, -Int.natCast_add, DV_iff, f2, f8, f9, f10, f11, f13, f14, f15, f16, f17, f18, hg, g1, hb, e1, e2 q0, hf, ti, ht]
              rw [eq']
            · simp -implicitDefEqProofs [-Int.natCast_ediv, -Int.natCast_emod, -Int.natCast_mul, -Int.natCast_add, DV_iff, f2, f8, f9, f10, f11, f13, f14, f15, f16, f17, f18, hg, g1, hb, e1, e2 q0, hf, ti, ht]
              exact ⟨4294967296 - (rh + Y / 4294967296), by omega, qh - 1, rfl, rh + Y / 4294967296, rfl, D', by omega, by omega, by omega⟩
          · have eq' := BallQ.digit_end D n.e hY0 (by omega)
            simp -implicitDefEqProofs [-Int.natCast_ediv, -Int.natCast_emod, -Int.natCast_mul, -Int.natCast_add, DV_iff, f2, f8, f9, f10, f11, f13, f14, f15, f16, f17, f18, hg, g1, hb, ti, ht]
            rw [eq']
      · rintro e σ ⟨rfl, ⟨f2, f8, f9, f10, f11, f13, f14, hg⟩, f15, f17, f18⟩
        have rq2 := rest_eq (u := R) (c := L % 4294967296) (y := Y) rfl hY0 n.hi
        have sr := shr_eq ((R * 4294967296 + L % 4294967296) % Y) s s64
        have wq := wq_eq hQ lt2
        simp -implicitDefEqProofs [-Int.natCast_ediv, -Int.natCast_emod, -Int.natCast_mul, -Int.natCast_add, f2, f8, f9, f10, f11, f13, f14, f15, f17, f18, hg, rq2, sr, wq]
theorem rem64_ev (hi lo y : Nat) (h0 : 0 < y) (hy : y < 18446744073709551616) (hl : lo < 18446744073709551616) (d : Nat) (G : Heap) : Tel Try.prog TB d 84 [.p (.int .u64 (hi : Int)), .p (.int .u64 (lo : Int)), .p (.int .u64 (y : Int))] G
    (.p (.int .u64 (((hi * 18446744073709551616 + lo) % y : Nat) : Int))) G := by
  have e : Int.tmod (hi : Int) (y : Int) = ((hi % y : Nat) : Int) := by rw [Int.tmod_eq_emod_of_nonneg (by omega)]; rfl
  have y0 : ¬ (y = 0) := by omega
  have em : (hi % y * 18446744073709551616 + lo) % y = (hi * 18446744073709551616 + lo) % y := by
    rw [Nat.add_mod, Nat.mul_mod, Nat.mod_mod, ← Nat.mul_mod, ← Nat.add_mod]
  refine Tel.intro mix Try.func84 rfl (Nat.le_of_ble_eq_true rfl) {} (by kernel_rfl) (by kernel_rfl) ?_
  simp -implicitDefEqProofs [-Int.natCast_ediv, -Int.natCast_emod, -Int.natCast_mul, -Int.natCast_add, Try.results84, e, y0]
  refine callp (div64_ev (hi % y) lo y (Nat.mod_lt _ h0) hy hl _ _) ?_
  simp -implicitDefEqProofs [-Int.natCast_ediv, -Int.natCast_emod, -Int.natCast_mul, -Int.natCast_add, Try.results84, em]
end Go.E
