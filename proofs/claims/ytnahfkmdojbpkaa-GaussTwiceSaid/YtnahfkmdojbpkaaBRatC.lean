import Derived.Test.YtnahfkmdojbpkaaBRatB
/-! Fractions of 64 bits, as the program reckons them: sums and products. -/
set_option linter.all false
set_option maxRecDepth 100000
namespace Go.E
open Go Go.Proofs Go.Eng
open BallQ (In64 Right q out fits put)
variable {TB : Nat → Option Obj}
theorem sum_ev (a b c e v : Int) (ha : In64 a) (hb : In64 b) (hc : In64 c) (he : In64 e) (hv : v = a * b + c * e) :
    ∃ m : Bool, (v ≠ 0 → m = decide (v < 0)) ∧ ∀ d G, Tel Try.prog TB d 83 [.p (.int .i64 a), .p (.int .i64 b), .p (.int .i64 c), .p (.int .i64 e)] G
      (.tup [.p (.int .u64 ((v.natAbs / 18446744073709551616 : Nat) : Int)), .p (.int .u64 ((v.natAbs % 18446744073709551616 : Nat) : Int)), .p (.bool m)]) G := by
  have ka := natAbs_le ha
  have kb := natAbs_le hb
  have kc := natAbs_le hc
  have kd := natAbs_le he
  have hP : a.natAbs * b.natAbs ≤ 9223372036854775808 * 9223372036854775808 := Nat.mul_le_mul ka kb
  have hQ : c.natAbs * e.natAbs ≤ 9223372036854775808 * 9223372036854775808 := Nat.mul_le_mul kc kd
  have m1 := fun d G => mul64_ev (TB := TB) a.natAbs b.natAbs (by omega) (by omega) d G
  have m2 := fun d G => mul64_ev (TB := TB) c.natAbs e.natAbs (by omega) (by omega) d G
  have z1 := fun d G => size_ev (TB := TB) a ha d G
  have z2 := fun d G => size_ev (TB := TB) b hb d G
  have z3 := fun d G => size_ev (TB := TB) c hc d G
  have z4 := fun d G => size_ev (TB := TB) e he d G
  have s1 := signed_mul a b
  have s2 := signed_mul c e
  rw [s1, s2] at hv
  have w1 : (!(decide (a < 0) == decide (b < 0))) = (decide (a < 0) != decide (b < 0)) := rfl
  have w2 : (!(decide (c < 0) == decide (e < 0))) = (decide (c < 0) != decide (e < 0)) := rfl
  generalize hx : (decide (a < 0) != decide (b < 0)) = x at *
  generalize hy : (decide (c < 0) != decide (e < 0)) = y at *
  generalize a.natAbs = an at *
  generalize b.natAbs = bn at *
  generalize c.natAbs = cn at *
  generalize e.natAbs = en at *
  generalize an * bn = P at *
  generalize cn * en = Q at *
  by_cases hxy : x = y
  · subst hxy
    refine ⟨x, ?_, fun d G => ?_⟩
    · intro h0
      subst hv
      cases x
      · simp at h0 ⊢; omega
      · simp at h0 ⊢; omega
    · have hvn : v.natAbs = P + Q := by subst hv; cases x <;> simp <;> omega
      have e1 : (P / 18446744073709551616 + Q / 18446744073709551616 + (P % 18446744073709551616 + Q % 18446744073709551616 + 0) / 18446744073709551616) % 18446744073709551616 = (P + Q) / 18446744073709551616 := by omega
      have e2 : (P % 18446744073709551616 + Q % 18446744073709551616) % 18446744073709551616 = (P + Q) % 18446744073709551616 := by omega
      have e3 : (P % 18446744073709551616 + Q % 18446744073709551616 + 0) / 18446744073709551616 = (P % 18446744073709551616 + Q % 18446744073709551616) / 18446744073709551616 := rfl
      rw [hvn, ← e1, ← e2]
      refine Tel.intro mix Try.func83 rfl (Nat.le_of_ble_eq_true rfl) {} (by kernel_rfl) (by kernel_rfl) ?_
      simp -implicitDefEqProofs [-Int.natCast_ediv, -Int.natCast_emod, -Int.natCast_mul, -Int.natCast_add, Try.results83, w1, w2]
      refine callp (z1 _ _) ?_
      simp -implicitDefEqProofs [-Int.natCast_ediv, -Int.natCast_emod, -Int.natCast_mul, -Int.natCast_add, Try.results83, w1, w2]
      refine callp (z2 _ _) ?_
      simp -implicitDefEqProofs [-Int.natCast_ediv, -Int.natCast_emod, -Int.natCast_mul, -Int.natCast_add, Try.results83, w1, w2]
      refine callp (m1 _ _) ?_
      simp -implicitDefEqProofs [-Int.natCast_ediv, -Int.natCast_emod, -Int.natCast_mul, -Int.natCast_add, Try.results83, w1, w2]
      refine callp (z3 _ _) ?_
      simp -implicitDefEqProofs [-Int.natCast_ediv, -Int.natCast_emod, -Int.natCast_mul, -Int.natCast_add, Try.results83, w1, w2]
      refine callp (z4 _ _) ?_
      simp -implicitDefEqProofs [-Int.natCast_ediv, -Int.natCast_emod, -Int.natCast_mul, -Int.natCast_add, Try.results83, w1, w2]
      refine callp (m2 _ _) ?_
      simp -implicitDefEqProofs [-Int.natCast_ediv, -Int.natCast_emod, -Int.natCast_mul, -Int.natCast_add, Try.results83, w1, w2]
      refine callp (add64_ev (P % 18446744073709551616) (Q % 18446744073709551616) 0 (by omega) _ _) ?_
      simp -implicitDefEqProofs [-Int.natCast_ediv, -Int.natCast_emod, -Int.natCast_mul, -Int.natCast_add, Try.results83, w1, w2]
      refine callp (add64_ev (P / 18446744073709551616) (Q / 18446744073709551616) ((P % 18446744073709551616 + Q % 18446744073709551616 + 0) / 18446744073709551616) (by omega) _ _) ?_
      simp -implicitDefEqProofs [-Int.natCast_ediv, -Int.natCast_emod, -Int.natCast_mul, -Int.natCast_add, Try.results83, w1, w2]
  · have hyx : y = !x := by cases x <;> cases y <;> simp_all
    have hvn : v.natAbs = if P < Q then Q - P else P - Q := by
      subst hv hyx; cases x <;> simp <;> split <;> omega
    have ne : (x == y) = false := by rw [hyx]; cases x <;> rfl
    refine ⟨if P < Q then y else x, ?_, fun d G => ?_⟩
    · intro h0
      subst hv hyx
      by_cases h : P < Q
      · rw [if_pos h]; cases x <;> simp at h0 ⊢ <;> omega
      · rw [if_neg h]; cases x <;> simp at h0 ⊢ <;> omega
    · rw [hvn]
      clear hvn hv s1 s2 ha hb hc he ka kb kc kd
      by_cases g1 : P / 18446744073709551616 < Q / 18446744073709551616
      · have f1 : (((P / 18446744073709551616 : Nat) : Int) < ((Q / 18446744073709551616 : Nat) : Int)) = True := by simp only [eq_iff_iff, iff_true]; omega
        have hlt : P < Q := by omega
        rw [if_pos hlt, if_pos hlt]
        have e1 : (Q / 18446744073709551616 + 18446744073709551616 - P / 18446744073709551616 - (if Q % 18446744073709551616 < P % 18446744073709551616 + 0 then 1 else 0)) % 18446744073709551616 = (Q - P) / 18446744073709551616 := by split <;> omega
        have e2 : (Q % 18446744073709551616 + 18446744073709551616 - P % 18446744073709551616 - 0) % 18446744073709551616 = (Q - P) % 18446744073709551616 := by omega
        rw [← e1, ← e2]
        have b1 : (if Q % 18446744073709551616 < P % 18446744073709551616 + 0 then 1 else 0) ≤ 1 := by split <;> omega
        generalize hb0 : (if Q % 18446744073709551616 < P % 18446744073709551616 + 0 then 1 else 0) = b0 at *
        have s0 := fun d G => sub64_ev (TB := TB) (Q % 18446744073709551616) (P % 18446744073709551616) 0 (by omega) d G
        rw [hb0] at s0
        have s1 := fun d G => sub64_ev (TB := TB) (Q / 18446744073709551616) (P / 18446744073709551616) b0 b1 d G
        refine Tel.intro mix Try.func83 rfl (Nat.le_of_ble_eq_true rfl) {} (by kernel_rfl) (by kernel_rfl) ?_
        simp -implicitDefEqProofs [-Int.natCast_ediv, -Int.natCast_emod, -Int.natCast_mul, -Int.natCast_add, Try.results83, w1, w2, ne, f1]
        refine callp (z1 _ _) ?_
        simp -implicitDefEqProofs [-Int.natCast_ediv, -Int.natCast_emod, -Int.natCast_mul, -Int.natCast_add, Try.results83, w1, w2, ne, f1]
        refine callp (z2 _ _) ?_
        simp -implicitDefEqProofs [-Int.natCast_ediv, -Int.natCast_emod, -Int.natCast_mul, -Int.natCast_add, Try.results83, w1, w2, ne, f1]
        refine callp (m1 _ _) ?_
        simp -implicitDefEqProofs [-Int.natCast_ediv, -Int.natCast_emod, -Int.natCast_mul, -Int.natCast_add, Try.results83, w1, w2, ne, f1]
        refine callp (z3 _ _) ?_
        simp -implicitDefEqProofs [-Int.natCast_ediv, -Int.natCast_emod, -Int.natCast_mul, -Int.natCast_add, Try.results83, w1, w2, ne, f1]
        refine callp (z4 _ _) ?_
        simp -implicitDefEqProofs [-Int.natCast_ediv, -Int.natCast_emod, -Int.natCast_mul, -Int.natCast_add, Try.results83, w1, w2, ne, f1]
        refine callp (m2 _ _) ?_
        simp -implicitDefEqProofs [-Int.natCast_ediv, -Int.natCast_emod, -Int.natCast_mul, -Int.natCast_add, Try.results83, w1, w2, ne, f1]
        refine callp (s0 _ _) ?_
        simp -implicitDefEqProofs [-Int.natCast_ediv, -Int.natCast_emod, -Int.natCast_mul, -Int.natCast_add, Try.results83, w1, w2, ne, f1]
        refine callp (s1 _ _) ?_
        simp -implicitDefEqProofs [-Int.natCast_ediv, -Int.natCast_emod, -Int.natCast_mul, -Int.natCast_add, Try.results83, w1, w2, ne, f1]
      · have f1 : (((P / 18446744073709551616 : Nat) : Int) < ((Q / 18446744073709551616 : Nat) : Int)) = False := by simp only [eq_iff_iff, iff_false]; omega
        by_cases g2 : P / 18446744073709551616 = Q / 18446744073709551616
        · have f2 : (((P / 18446744073709551616 : Nat) : Int) = ((Q / 18446744073709551616 : Nat) : Int)) = True := by simp only [eq_iff_iff, iff_true]; omega
          by_cases g3 : P % 18446744073709551616 < Q % 18446744073709551616
          · have f3 : (((P % 18446744073709551616 : Nat) : Int) < ((Q % 18446744073709551616 : Nat) : Int)) = True := by simp only [eq_iff_iff, iff_true]; omega
            have hlt : P < Q := by omega
            rw [if_pos hlt, if_pos hlt]
            have e1 : (Q / 18446744073709551616 + 18446744073709551616 - P / 18446744073709551616 - (if Q % 18446744073709551616 < P % 18446744073709551616 + 0 then 1 else 0)) % 18446744073709551616 = (Q - P) / 18446744073709551616 := by split <;> omega
            have e2 : (Q % 18446744073709551616 + 18446744073709551616 - P % 18446744073709551616 - 0) % 18446744073709551616 = (Q - P) % 18446744073709551616 := by omega
            rw [← e1, ← e2]
            have b1 : (if Q % 18446744073709551616 < P % 18446744073709551616 + 0 then 1 else 0) ≤ 1 := by split <;> omega
            generalize hb0 : (if Q % 18446744073709551616 < P % 18446744073709551616 + 0 then 1 else 0) = b0 at *
            have s0 := fun d G => sub64_ev (TB := TB) (Q % 18446744073709551616) (P % 18446744073709551616) 0 (by omega) d G
            rw [hb0] at s0
            have s1 := fun d G => sub64_ev (TB := TB) (Q / 18446744073709551616) (P / 18446744073709551616) b0 b1 d G
            refine Tel.intro mix Try.func83 rfl (Nat.le_of_ble_eq_true rfl) {} (by kernel_rfl) (by kernel_rfl) ?_
            simp -implicitDefEqProofs [-Int.natCast_ediv, -Int.natCast_emod, -Int.natCast_mul, -Int.natCast_add, Try.results83, w1, w2, ne, f1, f2, f3]
            refine callp (z1 _ _) ?_
            simp -implicitDefEqProofs [-Int.natCast_ediv, -Int.natCast_emod, -Int.natCast_mul, -Int.natCast_add, Try.results83, w1, w2, ne, f1, f2, f3]
            refine callp (z2 _ _) ?_
            simp -implicitDefEqProofs [-Int.natCast_ediv, -Int.natCast_emod, -Int.natCast_mul, -Int.natCast_add, Try.results83, w1, w2, ne, f1, f2, f3]
            refine callp (m1 _ _) ?_
            simp -implicitDefEqProofs [-Int.natCast_ediv, -Int.natCast_emod, -Int.natCast_mul, -Int.natCast_add, Try.results83, w1, w2, ne, f1, f2, f3]
            refine callp (z3 _ _) ?_
            simp -implicitDefEqProofs [-Int.natCast_ediv, -Int.natCast_emod, -Int.natCast_mul, -Int.natCast_add, Try.results83, w1, w2, ne, f1, f2, f3]
            refine callp (z4 _ _) ?_
            simp -implicitDefEqProofs [-Int.natCast_ediv, -Int.natCast_emod, -Int.natCast_mul, -Int.natCast_add, Try.results83, w1, w2, ne, f1, f2, f3]
            refine callp (m2 _ _) ?_
            simp -implicitDefEqProofs [-Int.natCast_ediv, -Int.natCast_emod, -Int.natCast_mul, -Int.natCast_add, Try.results83, w1, w2, ne, f1, f2, f3]
            refine callp (s0 _ _) ?_
            simp -implicitDefEqProofs [-Int.natCast_ediv, -Int.natCast_emod, -Int.natCast_mul, -Int.natCast_add, Try.results83, w1, w2, ne, f1, f2, f3]
            refine callp (s1 _ _) ?_
            simp -implicitDefEqProofs [-Int.natCast_ediv, -Int.natCast_emod, -Int.natCast_mul, -Int.natCast_add, Try.results83, w1, w2, ne, f1, f2, f3]
          · have f3 : (((P % 18446744073709551616 : Nat) : Int) < ((Q % 18446744073709551616 : Nat) : Int)) = False := by simp only [eq_iff_iff, iff_false]; omega
            have hlt : ¬ (P < Q) := by omega
            rw [if_neg hlt, if_neg hlt]
            have e1 : (P / 18446744073709551616 + 18446744073709551616 - Q / 18446744073709551616 - (if P % 18446744073709551616 < Q % 18446744073709551616 + 0 then 1 else 0)) % 18446744073709551616 = (P - Q) / 18446744073709551616 := by split <;> omega
            have e2 : (P % 18446744073709551616 + 18446744073709551616 - Q % 18446744073709551616 - 0) % 18446744073709551616 = (P - Q) % 18446744073709551616 := by omega
            rw [← e1, ← e2]
            have b1 : (if P % 18446744073709551616 < Q % 18446744073709551616 + 0 then 1 else 0) ≤ 1 := by split <;> omega
            generalize hb0 : (if P % 18446744073709551616 < Q % 18446744073709551616 + 0 then 1 else 0) = b0 at *
            have s0 := fun d G => sub64_ev (TB := TB) (P % 18446744073709551616) (Q % 18446744073709551616) 0 (by omega) d G
            rw [hb0] at s0
            have s1 := fun d G => sub64_ev (TB := TB) (P / 18446744073709551616) (Q / 18446744073709551616) b0 b1 d G
            refine Tel.intro mix Try.func83 rfl (Nat.le_of_ble_eq_true rfl) {} (by kernel_rfl) (by kernel_rfl) ?_
            simp -implicitDefEqProofs [-Int.natCast_ediv, -Int.natCast_emod, -Int.natCast_mul, -Int.natCast_add, Try.results83, w1, w2, ne, f1, f2, f3]
            refine callp (z1 _ _) ?_
            simp -implicitDefEqProofs [-Int.natCast_ediv, -Int.natCast_emod, -Int.natCast_mul, -Int.natCast_add, Try.results83, w1, w2, ne, f1, f2, f3]
            refine callp (z2 _ _) ?_
            simp -implicitDefEqProofs [-Int.natCast_ediv, -Int.natCast_emod, -Int.natCast_mul, -Int.natCast_add, Try.results83, w1, w2, ne, f1, f2, f3]
            refine callp (m1 _ _) ?_
            simp -implicitDefEqProofs [-Int.natCast_ediv, -Int.natCast_emod, -Int.natCast_mul, -Int.natCast_add, Try.results83, w1, w2, ne, f1, f2, f3]
            refine callp (z3 _ _) ?_
            simp -implicitDefEqProofs [-Int.natCast_ediv, -Int.natCast_emod, -Int.natCast_mul, -Int.natCast_add, Try.results83, w1, w2, ne, f1, f2, f3]
            refine callp (z4 _ _) ?_
            simp -implicitDefEqProofs [-Int.natCast_ediv, -Int.natCast_emod, -Int.natCast_mul, -Int.natCast_add, Try.results83, w1, w2, ne, f1, f2, f3]
            refine callp (m2 _ _) ?_
            simp -implicitDefEqProofs [-Int.natCast_ediv, -Int.natCast_emod, -Int.natCast_mul, -Int.natCast_add, Try.results83, w1, w2, ne, f1, f2, f3]
            refine callp (s0 _ _) ?_
            simp -implicitDefEqProofs [-Int.natCast_ediv, -Int.natCast_emod, -Int.natCast_mul, -Int.natCast_add, Try.results83, w1, w2, ne, f1, f2, f3]
            refine callp (s1 _ _) ?_
            simp -implicitDefEqProofs [-Int.natCast_ediv, -Int.natCast_emod, -Int.natCast_mul, -Int.natCast_add, Try.results83, w1, w2, ne, f1, f2, f3]
        · have f2 : (((P / 18446744073709551616 : Nat) : Int) = ((Q / 18446744073709551616 : Nat) : Int)) = False := by simp only [eq_iff_iff, iff_false]; omega
          have hlt : ¬ (P < Q) := by omega
          rw [if_neg hlt, if_neg hlt]
          have e1 : (P / 18446744073709551616 + 18446744073709551616 - Q / 18446744073709551616 - (if P % 18446744073709551616 < Q % 18446744073709551616 + 0 then 1 else 0)) % 18446744073709551616 = (P - Q) / 18446744073709551616 := by split <;> omega
          have e2 : (P % 18446744073709551616 + 18446744073709551616 - Q % 18446744073709551616 - 0) % 18446744073709551616 = (P - Q) % 18446744073709551616 := by omega
          rw [← e1, ← e2]
          have b1 : (if P % 18446744073709551616 < Q % 18446744073709551616 + 0 then 1 else 0) ≤ 1 := by split <;> omega
          generalize hb0 : (if P % 18446744073709551616 < Q % 18446744073709551616 + 0 then 1 else 0) = b0 at *
          have s0 := fun d G => sub64_ev (TB := TB) (P % 18446744073709551616) (Q % 18446744073709551616) 0 (by omega) d G
          rw [hb0] at s0
          have s1 := fun d G => sub64_ev (TB := TB) (P / 18446744073709551616) (Q / 18446744073709551616) b0 b1 d G
          refine Tel.intro mix Try.func83 rfl (Nat.le_of_ble_eq_true rfl) {} (by kernel_rfl) (by kernel_rfl) ?_
          simp -implicitDefEqProofs [-Int.natCast_ediv, -Int.natCast_emod, -Int.natCast_mul, -Int.natCast_add, Try.results83, w1, w2, ne, f1, f2]
          refine callp (z1 _ _) ?_
          simp -implicitDefEqProofs [-Int.natCast_ediv, -Int.natCast_emod, -Int.natCast_mul, -Int.natCast_add, Try.results83, w1, w2, ne, f1, f2]
          refine callp (z2 _ _) ?_
          simp -implicitDefEqProofs [-Int.natCast_ediv, -Int.natCast_emod, -Int.natCast_mul, -Int.natCast_add, Try.results83, w1, w2, ne, f1, f2]
          refine callp (m1 _ _) ?_
          simp -implicitDefEqProofs [-Int.natCast_ediv, -Int.natCast_emod, -Int.natCast_mul, -Int.natCast_add, Try.results83, w1, w2, ne, f1, f2]
          refine callp (z3 _ _) ?_
          simp -implicitDefEqProofs [-Int.natCast_ediv, -Int.natCast_emod, -Int.natCast_mul, -Int.natCast_add, Try.results83, w1, w2, ne, f1, f2]
          refine callp (z4 _ _) ?_
          simp -implicitDefEqProofs [-Int.natCast_ediv, -Int.natCast_emod, -Int.natCast_mul, -Int.natCast_add, Try.results83, w1, w2, ne, f1, f2]
          refine callp (m2 _ _) ?_
          simp -implicitDefEqProofs [-Int.natCast_ediv, -Int.natCast_emod, -Int.natCast_mul, -Int.natCast_add, Try.results83, w1, w2, ne, f1, f2]
          refine callp (s0 _ _) ?_
          simp -implicitDefEqProofs [-Int.natCast_ediv, -Int.natCast_emod, -Int.natCast_mul, -Int.natCast_add, Try.results83, w1, w2, ne, f1, f2]
          refine callp (s1 _ _) ?_
          simp -implicitDefEqProofs [-Int.natCast_ediv, -Int.natCast_emod, -Int.natCast_mul, -Int.natCast_add, Try.results83, w1, w2, ne, f1, f2]
end Go.E
