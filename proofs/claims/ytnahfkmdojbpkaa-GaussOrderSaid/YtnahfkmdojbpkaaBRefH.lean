import Derived.Test.YtnahfkmdojbpkaaBRefG
/-! The reference's word on two fractions. -/
set_option linter.all false
set_option maxRecDepth 100000
namespace Go.E.Ref
open Go Go.Proofs Go.Eng BallBits
open BallQ
variable {TB : Nat → Option Obj}
abbrev aG (n k : Int) : GV := .agg [.p (.int .i64 n), .p (.int .i64 k)]
theorem sz_mul {a b : Nat} (ha : a ≤ 9223372036854775808) (hb : b ≤ 9223372036854775808) : Sz (a * b) := by
  have h := Nat.mul_le_mul ha hb
  exact Nat.le_trans (length_bof_le (m := 128) (by omega)) (by omega)
theorem sz_abs {a : Int} (h : In64 a) : Sz a.natAbs := by obtain ⟨a, b⟩ := h; exact sz64 (by omega)
theorem sumN_le (a b c d : Nat) (m1 m2 : Bool) : sumN a b c d m1 m2 ≤ a * d + c * b := by
  unfold sumN; split
  · exact Nat.le_refl _
  · split <;> omega
theorem sz_sum {a b c d : Nat} (m1 m2 : Bool) (ha : a ≤ 9223372036854775808) (hb : b ≤ 9223372036854775808) (hc : c ≤ 9223372036854775808) (hd : d ≤ 9223372036854775808) : Sz (sumN a b c d m1 m2) := by
  have h1 := Nat.mul_le_mul ha hd
  have h2 := Nat.mul_le_mul hc hb
  have h3 := sumN_le a b c d m1 m2
  exact Nat.le_trans (length_bof_le (m := 129) (by omega)) (by omega)
theorem do0_ev (n1 k1 n2 k2 : Int) (h1 : In64 n1) (h2 : In64 k1) (h3 : In64 n2) (h4 : In64 k2) (d : Nat) (G : Heap) : Tel Try.prog TB d 45 [.p (.int .i64 0), aG n1 k1, aG n2 k2] G (rG (addS n1 k1 n2 k2)) G := by
  unfold addS
  have r1 := fun d G => rright_ev (TB := TB) n1 k1 h1 h2 d G
  have r2 := fun d G => rright_ev (TB := TB) n2 k2 h3 h4 d G
  have t1 := fun d G => from_ev (TB := TB) n1 k1 h1 h2 d G
  have t2 := fun d G => from_ev (TB := TB) n2 k2 h3 h4 d G
  by_cases hra : Right n1 k1
  · rw [decide_eq_true hra] at r1
    by_cases hrb : Right n2 k2
    · rw [decide_eq_true hrb] at r2
      rw [if_pos ⟨hra, hrb⟩]
      have p1 := hra.1
      have p2 := hrb.1
      rw [q_eq n1 k1 p1, q_eq n2 k2 p2, Rat.mkRat_add_mkRat _ _ (by omega) (by omega), ← sum_sgn, ← put_out _ _ (Nat.mul_pos (by omega) (by omega))]
      have sm := fun d G => rsum_ev (TB := TB) n1.natAbs k1.natAbs n2.natAbs k2.natAbs (decide (n1 < 0)) (decide (n2 < 0)) (sz_abs h1) (sz_abs h2) (sz_abs h3) (sz_abs h4) (sz_mul (natAbs_le h1) (natAbs_le h4)) (sz_mul (natAbs_le h3) (natAbs_le h2)) d G
      have tt := fun d G => to_ev (TB := TB) (sumN n1.natAbs k1.natAbs n2.natAbs k2.natAbs (decide (n1 < 0)) (decide (n2 < 0))) (k1.natAbs * k2.natAbs) (sumM n1.natAbs k1.natAbs n2.natAbs k2.natAbs (decide (n1 < 0)) (decide (n2 < 0)))
        (sz_sum _ _ (natAbs_le h1) (natAbs_le h2) (natAbs_le h3) (natAbs_le h4)) (sz_mul (natAbs_le h2) (natAbs_le h4)) (Nat.mul_pos (by omega) (by omega)) d G
      generalize sumN n1.natAbs k1.natAbs n2.natAbs k2.natAbs (decide (n1 < 0)) (decide (n2 < 0)) = N at *
      generalize sumM n1.natAbs k1.natAbs n2.natAbs k2.natAbs (decide (n1 < 0)) (decide (n2 < 0)) = M at *
      generalize k1.natAbs * k2.natAbs = K at *
      generalize BallQ.put (N / Nat.gcd N K) (K / Nat.gcd N K) M = out at *
      obtain ⟨o1, o2, o3⟩ := out
      refine Tel.intro mix Try.func45 rfl (Nat.le_of_ble_eq_true rfl) {} (by kernel_rfl) (by kernel_rfl) ?_
      simp -implicitDefEqProofs [-Int.natCast_ediv, -Int.natCast_emod, -Int.natCast_mul, -Int.natCast_add, Try.results45]
      refine callp (r1 _ _) ?_
      simp -implicitDefEqProofs [-Int.natCast_ediv, -Int.natCast_emod, -Int.natCast_mul, -Int.natCast_add, Try.results45]
      refine callp (r2 _ _) ?_
      simp -implicitDefEqProofs [-Int.natCast_ediv, -Int.natCast_emod, -Int.natCast_mul, -Int.natCast_add, Try.results45]
      refine callp (t1 _ _) ?_
      simp -implicitDefEqProofs [-Int.natCast_ediv, -Int.natCast_emod, -Int.natCast_mul, -Int.natCast_add, Try.results45]
      refine callp (t2 _ _) ?_
      simp -implicitDefEqProofs [-Int.natCast_ediv, -Int.natCast_emod, -Int.natCast_mul, -Int.natCast_add, Try.results45]
      refine callp (sm _ _) ?_
      simp -implicitDefEqProofs [-Int.natCast_ediv, -Int.natCast_emod, -Int.natCast_mul, -Int.natCast_add, Try.results45]
      refine callp (tt _ _) ?_
      simp -implicitDefEqProofs [-Int.natCast_ediv, -Int.natCast_emod, -Int.natCast_mul, -Int.natCast_add, Try.results45, rG]
    · rw [decide_eq_false hrb] at r2
      rw [if_neg (fun h => hrb h.2)]
      refine Tel.intro mix Try.func45 rfl (Nat.le_of_ble_eq_true rfl) {} (by kernel_rfl) (by kernel_rfl) ?_
      simp -implicitDefEqProofs [-Int.natCast_ediv, -Int.natCast_emod, -Int.natCast_mul, -Int.natCast_add, Try.results45]
      refine callp (r1 _ _) ?_
      simp -implicitDefEqProofs [-Int.natCast_ediv, -Int.natCast_emod, -Int.natCast_mul, -Int.natCast_add, Try.results45, rG]
      refine callp (r2 _ _) ?_
      simp -implicitDefEqProofs [-Int.natCast_ediv, -Int.natCast_emod, -Int.natCast_mul, -Int.natCast_add, Try.results45, rG]
  · rw [decide_eq_false hra] at r1
    rw [if_neg (fun h => hra h.1)]
    refine Tel.intro mix Try.func45 rfl (Nat.le_of_ble_eq_true rfl) {} (by kernel_rfl) (by kernel_rfl) ?_
    simp -implicitDefEqProofs [-Int.natCast_ediv, -Int.natCast_emod, -Int.natCast_mul, -Int.natCast_add, Try.results45]
    refine callp (r1 _ _) ?_
    simp -implicitDefEqProofs [-Int.natCast_ediv, -Int.natCast_emod, -Int.natCast_mul, -Int.natCast_add, Try.results45, rG]
theorem do2_ev (n1 k1 n2 k2 : Int) (h1 : In64 n1) (h2 : In64 k1) (h3 : In64 n2) (h4 : In64 k2) (d : Nat) (G : Heap) : Tel Try.prog TB d 45 [.p (.int .i64 2), aG n1 k1, aG n2 k2] G (rG (mulS n1 k1 n2 k2)) G := by
  unfold mulS
  have r1 := fun d G => rright_ev (TB := TB) n1 k1 h1 h2 d G
  have r2 := fun d G => rright_ev (TB := TB) n2 k2 h3 h4 d G
  have t1 := fun d G => from_ev (TB := TB) n1 k1 h1 h2 d G
  have t2 := fun d G => from_ev (TB := TB) n2 k2 h3 h4 d G
  by_cases hra : Right n1 k1
  · rw [decide_eq_true hra] at r1
    by_cases hrb : Right n2 k2
    · rw [decide_eq_true hrb] at r2
      rw [if_pos ⟨hra, hrb⟩]
      have p1 := hra.1
      have p2 := hrb.1
      rw [q_eq n1 k1 p1, q_eq n2 k2 p2, Rat.mkRat_mul_mkRat, ← sgn_xor, ← put_out _ _ (Nat.mul_pos (by omega) (by omega))]
      have ma := fun d G => mul_n (TB := TB) (sz_abs h1) (sz_abs h3) d G
      have mb := fun d G => mul_n (TB := TB) (sz_abs h2) (sz_abs h4) d G
      have w1 : (!(decide (n1 < 0) == decide (n2 < 0))) = (decide (n1 < 0) != decide (n2 < 0)) := rfl
      have tt := fun d G => to_ev (TB := TB) (n1.natAbs * n2.natAbs) (k1.natAbs * k2.natAbs) (decide (n1 < 0) != decide (n2 < 0))
        (sz_mul (natAbs_le h1) (natAbs_le h3)) (sz_mul (natAbs_le h2) (natAbs_le h4)) (Nat.mul_pos (by omega) (by omega)) d G
      generalize n1.natAbs * n2.natAbs = N at *
      generalize hM : (decide (n1 < 0) != decide (n2 < 0)) = M at *
      generalize k1.natAbs * k2.natAbs = K at *
      generalize BallQ.put (N / Nat.gcd N K) (K / Nat.gcd N K) M = out at *
      obtain ⟨o1, o2, o3⟩ := out
      refine Tel.intro mix Try.func45 rfl (Nat.le_of_ble_eq_true rfl) {} (by kernel_rfl) (by kernel_rfl) ?_
      simp -implicitDefEqProofs [-Int.natCast_ediv, -Int.natCast_emod, -Int.natCast_mul, -Int.natCast_add, Try.results45]
      refine callp (r1 _ _) ?_
      simp -implicitDefEqProofs [-Int.natCast_ediv, -Int.natCast_emod, -Int.natCast_mul, -Int.natCast_add, Try.results45]
      refine callp (r2 _ _) ?_
      simp -implicitDefEqProofs [-Int.natCast_ediv, -Int.natCast_emod, -Int.natCast_mul, -Int.natCast_add, Try.results45]
      refine callp (t1 _ _) ?_
      simp -implicitDefEqProofs [-Int.natCast_ediv, -Int.natCast_emod, -Int.natCast_mul, -Int.natCast_add, Try.results45]
      refine callp (t2 _ _) ?_
      simp -implicitDefEqProofs [-Int.natCast_ediv, -Int.natCast_emod, -Int.natCast_mul, -Int.natCast_add, Try.results45]
      refine callp (ma _ _) ?_
      simp -implicitDefEqProofs [-Int.natCast_ediv, -Int.natCast_emod, -Int.natCast_mul, -Int.natCast_add, Try.results45]
      refine callp (mb _ _) ?_
      simp -implicitDefEqProofs [-Int.natCast_ediv, -Int.natCast_emod, -Int.natCast_mul, -Int.natCast_add, Try.results45, w1]
      refine callp (tt _ _) ?_
      simp -implicitDefEqProofs [-Int.natCast_ediv, -Int.natCast_emod, -Int.natCast_mul, -Int.natCast_add, Try.results45, rG]
    · rw [decide_eq_false hrb] at r2
      rw [if_neg (fun h => hrb h.2)]
      refine Tel.intro mix Try.func45 rfl (Nat.le_of_ble_eq_true rfl) {} (by kernel_rfl) (by kernel_rfl) ?_
      simp -implicitDefEqProofs [-Int.natCast_ediv, -Int.natCast_emod, -Int.natCast_mul, -Int.natCast_add, Try.results45]
      refine callp (r1 _ _) ?_
      simp -implicitDefEqProofs [-Int.natCast_ediv, -Int.natCast_emod, -Int.natCast_mul, -Int.natCast_add, Try.results45, rG]
      refine callp (r2 _ _) ?_
      simp -implicitDefEqProofs [-Int.natCast_ediv, -Int.natCast_emod, -Int.natCast_mul, -Int.natCast_add, Try.results45, rG]
  · rw [decide_eq_false hra] at r1
    rw [if_neg (fun h => hra h.1)]
    refine Tel.intro mix Try.func45 rfl (Nat.le_of_ble_eq_true rfl) {} (by kernel_rfl) (by kernel_rfl) ?_
    simp -implicitDefEqProofs [-Int.natCast_ediv, -Int.natCast_emod, -Int.natCast_mul, -Int.natCast_add, Try.results45]
    refine callp (r1 _ _) ?_
    simp -implicitDefEqProofs [-Int.natCast_ediv, -Int.natCast_emod, -Int.natCast_mul, -Int.natCast_add, Try.results45, rG]
end Go.E.Ref
