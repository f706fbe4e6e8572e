import Derived.Test.YtnahfkmdojbpkaaBRefH
/-! The reference's word on two fractions: the quotient. -/
set_option linter.all false
set_option maxRecDepth 100000
namespace Go.E
open BallQ
/-- A fraction turned over: its upper number. -/
def invN (bN bD : Int) : Int := if bN < 0 then -bD else bD
def divS (aN aD bN bD : Int) : Int × Int × Int := if Right aN aD ∧ Right bN bD ∧ bN ≠ 0 then mulS aN aD (invN bN bD) (bN.natAbs : Int) else (0, 0, 2)
theorem inv_right {bN bD : Int} (h : Right bN bD) (hn : In64 bN) (hd : In64 bD) (h0 : bN ≠ 0) : Right (invN bN bD) (bN.natAbs : Int) ∧ In64 (invN bN bD) ∧ In64 (bN.natAbs : Int) ∧ (invN bN bD).natAbs = bD.natAbs ∧ decide (invN bN bD < 0) = decide (bN < 0) := by
  obtain ⟨r1, r2, r3⟩ := h
  obtain ⟨n1, n2⟩ := hn
  obtain ⟨d1, d2⟩ := hd
  have e1 : (invN bN bD).natAbs = bD.natAbs := by unfold invN; split <;> omega
  refine ⟨⟨by omega, by unfold invN; split <;> omega, ?_⟩, ?_, by unfold In64; omega, e1, ?_⟩
  · rw [e1, Int.natAbs_natCast, Nat.gcd_comm]; exact r3
  · unfold In64 invN; split <;> omega
  · apply decide_eq_decide.2
    unfold invN
    split <;> omega
end Go.E
namespace Go.E.Ref
open Go Go.Proofs Go.Eng BallBits
open BallQ
variable {TB : Nat → Option Obj}
theorem do3_ev (n1 k1 n2 k2 : Int) (h1 : In64 n1) (h2 : In64 k1) (h3 : In64 n2) (h4 : In64 k2) (d : Nat) (G : Heap) : Tel Try.prog TB d 45 [.p (.int .i64 3), aG n1 k1, aG n2 k2] G (rG (divS n1 k1 n2 k2)) G := by
  unfold divS
  have r1 := fun d G => rright_ev (TB := TB) n1 k1 h1 h2 d G
  have r2 := fun d G => rright_ev (TB := TB) n2 k2 h3 h4 d G
  have t1 := fun d G => from_ev (TB := TB) n1 k1 h1 h2 d G
  have t2 := fun d G => from_ev (TB := TB) n2 k2 h3 h4 d G
  by_cases hra : Right n1 k1
  · rw [decide_eq_true hra] at r1
    by_cases hrb : Right n2 k2
    · rw [decide_eq_true hrb] at r2
      by_cases hz : n2 = 0
      · rw [if_neg (fun h => h.2.2 hz)]
        refine Tel.intro mix Try.func45 rfl (Nat.le_of_ble_eq_true rfl) {} (by kernel_rfl) (by kernel_rfl) ?_
        simp -implicitDefEqProofs [-Int.natCast_ediv, -Int.natCast_emod, -Int.natCast_mul, -Int.natCast_add, Try.results45]
        refine callp (r1 _ _) ?_
        simp -implicitDefEqProofs [-Int.natCast_ediv, -Int.natCast_emod, -Int.natCast_mul, -Int.natCast_add, Try.results45]
        refine callp (r2 _ _) ?_
        simp -implicitDefEqProofs [-Int.natCast_ediv, -Int.natCast_emod, -Int.natCast_mul, -Int.natCast_add, Try.results45, hz, rG]
      · obtain ⟨ir, i1, i2, i3, i4⟩ := inv_right hrb h3 h4 hz
        rw [if_pos ⟨hra, hrb, hz⟩]
        unfold mulS
        rw [if_pos ⟨hra, ir⟩]
        have p1 := hra.1
        have p2 := ir.1
        have hn0 : 0 < n2.natAbs := by omega
        rw [q_eq n1 k1 p1, q_eq _ _ p2, Rat.mkRat_mul_mkRat, ← sgn_xor, i3, i4, Int.natAbs_natCast, ← put_out _ _ (Nat.mul_pos (by omega) hn0)]
        have ma := fun d G => mul_n (TB := TB) (sz_abs h1) (sz_abs h4) d G
        have mb := fun d G => mul_n (TB := TB) (sz_abs h2) (sz_abs h3) d G
        have w1 : (!(decide (n1 < 0) == decide (n2 < 0))) = (decide (n1 < 0) != decide (n2 < 0)) := rfl
        have tt := fun d G => to_ev (TB := TB) (n1.natAbs * k2.natAbs) (k1.natAbs * n2.natAbs) (decide (n1 < 0) != decide (n2 < 0))
          (sz_mul (natAbs_le h1) (natAbs_le h4)) (sz_mul (natAbs_le h2) (natAbs_le h3)) (Nat.mul_pos (by omega) hn0) d G
        generalize n1.natAbs * k2.natAbs = N at *
        generalize hM : (decide (n1 < 0) != decide (n2 < 0)) = M at *
        generalize k1.natAbs * n2.natAbs = K at *
        generalize BallQ.put (N / Nat.gcd N K) (K / Nat.gcd N K) M = out at *
        obtain ⟨o1, o2, o3⟩ := out
        refine Tel.intro mix Try.func45 rfl (Nat.le_of_ble_eq_true rfl) {} (by kernel_rfl) (by kernel_rfl) ?_
        simp -implicitDefEqProofs [-Int.natCast_ediv, -Int.natCast_emod, -Int.natCast_mul, -Int.natCast_add, Try.results45]
        refine callp (r1 _ _) ?_
        simp -implicitDefEqProofs [-Int.natCast_ediv, -Int.natCast_emod, -Int.natCast_mul, -Int.natCast_add, Try.results45]
        refine callp (r2 _ _) ?_
        simp -implicitDefEqProofs [-Int.natCast_ediv, -Int.natCast_emod, -Int.natCast_mul, -Int.natCast_add, Try.results45, hz]
        refine callp (t1 _ _) ?_
        simp -implicitDefEqProofs [-Int.natCast_ediv, -Int.natCast_emod, -Int.natCast_mul, -Int.natCast_add, Try.results45]
        refine callp (t2 _ _) ?_
        simp -implicitDefEqProofs [-Int.natCast_ediv, -Int.natCast_emod, -Int.natCast_mul, -Int.natCast_add, Try.results45]
        refine callp (ma _ _) ?_
        simp -implicitDefEqProofs [-Int.natCast_ediv, -Int.natCast_emod, -Int.natCast_mul, -Int.natCast_add, Try.results45]
        refine callp (mb _ _) ?_
        simp -implicitDefEqProofs [-Int.natCast_ediv, -Int.natCast_emod, -Int.natCast_mul, -Int.natCast_add, Try.results45, w1]
        refine callp (tt _ _) ?_
        simp -implicitDefEqProofs [-Int.natCast_ediv, -Int.natCast_emod, -Int.natCast_mul, -Int.natCast_add, Try.results45, rG]
    · rw [decide_eq_false hrb] at r2
      rw [if_neg (fun h => hrb h.2.1)]
      refine Tel.intro mix Try.func45 rfl (Nat.le_of_ble_eq_true rfl) {} (by kernel_rfl) (by kernel_rfl) ?_
      simp -implicitDefEqProofs [-Int.natCast_ediv, -Int.natCast_emod, -Int.natCast_mul, -Int.natCast_add, Try.results45]
      refine callp (r1 _ _) ?_
      simp -implicitDefEqProofs [-Int.natCast_ediv, -Int.natCast_emod, -Int.natCast_mul, -Int.natCast_add, Try.results45, rG]
      refine callp (r2 _ _) ?_
      simp -implicitDefEqProofs [-Int.natCast_ediv, -Int.natCast_emod, -Int.natCast_mul, -Int.natCast_add, Try.results45, rG]
  · rw [decide_eq_false hra] at r1
    rw [if_neg (fun h => hra h.1)]
    refine Tel.intro mix Try.func45 rfl (Nat.le_of_ble_eq_true rfl) {} (by kernel_rfl) (by kernel_rfl) ?_
    simp -implicitDefEqProofs [-Int.natCast_ediv, -Int.natCast_emod, -Int.natCast_mul, -Int.natCast_add, Try.results45]
    refine callp (r1 _ _) ?_
    simp -implicitDefEqProofs [-Int.natCast_ediv, -Int.natCast_emod, -Int.natCast_mul, -Int.natCast_add, Try.results45, rG]
end Go.E.Ref
