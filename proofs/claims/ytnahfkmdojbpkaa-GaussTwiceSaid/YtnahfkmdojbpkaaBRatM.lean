import Derived.Test.YtnahfkmdojbpkaaBRatD
/-! Fractions of 64 bits, as the program reckons them: the product. -/
set_option linter.all false
set_option maxRecDepth 100000
namespace Go.E
open Go Go.Proofs Go.Eng
open BallQ (In64 Right q out fits put)
variable {TB : Nat → Option Obj}
theorem mul_run {aN bN : Int} {A B : Nat} (h1 : In64 aN) (h3 : In64 bN) (hA : A < 9223372036854775808) (hB : B < 9223372036854775808) (hA0 : 0 < A) (hB0 : 0 < B) (ha : aN.natAbs.gcd A = 1) (hb : bN.natAbs.gcd B = 1)
    (hra : Right aN A) (hrb : Right bN B) (d : Nat) (G : Heap) :
    Tel Try.prog TB d 66 [.agg [.p (.int .i64 aN), .p (.int .i64 (A : Int))], .agg [.p (.int .i64 bN), .p (.int .i64 (B : Int))]] G (rG (out (mkRat aN A * mkRat bN B))) G := by
  have g1 : 0 < aN.natAbs.gcd B := Nat.gcd_pos_of_pos_right _ hB0
  have g2 : 0 < bN.natAbs.gcd A := Nat.gcd_pos_of_pos_right _ hA0
  have ka : aN.natAbs < 18446744073709551616 := Nat.lt_of_le_of_lt (natAbs_le h1) (by decide)
  have kb : bN.natAbs < 18446744073709551616 := Nat.lt_of_le_of_lt (natAbs_le h3) (by decide)
  have l1 : aN.natAbs / aN.natAbs.gcd B < 18446744073709551616 := Nat.lt_of_le_of_lt (Nat.div_le_self _ _) ka
  have l2 : bN.natAbs / bN.natAbs.gcd A < 18446744073709551616 := Nat.lt_of_le_of_lt (Nat.div_le_self _ _) kb
  have l3 : A / bN.natAbs.gcd A < 18446744073709551616 := Nat.lt_of_le_of_lt (Nat.div_le_self _ _) (lt64 hA)
  have l4 : B / aN.natAbs.gcd B < 18446744073709551616 := Nat.lt_of_le_of_lt (Nat.div_le_self _ _) (lt64 hB)
  have mp := fun m hm => mul_parts (m := m) ha hb hA0 hB0 hm
  have rA := fun d G => right_ev (TB := TB) aN (A : Int) h1 (in64_nat hA) d G
  have rB := fun d G => right_ev (TB := TB) bN (B : Int) h3 (in64_nat hB) d G
  rw [decide_eq_true hra] at rA
  rw [decide_eq_true hrb] at rB
  have za := fun d G => size_ev (TB := TB) aN h1 d G
  have zb := fun d G => size_ev (TB := TB) bN h3 d G
  have zA := fun d G => size_nat (TB := TB) A hA d G
  have zB := fun d G => size_nat (TB := TB) B hB d G
  have c1 := fun d G => common_ev (TB := TB) aN.natAbs B d G
  have c2 := fun d G => common_ev (TB := TB) bN.natAbs A d G
  have q1 := quo_eq (y := aN.natAbs.gcd B) ka
  have q2 := quo_eq (y := bN.natAbs.gcd A) kb
  have q3 := quo_eq (y := bN.natAbs.gcd A) (lt64 hA)
  have q4 := quo_eq (y := aN.natAbs.gcd B) (lt64 hB)
  have p1 := fun d G => product_ev (TB := TB) _ _ l1 l2 d G
  have p2 := fun d G => product_ev (TB := TB) _ _ l3 l4 d G
  have g10 : ¬ (aN.natAbs.gcd B = 0) := Nat.ne_of_gt g1
  have g20 : ¬ (bN.natAbs.gcd A = 0) := Nat.ne_of_gt g2
  generalize mkRat aN A * mkRat bN B = V at *
  clear ha hb hra hrb l1 l2 l3 l4 g1 g2 hA0 hB0
  generalize aN.natAbs.gcd B = ga at *
  generalize bN.natAbs.gcd A = gb at *
  generalize aN.natAbs = an at *
  generalize bN.natAbs = bn at *
  generalize an / ga = a1 at *
  generalize bn / gb = b1 at *
  generalize A / gb = a2 at *
  generalize B / ga = b2 at *
  generalize a1 * b1 = N at *
  generalize a2 * b2 = D at *
  have hput := fun m h1 h2 d G => put_ev (TB := TB) N D m h1 h2 d G
  have w1 : (!(decide (aN < 0) == decide (bN < 0))) = (decide (aN < 0) != decide (bN < 0)) := rfl
  generalize hx : (decide (aN < 0) != decide (bN < 0)) = x at *
  refine Tel.intro mix Try.func66 rfl (Nat.le_of_ble_eq_true rfl) {} (by kernel_rfl) (by kernel_rfl) ?_
  simp -implicitDefEqProofs [-Int.natCast_ediv, -Int.natCast_emod, -Int.natCast_mul, -Int.natCast_add, Try.results66]
  refine callp (rA _ _) ?_
  simp -implicitDefEqProofs [-Int.natCast_ediv, -Int.natCast_emod, -Int.natCast_mul, -Int.natCast_add, Try.results66]
  refine callp (rB _ _) ?_
  simp -implicitDefEqProofs [-Int.natCast_ediv, -Int.natCast_emod, -Int.natCast_mul, -Int.natCast_add, Try.results66]
  refine callp (za _ _) ?_
  simp -implicitDefEqProofs [-Int.natCast_ediv, -Int.natCast_emod, -Int.natCast_mul, -Int.natCast_add, Try.results66]
  refine callp (zB _ _) ?_
  simp -implicitDefEqProofs [-Int.natCast_ediv, -Int.natCast_emod, -Int.natCast_mul, -Int.natCast_add, Try.results66]
  refine callp (c1 _ _) ?_
  simp -implicitDefEqProofs [-Int.natCast_ediv, -Int.natCast_emod, -Int.natCast_mul, -Int.natCast_add, Try.results66]
  refine callp (zb _ _) ?_
  simp -implicitDefEqProofs [-Int.natCast_ediv, -Int.natCast_emod, -Int.natCast_mul, -Int.natCast_add, Try.results66]
  refine callp (zA _ _) ?_
  simp -implicitDefEqProofs [-Int.natCast_ediv, -Int.natCast_emod, -Int.natCast_mul, -Int.natCast_add, Try.results66]
  refine callp (c2 _ _) ?_
  simp -implicitDefEqProofs [-Int.natCast_ediv, -Int.natCast_emod, -Int.natCast_mul, -Int.natCast_add, Try.results66]
  refine callp (za _ _) ?_
  simp -implicitDefEqProofs [-Int.natCast_ediv, -Int.natCast_emod, -Int.natCast_mul, -Int.natCast_add, Try.results66, g10, q1]
  refine callp (zb _ _) ?_
  simp -implicitDefEqProofs [-Int.natCast_ediv, -Int.natCast_emod, -Int.natCast_mul, -Int.natCast_add, Try.results66, g20, q2]
  refine callp (p1 _ _) ?_
  simp -implicitDefEqProofs [-Int.natCast_ediv, -Int.natCast_emod, -Int.natCast_mul, -Int.natCast_add, Try.results66]
  refine callp (zA _ _) ?_
  simp -implicitDefEqProofs [-Int.natCast_ediv, -Int.natCast_emod, -Int.natCast_mul, -Int.natCast_add, Try.results66, g20, q3]
  refine callp (zB _ _) ?_
  simp -implicitDefEqProofs [-Int.natCast_ediv, -Int.natCast_emod, -Int.natCast_mul, -Int.natCast_add, Try.results66, g10, q4]
  refine callp (p2 _ _) ?_
  by_cases hN : N < 18446744073709551616
  · by_cases hD : D < 18446744073709551616
    · rw [Nat.mod_eq_of_lt hN, Nat.mod_eq_of_lt hD]
      cases x with
      | false =>
        rw [mp false (fun _ _ => rfl)]
        simp -implicitDefEqProofs [-Int.natCast_ediv, -Int.natCast_emod, -Int.natCast_mul, -Int.natCast_add, Try.results66, hN, hD, w1]
        refine callp (hput false hN hD _ _) ?_
        simp -implicitDefEqProofs [-Int.natCast_ediv, -Int.natCast_emod, -Int.natCast_mul, -Int.natCast_add, Try.results66, rG]
      | true =>
        by_cases hz : N = 0
        · rw [mp true (fun _ _ => rfl)]
          have e : put N D true = put N D false := by subst hz; unfold BallQ.put; simp
          rw [e]
          simp -implicitDefEqProofs [-Int.natCast_ediv, -Int.natCast_emod, -Int.natCast_mul, -Int.natCast_add, Try.results66, hN, hD, w1, hz]
          have hput' := hput false hN hD
          rw [hz] at hput'
          refine callp (hput' _ _) ?_
          simp -implicitDefEqProofs [-Int.natCast_ediv, -Int.natCast_emod, -Int.natCast_mul, -Int.natCast_add, Try.results66, rG]
        · rw [mp true (fun _ _ => rfl)]
          simp -implicitDefEqProofs [-Int.natCast_ediv, -Int.natCast_emod, -Int.natCast_mul, -Int.natCast_add, Try.results66, hN, hD, w1, hz]
          refine callp (hput true hN hD _ _) ?_
          simp -implicitDefEqProofs [-Int.natCast_ediv, -Int.natCast_emod, -Int.natCast_mul, -Int.natCast_add, Try.results66, rG]
    · rw [mp x (fun _ _ => rfl), big_put (.inr hD)]
      simp -implicitDefEqProofs [-Int.natCast_ediv, -Int.natCast_emod, -Int.natCast_mul, -Int.natCast_add, Try.results66, hN, hD, rG]
  · rw [mp x (fun _ _ => rfl), big_put (.inl hN)]
    simp -implicitDefEqProofs [-Int.natCast_ediv, -Int.natCast_emod, -Int.natCast_mul, -Int.natCast_add, Try.results66, hN, rG]
theorem mul_ev (aN aD bN bD : Int) (h1 : In64 aN) (h2 : In64 aD) (h3 : In64 bN) (h4 : In64 bD) (d : Nat) (G : Heap) :
    Tel Try.prog TB d 66 [.agg [.p (.int .i64 aN), .p (.int .i64 aD)], .agg [.p (.int .i64 bN), .p (.int .i64 bD)]] G (rG (mulS aN aD bN bD)) G := by
  unfold mulS
  have rA := fun d G => right_ev (TB := TB) aN aD h1 h2 d G
  have rB := fun d G => right_ev (TB := TB) bN bD h3 h4 d G
  by_cases hra : Right aN aD
  · by_cases hrb : Right bN bD
    · rw [if_pos ⟨hra, hrb⟩]
      obtain ⟨A, rfl, hA0, hA1, hAc⟩ := right_nat hra h2
      obtain ⟨B, rfl, hB0, hB1, hBc⟩ := right_nat hrb h4
      have eq0 : q aN (A : Int) * q bN (B : Int) = mkRat aN A * mkRat bN B := by unfold BallQ.q; simp
      rw [eq0]
      exact mul_run h1 h3 hA1 hB1 hA0 hB0 hAc hBc hra hrb d G
    · rw [if_neg (fun h => hrb h.2)]
      rw [decide_eq_true hra] at rA
      rw [decide_eq_false hrb] at rB
      refine Tel.intro mix Try.func66 rfl (Nat.le_of_ble_eq_true rfl) {} (by kernel_rfl) (by kernel_rfl) ?_
      simp -implicitDefEqProofs [Try.results66]
      refine callp (rA _ _) ?_
      simp -implicitDefEqProofs [Try.results66]
      refine callp (rB _ _) ?_
      simp -implicitDefEqProofs [Try.results66, rG]
  · rw [if_neg (fun h => hra h.1)]
    rw [decide_eq_false hra] at rA
    refine Tel.intro mix Try.func66 rfl (Nat.le_of_ble_eq_true rfl) {} (by kernel_rfl) (by kernel_rfl) ?_
    simp -implicitDefEqProofs [Try.results66]
    refine callp (rA _ _) ?_
    simp -implicitDefEqProofs [Try.results66, rG]
end Go.E
