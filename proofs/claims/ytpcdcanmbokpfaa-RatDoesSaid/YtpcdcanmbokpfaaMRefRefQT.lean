import Derived.Test.YtpcdcanmbokpfaaMRefRefDT
import Derived.Test.YtpcdcanmbokpfaaMRatRatDT
namespace Go.Proofs.Ytpcdcanmbokpfaa.PRef
open Go Go.RowKit BallBits BallQ
set_option linter.unusedSimpArgs false
theorem sgn_abs (n : Int) : sgn (decide (n < 0)) n.natAbs = n := by
  unfold sgn
  by_cases h : n < 0
  · simp only [h, decide_true, if_true]; omega
  · simp only [h, decide_false, Bool.false_eq_true, if_false]; omega
theorem abs_sgn (m : Bool) (n : Nat) : (sgn m n).natAbs = n := by
  cases m <;> simp [sgn]
theorem sgn_mul (m : Bool) (g n : Nat) : sgn m (g * n) = (g : Int) * sgn m n := by
  cases m <;> simp [sgn, Int.mul_neg]
theorem put_out (N D : Nat) (h : 0 < D) (m : Bool) : put (N / Nat.gcd N D) (D / Nat.gcd N D) m = out (mkRat (sgn m N) D) := by
  have hg : 0 < Nat.gcd N D := Nat.gcd_pos_of_pos_right _ h
  have e1 : Nat.gcd N D * (N / Nat.gcd N D) = N := Nat.mul_div_cancel' (Nat.gcd_dvd_left N D)
  have e2 : Nat.gcd N D * (D / Nat.gcd N D) = D := Nat.mul_div_cancel' (Nat.gcd_dvd_right N D)
  have hc : (N / Nat.gcd N D).gcd (D / Nat.gcd N D) = 1 := cop_of hg rfl
  have hD : D / Nat.gcd N D ≠ 0 := by
    intro h0
    rw [h0] at e2
    omega
  generalize hx : N / Nat.gcd N D = x at *
  generalize hy : D / Nat.gcd N D = y at *
  generalize hz : Nat.gcd N D = g at *
  have e3 : mkRat (sgn m N) D = mkRat (sgn m x) y := by
    rw [← e1, ← e2, sgn_mul]
    exact Rat.mkRat_mul_left (by omega)
  rw [e3, out_cop (sgn m x) y hD (by rw [abs_sgn]; exact hc) m ?_, abs_sgn]
  intro h0
  cases m
  · simp only [sgn, Bool.false_eq_true, if_false] at h0 ⊢; exact (decide_eq_false (by omega)).symm
  · simp only [sgn, if_true] at h0 ⊢; exact (decide_eq_true (by omega)).symm
theorem sum_sgn (a b c d : Nat) (m1 m2 : Bool) : sgn (sumM a b c d m1 m2) (sumN a b c d m1 m2) = sgn m1 a * (d : Int) + sgn m2 c * (b : Int) := by
  have e1 : sgn m1 a * (d : Int) = sgn m1 (a * d) := by cases m1 <;> simp [sgn, Int.neg_mul]
  have e2 : sgn m2 c * (b : Int) = sgn m2 (c * b) := by cases m2 <;> simp [sgn, Int.neg_mul]
  rw [e1, e2]
  unfold sumN sumM
  generalize a * d = x
  generalize c * b = y
  cases m1 <;> cases m2 <;> simp only [sgn, beq_self_eq_true, if_true, Bool.false_eq_true, if_false, beq_iff_eq, reduceCtorEq] <;> (try split) <;> (try simp only [sgn, if_true, Bool.false_eq_true, if_false]) <;> omega
theorem q_eq (n d : Int) (h : 0 < d) : q n d = mkRat (sgn (decide (n < 0)) n.natAbs) d.natAbs := by
  rw [sgn_abs]
  unfold q
  rw [show d.toNat = d.natAbs by omega]
theorem sgn_not (m : Bool) (n : Nat) : sgn (!m) n = -sgn m n := by cases m <;> simp [sgn]
theorem sgn_xor (m1 m2 : Bool) (a c : Nat) : sgn (m1 != m2) (a * c) = sgn m1 a * sgn m2 c := by
  cases m1 <;> cases m2 <;> simp [sgn, Int.neg_mul, Int.mul_neg]
theorem good0 {n1 d1 n2 d2 : Int} (h1 : Right n1 d1) (h2 : Right n2 d2) : good 0 n1 d1 n2 d2 = out (q n1 d1 + q n2 d2) := by
  have p1 := h1.1
  have p2 := h2.1
  rw [q_eq n1 d1 p1, q_eq n2 d2 p2, Rat.mkRat_add_mkRat _ _ (by omega) (by omega), ← sum_sgn]
  exact put_out _ _ (Nat.mul_pos (by omega) (by omega)) _
theorem good1 {n1 d1 n2 d2 : Int} (h1 : Right n1 d1) (h2 : Right n2 d2) : good 1 n1 d1 n2 d2 = out (q n1 d1 - q n2 d2) := by
  have p1 := h1.1
  have p2 := h2.1
  rw [Rat.sub_eq_add_neg, q_eq n1 d1 p1, q_eq n2 d2 p2, Rat.neg_mkRat, ← sgn_not, Rat.mkRat_add_mkRat _ _ (by omega) (by omega), ← sum_sgn]
  exact put_out _ _ (Nat.mul_pos (by omega) (by omega)) _
theorem good2 {n1 d1 n2 d2 : Int} (h1 : Right n1 d1) (h2 : Right n2 d2) : good 2 n1 d1 n2 d2 = out (q n1 d1 * q n2 d2) := by
  have p1 := h1.1
  have p2 := h2.1
  rw [q_eq n1 d1 p1, q_eq n2 d2 p2, Rat.mkRat_mul_mkRat, ← sgn_xor]
  exact put_out _ _ (Nat.mul_pos (by omega) (by omega)) _
theorem good3 {n1 d1 n2 d2 : Int} (h1 : Right n1 d1) (h2 : Right n2 d2) (i1 : In64 n2) (i2 : In64 d2) (h0 : n2 ≠ 0) : good 3 n1 d1 n2 d2 = out (q n1 d1 / q n2 d2) := by
  have p1 := h1.1
  have p2 := h2.1
  have hi : (q n2 d2)⁻¹ = mkRat (sgn (decide (n2 < 0)) d2.natAbs) n2.natAbs := by
    obtain ⟨kn, kp⟩ := PRat.right_inv h2 i1 i2 h0
    by_cases hn : n2 < 0
    · obtain ⟨_, _, _, e⟩ := kn hn
      rw [← e, decide_eq_true hn]
      unfold q sgn
      rw [show (-n2).toNat = n2.natAbs by omega, if_pos rfl, show ((d2.natAbs : Nat) : Int) = d2 by omega]
    · obtain ⟨_, e⟩ := kp hn
      rw [← e, decide_eq_false hn]
      unfold q sgn
      rw [show n2.toNat = n2.natAbs by omega, if_neg (by simp), show ((d2.natAbs : Nat) : Int) = d2 by omega]
  rw [Rat.div_def, hi, q_eq n1 d1 p1, Rat.mkRat_mul_mkRat, ← sgn_xor]
  exact put_out _ _ (Nat.mul_pos (by omega) (by omega)) _
end Go.Proofs.Ytpcdcanmbokpfaa.PRef
