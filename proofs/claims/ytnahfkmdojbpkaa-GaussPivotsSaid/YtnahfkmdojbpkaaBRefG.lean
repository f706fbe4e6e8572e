import Derived.Test.YtnahfkmdojbpkaaBRefF
/-! The reference's sums and products of fractions. -/
set_option linter.all false
set_option maxRecDepth 100000
namespace Go.E.Ref
open Go Go.Proofs Go.Eng BallBits
open BallQ
variable {TB : Nat → Option Obj}
abbrev fG (n d : Nat) (m : Bool) : GV := .agg [nG n, nG d, .p (.bool m)]
theorem from_ev (n k : Int) (hn : In64 n) (hk : In64 k) (d : Nat) (G : Heap) : Tel Try.prog TB d 61 [.agg [.p (.int .i64 n), .p (.int .i64 k)]] G (fG n.natAbs k.natAbs (decide (n < 0))) G := by
  refine Tel.intro mix Try.func61 rfl (Nat.le_of_ble_eq_true rfl) {} (by kernel_rfl) (by kernel_rfl) ?_
  simp -implicitDefEqProofs [-Int.natCast_ediv, -Int.natCast_emod, -Int.natCast_mul, -Int.natCast_add, Try.results61]
  refine callp (rsize_ev n hn _ _) ?_
  simp -implicitDefEqProofs [-Int.natCast_ediv, -Int.natCast_emod, -Int.natCast_mul, -Int.natCast_add, Try.results61]
  refine callp (rsize_ev k hk _ _) ?_
  simp -implicitDefEqProofs [-Int.natCast_ediv, -Int.natCast_emod, -Int.natCast_mul, -Int.natCast_add, Try.results61]
theorem to_ev (n k : Nat) (m : Bool) (hn : Sz n) (hk : Sz k) (h : 0 < k) (d : Nat) (G : Heap) : Tel Try.prog TB d 62 [fG n k m] G (rG (put (n / Nat.gcd n k) (k / Nat.gcd n k) m)) G := by
  have hg : 0 < Nat.gcd n k := Nat.gcd_pos_of_pos_right _ h
  have hgs : Sz (Nat.gcd n k) := hk.le (Nat.gcd_le_right _ h)
  have c0 := fun d G => rcommon_ev (TB := TB) n k hn hk d G
  have d1 := fun d G => divide_n (TB := TB) hn hgs hg d G
  have d2 := fun d G => divide_n (TB := TB) hk hgs hg d G
  have v1 := fun d G => value_ev (TB := TB) (n / Nat.gcd n k) (hn.le (Nat.div_le_self _ _)) d G
  have v2 := fun d G => value_ev (TB := TB) (k / Nat.gcd n k) (hk.le (Nat.div_le_self _ _)) d G
  generalize n / Nat.gcd n k = x at *
  generalize k / Nat.gcd n k = y at *
  generalize n % Nat.gcd n k = x' at *
  generalize k % Nat.gcd n k = y' at *
  generalize Nat.gcd n k = g at *
  have walk : ∀ (p : Prop), p → p := fun _ h => h
  refine Tel.intro mix Try.func62 rfl (Nat.le_of_ble_eq_true rfl) {} (by kernel_rfl) (by kernel_rfl) ?_
  simp -implicitDefEqProofs [-Int.natCast_ediv, -Int.natCast_emod, -Int.natCast_mul, -Int.natCast_add, Try.results62]
  refine callp (c0 _ _) ?_
  simp -implicitDefEqProofs [-Int.natCast_ediv, -Int.natCast_emod, -Int.natCast_mul, -Int.natCast_add, Try.results62]
  refine callp (d1 _ _) ?_
  simp -implicitDefEqProofs [-Int.natCast_ediv, -Int.natCast_emod, -Int.natCast_mul, -Int.natCast_add, Try.results62]
  refine callp (d2 _ _) ?_
  simp -implicitDefEqProofs [-Int.natCast_ediv, -Int.natCast_emod, -Int.natCast_mul, -Int.natCast_add, Try.results62]
  refine callp (v1 _ _) ?_
  simp -implicitDefEqProofs [-Int.natCast_ediv, -Int.natCast_emod, -Int.natCast_mul, -Int.natCast_add, Try.results62]
  refine callp (v2 _ _) ?_
  unfold BallQ.put
  by_cases hx : x < 9223372036854775808
  · by_cases hy : y < 9223372036854775808
    · have w1 : IntKind.i64.wrap (-(x : Int)) = -(x : Int) := by rw [wi64]; omega
      cases m
      · simp -implicitDefEqProofs [-Int.natCast_ediv, -Int.natCast_emod, -Int.natCast_mul, -Int.natCast_add, Try.results62, hx, hy, rG]
      · simp -implicitDefEqProofs [-Int.natCast_ediv, -Int.natCast_emod, -Int.natCast_mul, -Int.natCast_add, Try.results62, hx, hy, rG, w1]
    · simp -implicitDefEqProofs [-Int.natCast_ediv, -Int.natCast_emod, -Int.natCast_mul, -Int.natCast_add, Try.results62, hx, hy, rG]
  · simp -implicitDefEqProofs [-Int.natCast_ediv, -Int.natCast_emod, -Int.natCast_mul, -Int.natCast_add, Try.results62, hx, rG]
theorem rsum_ev (a b c e : Nat) (m1 m2 : Bool) (ha : Sz a) (hb : Sz b) (hc : Sz c) (he : Sz e) (hae : Sz (a * e)) (hcb : Sz (c * b)) (d : Nat) (G : Heap) :
    Tel Try.prog TB d 63 [fG a b m1, fG c e m2] G (fG (sumN a b c e m1 m2) (b * e) (sumM a b c e m1 m2)) G := by
  unfold sumN sumM
  have p1 := fun d G => mul_n (TB := TB) ha he d G
  have p2 := fun d G => mul_n (TB := TB) hc hb d G
  have p3 := fun d G => mul_n (TB := TB) hb he d G
  have ad := fun d G => add_n (TB := TB) hae hcb d G
  have ls := fun d G => less_n (TB := TB) (b := c * b) hae d G
  have s1 := fun (h : a * e < c * b) d G => sub_n (TB := TB) hcb (Nat.le_of_lt h) d G
  have s2 := fun (h : ¬ a * e < c * b) d G => sub_n (TB := TB) hae (Nat.not_lt.1 h) d G
  generalize a * e = x at *
  generalize c * b = y at *
  generalize b * e = z at *
  refine Tel.intro mix Try.func63 rfl (Nat.le_of_ble_eq_true rfl) {} (by kernel_rfl) (by kernel_rfl) ?_
  simp -implicitDefEqProofs [-Int.natCast_ediv, -Int.natCast_emod, -Int.natCast_mul, -Int.natCast_add, Try.results63]
  refine callp (p1 _ _) ?_
  simp -implicitDefEqProofs [-Int.natCast_ediv, -Int.natCast_emod, -Int.natCast_mul, -Int.natCast_add, Try.results63]
  refine callp (p2 _ _) ?_
  simp -implicitDefEqProofs [-Int.natCast_ediv, -Int.natCast_emod, -Int.natCast_mul, -Int.natCast_add, Try.results63]
  refine callp (p3 _ _) ?_
  by_cases hm : m1 = m2
  · subst hm
    simp -implicitDefEqProofs [-Int.natCast_ediv, -Int.natCast_emod, -Int.natCast_mul, -Int.natCast_add, Try.results63]
    refine callp (ad _ _) ?_
    simp -implicitDefEqProofs [-Int.natCast_ediv, -Int.natCast_emod, -Int.natCast_mul, -Int.natCast_add, Try.results63]
  · have hm' : (m1 == m2) = false := by simpa using hm
    simp -implicitDefEqProofs [-Int.natCast_ediv, -Int.natCast_emod, -Int.natCast_mul, -Int.natCast_add, Try.results63, hm']
    refine callp (ls _ _) ?_
    by_cases h : x < y
    · simp -implicitDefEqProofs [-Int.natCast_ediv, -Int.natCast_emod, -Int.natCast_mul, -Int.natCast_add, Try.results63, h, hm, hm']
      refine callp (s1 h _ _) ?_
      simp -implicitDefEqProofs [-Int.natCast_ediv, -Int.natCast_emod, -Int.natCast_mul, -Int.natCast_add, Try.results63]
    · simp -implicitDefEqProofs [-Int.natCast_ediv, -Int.natCast_emod, -Int.natCast_mul, -Int.natCast_add, Try.results63, h, hm, hm']
      refine callp (s2 h _ _) ?_
      simp -implicitDefEqProofs [-Int.natCast_ediv, -Int.natCast_emod, -Int.natCast_mul, -Int.natCast_add, Try.results63]
end Go.E.Ref
