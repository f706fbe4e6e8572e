import Derived.Test.YtnahfkmdojbpkaaBRefM
import Derived.Test.YtnahfkmdojbpkaaBRatM
/-! The reference's fractions, as the program reckons them. -/
set_option linter.all false
set_option maxRecDepth 100000
namespace Go.E.Ref
open Go Go.Proofs Go.Eng BallBits
open BallQ
variable {TB : Nat → Option Obj}
def sgn (m : Bool) (n : Nat) : Int := if m then -(n : Int) else (n : Int)
/-- The size above, of a sum of a/b and c/d with signs. -/
def sumN (a b c d : Nat) (m1 m2 : Bool) : Nat := if m1 == m2 then a * d + c * b else if a * d < c * b then c * b - a * d else a * d - c * b
def sumM (a b c d : Nat) (m1 m2 : Bool) : Bool := if m1 == m2 then m1 else if a * d < c * b then m2 else m1

theorem sgn_abs (n : Int) : sgn (decide (n < 0)) n.natAbs = n := by
  unfold sgn
  by_cases h : n < 0
  · simp only [h, decide_true, if_true]; omega
  · simp only [h, decide_false, Bool.false_eq_true, if_false]; omega
theorem abs_sgn (m : Bool) (n : Nat) : (sgn m n).natAbs = n := by
  cases m <;> simp [sgn]
theorem sgn_mul (m : Bool) (g n : Nat) : sgn m (g * n) = (g : Int) * sgn m n := by
  cases m <;> simp [sgn, Int.mul_neg]
theorem put_out (N D : Nat) (h : 0 < D) (m : Bool) : put (N / Nat.gcd N D) (D / Nat.gcd N D) m = out (mkRat (sgn m N) D) := by
  have hg : 0 < Nat.gcd N D := Nat.gcd_pos_of_pos_right _ h
  have e1 : Nat.gcd N D * (N / Nat.gcd N D) = N := Nat.mul_div_cancel' (Nat.gcd_dvd_left N D)
  have e2 : Nat.gcd N D * (D / Nat.gcd N D) = D := Nat.mul_div_cancel' (Nat.gcd_dvd_right N D)
  have hc : (N / Nat.gcd N D).gcd (D / Nat.gcd N D) = 1 := cop_of hg rfl
  have hD : D / Nat.gcd N D ≠ 0 := by
    intro h0
    rw [h0] at e2
    omega
  generalize hx : N / Nat.gcd N D = x at *
  generalize hy : D / Nat.gcd N D = y at *
  generalize hz : Nat.gcd N D = g at *
  have e3 : mkRat (sgn m N) D = mkRat (sgn m x) y := by
    rw [← e1, ← e2, sgn_mul]
    exact Rat.mkRat_mul_left (by omega)
  rw [e3, out_cop (sgn m x) y hD (by rw [abs_sgn]; exact hc) m ?_, abs_sgn]
  intro h0
  cases m
  · simp only [sgn, Bool.false_eq_true, if_false] at h0 ⊢; exact (decide_eq_false (by omega)).symm
  · simp only [sgn, if_true] at h0 ⊢; exact (decide_eq_true (by omega)).symm
theorem sum_sgn (a b c d : Nat) (m1 m2 : Bool) : sgn (sumM a b c d m1 m2) (sumN a b c d m1 m2) = sgn m1 a * (d : Int) + sgn m2 c * (b : Int) := by
  have e1 : sgn m1 a * (d : Int) = sgn m1 (a * d) := by cases m1 <;> simp [sgn, Int.neg_mul]
  have e2 : sgn m2 c * (b : Int) = sgn m2 (c * b) := by cases m2 <;> simp [sgn, Int.neg_mul]
  rw [e1, e2]
  unfold sumN sumM
  generalize a * d = x
  generalize c * b = y
  cases m1 <;> cases m2 <;> simp only [sgn, beq_self_eq_true, if_true, Bool.false_eq_true, if_false, beq_iff_eq, reduceCtorEq] <;> (try split) <;> (try simp only [sgn, if_true, Bool.false_eq_true, if_false]) <;> omega
theorem q_eq (n d : Int) (h : 0 < d) : q n d = mkRat (sgn (decide (n < 0)) n.natAbs) d.natAbs := by
  rw [sgn_abs]
  unfold q
  rw [show d.toNat = d.natAbs by omega]
theorem sgn_not (m : Bool) (n : Nat) : sgn (!m) n = -sgn m n := by cases m <;> simp [sgn]
theorem sgn_xor (m1 m2 : Bool) (a c : Nat) : sgn (m1 != m2) (a * c) = sgn m1 a * sgn m2 c := by
  cases m1 <;> cases m2 <;> simp [sgn, Int.neg_mul, Int.mul_neg]

/-- Small enough for all that is done here. -/
def Sz (n : Nat) : Prop := (bof n).length ≤ 2000
theorem len_le (L : Nat) {m n : Nat} (h : (bof n).length ≤ L) (hm : m ≤ n) : (bof m).length ≤ L := length_bof_le (Nat.lt_of_le_of_lt hm (lt_of_length h))
theorem Sz.le {m n : Nat} (h : Sz n) (hm : m ≤ n) : Sz m := len_le 2000 h hm
theorem sz64 {n : Nat} (h : n < 18446744073709551616) : Sz n := Nat.le_trans (length_bof_le (m := 64) h) (by omega)
abbrev nG (n : Nat) : GV := bG (bof n)
theorem add_n {a b : Nat} (ha : Sz a) (hb : Sz b) (d : Nat) (G : Heap) : Tel Try.prog TB d 74 [nG a, nG b] G (nG (a + b)) G := by
  have := add_ev (TB := TB) (bof a) (bof b) (by unfold Sz at ha; omega) (by unfold Sz at hb; omega) d G
  rwa [nv_bof, nv_bof] at this
theorem sub_n {a b : Nat} (ha : Sz a) (h : b ≤ a) (d : Nat) (G : Heap) : Tel Try.prog TB d 78 [nG a, nG b] G (nG (a - b)) G := by
  have := sub_ev (TB := TB) (bof a) (bof b) (by unfold Sz at ha; omega) (by rw [nv_bof, nv_bof]; exact h) d G
  rwa [nv_bof, nv_bof] at this
theorem mul_n {a b : Nat} (ha : Sz a) (hb : Sz b) (d : Nat) (G : Heap) : Tel Try.prog TB d 64 [nG a, nG b] G (nG (a * b)) G := by
  have := mul_evb (TB := TB) (bof a) (bof b) (by unfold Sz at ha; omega) (by unfold Sz at hb; omega) d G
  rwa [nv_bof, nv_bof] at this
theorem less_n {a b : Nat} (ha : Sz a) (d : Nat) (G : Heap) : Tel Try.prog TB d 77 [nG a, nG b] G (.p (.bool (decide (a < b)))) G :=
  less_ev a b (by unfold Sz at ha; omega) d G
theorem divide_n {a b : Nat} (ha : Sz a) (hb : Sz b) (h : 0 < b) (d : Nat) (G : Heap) : Tel Try.prog TB d 73 [nG a, nG b] G (.tup [nG (a / b), nG (a % b)]) G := by
  have := divide_ev (TB := TB) (bof a) b h (by unfold Sz at ha; omega) (by unfold Sz at hb; omega) d G
  rwa [nv_bof] at this
theorem rsize_ev (a : Int) (h : In64 a) (d : Nat) (G : Heap) : Tel Try.prog TB d 60 [.p (.int .i64 a)] G (nG a.natAbs) G := by
  obtain ⟨h0, h1⟩ := h
  refine Tel.intro mix Try.func60 rfl (Nat.le_of_ble_eq_true rfl) {} (by kernel_rfl) (by kernel_rfl) ?_
  by_cases h : a < 0
  · have e1 : IntKind.i64.wrap (a + 1) = a + 1 := by rw [wi64]; omega
    have e2 : IntKind.i64.wrap (-(a + 1)) = -(a + 1) := by rw [wi64]; omega
    have e3 : IntKind.u64.wrap (-(a + 1)) = ((a.natAbs - 1 : Nat) : Int) := by rw [wu64]; omega
    have hadd := fun d G => add_n (TB := TB) (a := a.natAbs - 1) (b := 1) (sz64 (by omega)) (sz64 (by omega)) d G
    rw [show a.natAbs - 1 + 1 = a.natAbs by omega] at hadd
    have o1 := fun d G => of_ev (TB := TB) (a.natAbs - 1) (by omega) d G
    have o2 := fun d G => of_ev (TB := TB) 1 (by omega) d G
    generalize a.natAbs - 1 = n1 at *
    simp -implicitDefEqProofs [-Int.natCast_ediv, -Int.natCast_emod, -Int.natCast_mul, -Int.natCast_add, Try.results60, h, e1, e2, e3]
    refine callp (o1 _ _) ?_
    simp -implicitDefEqProofs [-Int.natCast_ediv, -Int.natCast_emod, -Int.natCast_mul, -Int.natCast_add, Try.results60]
    refine callp (o2 _ _) ?_
    simp -implicitDefEqProofs [-Int.natCast_ediv, -Int.natCast_emod, -Int.natCast_mul, -Int.natCast_add, Try.results60]
    refine callp (hadd _ _) ?_
    simp -implicitDefEqProofs [-Int.natCast_ediv, -Int.natCast_emod, -Int.natCast_mul, -Int.natCast_add, Try.results60]
  · have e3 : IntKind.u64.wrap a = ((a.natAbs : Nat) : Int) := by rw [wu64]; omega
    simp -implicitDefEqProofs [-Int.natCast_ediv, -Int.natCast_emod, -Int.natCast_mul, -Int.natCast_add, Try.results60, h, e3]
    refine callp (of_ev a.natAbs (by omega) _ _) ?_
    simp -implicitDefEqProofs [-Int.natCast_ediv, -Int.natCast_emod, -Int.natCast_mul, -Int.natCast_add, Try.results60]
theorem rcommon_ev (a b : Nat) (ha : Sz a) (hb : Sz b) (d : Nat) (G : Heap) : Tel Try.prog TB d 59 [nG a, nG b] G (nG (Nat.gcd a b)) G := by
  refine Tel.intro mix Try.func59 rfl (Nat.le_of_ble_eq_true rfl) {} (by kernel_rfl) (by kernel_rfl) ?_
  simp -implicitDefEqProofs [-Int.natCast_ediv, -Int.natCast_emod, -Int.natCast_mul, -Int.natCast_add, Try.results59]
  refine gwp_loop (fun k s => ∃ x : Nat, s.F 0 = nG x ∧ s.F 1 = nG k ∧ Sz x ∧ Sz k ∧ x.gcd k = a.gcd b ∧ s.G = cut d G) (m := b) ⟨a, by simp -implicitDefEqProofs [-Int.natCast_ediv, -Int.natCast_emod, -Int.natCast_mul, -Int.natCast_add, ], by simp -implicitDefEqProofs [-Int.natCast_ediv, -Int.natCast_emod, -Int.natCast_mul, -Int.natCast_add, ], ha, hb, rfl, rfl⟩ ?_
  rintro k s ⟨x, h0, h1, hx, hk, hg, hG⟩
  by_cases h : k = 0
  · subst h
    rw [Nat.gcd_zero_right] at hg
    subst hg
    simp -implicitDefEqProofs [-Int.natCast_ediv, -Int.natCast_emod, -Int.natCast_mul, -Int.natCast_add, h0, h1, hG, bof_zero]
  · have hp : 0 < k := by omega
    have hl : 0 < (bof k).length := by
      rcases Nat.eq_zero_or_pos (bof k).length with e | e
      · exact absurd (bof_eq_nil.1 (List.length_eq_zero_iff.1 e)) h
      · exact e
    have hlt := Nat.mod_lt x hp
    simp -implicitDefEqProofs [-Int.natCast_ediv, -Int.natCast_emod, -Int.natCast_mul, -Int.natCast_add, h0, h1, hl]
    refine callp (divide_n hx hk hp _ _) ?_ (hf := by simp [hG])
    simp -implicitDefEqProofs [-Int.natCast_ediv, -Int.natCast_emod, -Int.natCast_mul, -Int.natCast_add, h0, h1, hl, hG]
    exact ⟨x % k, hlt, k, rfl, rfl, hk, hk.le (Nat.le_of_lt hlt), by rw [← hg, Nat.gcd_comm k (x % k), ← Nat.gcd_rec, Nat.gcd_comm]⟩
theorem value_ev (n : Nat) (hs : Sz n) (d : Nat) (G : Heap) : Tel Try.prog TB d 76 [nG n] G (.tup [.p (.int .i64 (if n < 9223372036854775808 then (n : Int) else 0)), .p (.bool (decide (n < 9223372036854775808)))]) G := by
  unfold nG
  refine Tel.intro mix Try.func76 rfl (Nat.le_of_ble_eq_true rfl) {} (by kernel_rfl) (by kernel_rfl) ?_
  have h63 : (bof n).length ≤ 63 ↔ n < 9223372036854775808 := length_bof n 63
  by_cases h : n < 9223372036854775808
  · have hl : (bof n).length ≤ 63 := h63.2 h
    have hl' : ¬ ((63 : Int) < ((bof n).length : Int)) := by omega
    have w0 : IntKind.i64.wrap (((bof n).length : Int) - 1) = ((bof n).length : Int) - 1 := by rw [wi64]; omega
    have hn : nv (bof n) = n := nv_bof n
    generalize bof n = l at *
    simp -implicitDefEqProofs [-Int.natCast_ediv, -Int.natCast_emod, -Int.natCast_mul, -Int.natCast_add, Try.results76, hl', w0, h]
    refine gwp_loop (fun k s => s.F 0 = bG l ∧ s.F 5 = .p (.int .i64 ((k : Int) - 1)) ∧ s.F 4 = .p (.int .i64 ((nv (l.drop k) : Nat) : Int)) ∧ s.G = cut d G ∧ k ≤ l.length) (m := l.length) ⟨by simp -implicitDefEqProofs [-Int.natCast_ediv, -Int.natCast_emod, -Int.natCast_mul, -Int.natCast_add, ], by simp -implicitDefEqProofs [-Int.natCast_ediv, -Int.natCast_emod, -Int.natCast_mul, -Int.natCast_add, ], by simp -implicitDefEqProofs [-Int.natCast_ediv, -Int.natCast_emod, -Int.natCast_mul, -Int.natCast_add, nv], by simp -implicitDefEqProofs [-Int.natCast_ediv, -Int.natCast_emod, -Int.natCast_mul, -Int.natCast_add, ], Nat.le_refl _⟩ ?_
    rintro k s ⟨h0, h5, h4, hG, hk⟩
    cases k with
    | zero =>
      rw [List.drop_zero, hn] at h4
      simp -implicitDefEqProofs [-Int.natCast_ediv, -Int.natCast_emod, -Int.natCast_mul, -Int.natCast_add, h0, h5, h4, hG]
    | succ k =>
      have e1 : (((k + 1 : Nat) : Int) - 1) = (k : Int) := by omega
      rw [e1] at h5
      have w2 : IntKind.i64.wrap ((k : Int) - 1) = (k : Int) - 1 := by rw [wi64]; omega
      have i1 := bit_at l k (by omega)
      have hb : nv (l.drop k) < 9223372036854775808 := by
        have h1 := nv_lt (l.drop k)
        have h2 : 2 ^ (l.drop k).length ≤ 2 ^ 63 := Nat.pow_le_pow_right (by omega) (by simp; omega)
        omega
      have nd : nv (l.drop k) = (bitAt l k).toNat + 2 * nv (l.drop (k + 1)) := nv_drop l k (by omega)
      rw [nd] at hb
      cases hB : bitAt l k <;> rw [hB] at i1 <;> rw [hB] at nd hb <;> simp only [Bool.toNat_false, Bool.toNat_true] at nd hb
      · have w3 : IntKind.i64.wrap (2 * ((nv (l.drop (k + 1)) : Nat) : Int)) = ((nv (l.drop k) : Nat) : Int) := by rw [nd, wi64]; omega
        simp -implicitDefEqProofs [-Int.natCast_ediv, -Int.natCast_emod, -Int.natCast_mul, -Int.natCast_add, h0, h5, h4, hG, i1, w2, w3, -List.getElem?_map]
        exact ⟨k, Nat.lt_succ_self k, rfl, rfl, by omega⟩
      · have w3 : IntKind.i64.wrap (2 * ((nv (l.drop (k + 1)) : Nat) : Int)) = 2 * ((nv (l.drop (k + 1)) : Nat) : Int) := by rw [wi64]; omega
        have w4 : IntKind.i64.wrap (2 * ((nv (l.drop (k + 1)) : Nat) : Int) + 1) = ((nv (l.drop k) : Nat) : Int) := by rw [nd, wi64]; omega
        simp -implicitDefEqProofs [-Int.natCast_ediv, -Int.natCast_emod, -Int.natCast_mul, -Int.natCast_add, h0, h5, h4, hG, i1, w2, w3, w4, -List.getElem?_map]
        exact ⟨k, Nat.lt_succ_self k, rfl, rfl, by omega⟩
  · have hl' : (63 : Int) < ((bof n).length : Int) := by
      have : ¬ (bof n).length ≤ 63 := fun hh => h (h63.1 hh)
      omega
    simp -implicitDefEqProofs [-Int.natCast_ediv, -Int.natCast_emod, -Int.natCast_mul, -Int.natCast_add, Try.results76, hl', h]
theorem rright_ev (n k : Int) (hn : In64 n) (hk : In64 k) (d : Nat) (G : Heap) : Tel Try.prog TB d 44 [.agg [.p (.int .i64 n), .p (.int .i64 k)]] G (.p (.bool (decide (Right n k)))) G := by
  refine Tel.intro mix Try.func44 rfl (Nat.le_of_ble_eq_true rfl) {} (by kernel_rfl) (by kernel_rfl) ?_
  by_cases h0 : k ≤ 0
  · have : ¬ Right n k := fun h => by have := h.1; omega
    simp -implicitDefEqProofs [-Int.natCast_ediv, -Int.natCast_emod, -Int.natCast_mul, -Int.natCast_add, Try.results44, h0, this]
  · by_cases h1 : n = -9223372036854775808
    · have : ¬ Right n k := fun h => h.2.1 h1
      subst h1
      simp -implicitDefEqProofs [-Int.natCast_ediv, -Int.natCast_emod, -Int.natCast_mul, -Int.natCast_add, Try.results44, h0, this]
    · have s1 : Sz n.natAbs := by obtain ⟨a, b⟩ := hn; exact sz64 (by omega)
      have s2 : Sz k.natAbs := by obtain ⟨a, b⟩ := hk; exact sz64 (by omega)
      have e : decide ((((bof (n.natAbs.gcd k.natAbs)).length : Nat) : Int) = 1) = decide (Right n k) := by
        rw [decide_eq_decide]
        have hp : 0 < n.natAbs.gcd k.natAbs := Nat.gcd_pos_of_pos_right _ (by omega)
        generalize hg : n.natAbs.gcd k.natAbs = g at *
        have l1 : (bof g).length ≤ 1 ↔ g < 2 := length_bof g 1
        have l0 : (bof g).length ≤ 0 ↔ g < 1 := length_bof g 0
        constructor
        · intro h; exact ⟨by omega, h1, by omega⟩
        · intro h
          have := h.2.2
          omega
      simp -implicitDefEqProofs [-Int.natCast_ediv, -Int.natCast_emod, -Int.natCast_mul, -Int.natCast_add, Try.results44, h0, h1]
      refine callp (rsize_ev n hn _ _) ?_
      simp -implicitDefEqProofs [-Int.natCast_ediv, -Int.natCast_emod, -Int.natCast_mul, -Int.natCast_add, Try.results44]
      refine callp (rsize_ev k hk _ _) ?_
      simp -implicitDefEqProofs [-Int.natCast_ediv, -Int.natCast_emod, -Int.natCast_mul, -Int.natCast_add, Try.results44]
      refine callp (rcommon_ev _ _ s1 s2 _ _) ?_
      simp -implicitDefEqProofs [-Int.natCast_ediv, -Int.natCast_emod, -Int.natCast_mul, -Int.natCast_add, Try.results44, e]
end Go.E.Ref
