import Derived.Test.YtnahfkmdojbpkaaBRatC
/-! Fractions of 64 bits, as the program reckons them: the sum. -/
set_option linter.all false
set_option maxRecDepth 100000
namespace Go.E
open Go Go.Proofs Go.Eng
open BallQ (In64 Right q out fits put)
variable {TB : Nat → Option Obj}
def rG (x : Int × Int × Int) : GV := .tup [.agg [.p (.int .i64 x.1), .p (.int .i64 x.2.1)], .p (.int .i64 x.2.2)]
@[simp] theorem adopt_rG {d t : Nat} {x : Int × Int × Int} : adopt d t (rG x) [] = (rG x, []) := by unfold rG; simp
theorem i64_quo {X g : Nat} (hX : X < 9223372036854775808) : IntKind.i64.wrap ((X : Int) / (g : Int)) = ((X / g : Nat) : Int) := by
  have hd := Nat.div_le_self X g
  rw [← Int.natCast_ediv]
  generalize X / g = y at *
  rw [wi64]; omega
theorem i64_nat {X : Nat} (hX : X < 9223372036854775808) : IntKind.i64.wrap (X : Int) = (X : Int) := by
  rw [wi64]; omega
theorem size_nat (A : Nat) (hA : A < 9223372036854775808) (d : Nat) (G : Heap) : Tel Try.prog TB d 50 [.p (.int .i64 (A : Int))] G (.p (.int .u64 (A : Int))) G := by
  have := size_ev (TB := TB) (A : Int) (in64_nat hA) d G
  rwa [Int.natAbs_natCast] at this
theorem add_run {aN bN : Int} {A B g A' B' : Nat} (h1 : In64 aN) (h3 : In64 bN) (hA : A < 9223372036854775808) (hB : B < 9223372036854775808) (hg : g = A.gcd B) (hg0 : 0 < g) (hgA : g < 9223372036854775808) (eA : A' = A / g) (eB : B' = B / g)
    {v t : Int} {p D : Nat} (hv : v = aN * (B' : Int) + bN * (A' : Int)) (hp : p = g.gcd v.natAbs) (ht : v = (p : Int) * t) (hD : D = A' * (B / p)) (hDne : D ≠ 0) (hcop : t.natAbs.gcd D = 1) (hra : Right aN A) (hrb : Right bN B) (d : Nat) (G : Heap) :
    Tel Try.prog TB d 70 [.agg [.p (.int .i64 aN), .p (.int .i64 (A : Int))], .agg [.p (.int .i64 bN), .p (.int .i64 (B : Int))]] G (rG (out (mkRat t D))) G := by
  have hp0 : 0 < p := by rw [hp]; exact Nat.gcd_pos_of_pos_left _ hg0
  have hpg : p ≤ g := by rw [hp]; exact Nat.gcd_le_left _ hg0
  have dA : A' < 9223372036854775808 := by rw [eA]; exact Nat.lt_of_le_of_lt (Nat.div_le_self _ _) hA
  have dB : B' < 9223372036854775808 := by rw [eB]; exact Nat.lt_of_le_of_lt (Nat.div_le_self _ _) hB
  have dP : B / p < 9223372036854775808 := Nat.lt_of_le_of_lt (Nat.div_le_self _ _) hB
  obtain ⟨m, hm, hs⟩ := sum_ev (TB := TB) aN (B' : Int) bN (A' : Int) v h1 (in64_nat dB) h3 (in64_nat dA) hv
  have hvb : v.natAbs < 340282366920938463463374607431768211456 := by rw [hv]; exact sum_bound (prod_bound h1 dB) (prod_bound h3 dA)
  obtain ⟨ewh, hl1, hl2⟩ := nat_split _ hvb
  have zA := fun d G => size_nat (TB := TB) A hA d G
  have zB := fun d G => size_nat (TB := TB) B hB d G
  have cAB := fun d G => common_ev (TB := TB) A B d G
  rw [← hg] at cAB
  have rA := fun d G => right_ev (TB := TB) aN (A : Int) h1 (in64_nat hA) d G
  have rB := fun d G => right_ev (TB := TB) bN (B : Int) h3 (in64_nat hB) d G
  rw [decide_eq_true hra] at rA
  rw [decide_eq_true hrb] at rB
  have ew : IntKind.i64.wrap (g : Int) = (g : Int) := i64_nat hgA
  have tA : IntKind.i64.wrap ((A : Int) / (g : Int)) = (A' : Int) := by rw [i64_quo hA, ← eA]
  have tB : IntKind.i64.wrap ((B : Int) / (g : Int)) = (B' : Int) := by rw [i64_quo hB, ← eB]
  have uA : IntKind.u64.wrap ((A : Int) / (g : Int)) = (A' : Int) := by rw [quo_eq (lt64 hA), ← eA]
  have uB : IntKind.u64.wrap ((B : Int) / (p : Int)) = ((B / p : Nat) : Int) := quo_eq (lt64 hB)
  have g0 : ¬ (g = 0) := Nat.ne_of_gt hg0
  have p0 : ¬ (p = 0) := Nat.ne_of_gt hp0
  have oz : (orI .u64 ((v.natAbs / 18446744073709551616 : Nat) : Int) ((v.natAbs % 18446744073709551616 : Nat) : Int) = 0) = (v = 0) := by
    refine propext ((or_zero hl1 hl2).trans ⟨fun h => ?_, fun h => by rw [h]; exact ⟨rfl, rfl⟩⟩)
    have : v.natAbs = 0 := by rw [← ewh, h.1, h.2]
    exact Int.natAbs_eq_zero.1 this
  have hrem := fun d G => rem64_ev (TB := TB) (v.natAbs / 18446744073709551616) (v.natAbs % 18446744073709551616) g hg0 (lt64 hgA) hl2 d G
  rw [ewh] at hrem
  have c2 := fun d G => common_ev (TB := TB) g (v.natAbs % g) d G
  have eg : g.gcd (v.natAbs % g) = p := by rw [Nat.gcd_comm, ← Nat.gcd_rec, hp]
  rw [eg] at c2
  obtain ⟨f1, f2, f3⟩ := add_fin (D := D) hp0 ht m
  have hprod := fun d G => product_ev (TB := TB) A' (B / p) (lt64 dA) (lt64 dP) d G
  rw [← hD] at hprod
  have hdiv : v.natAbs / 18446744073709551616 < p → ∀ d G, Tel Try.prog TB d 85 [.p (.int .u64 ((v.natAbs / 18446744073709551616 : Nat) : Int)), .p (.int .u64 ((v.natAbs % 18446744073709551616 : Nat) : Int)), .p (.int .u64 (p : Int))] G
    (.tup [.p (.int .u64 (t.natAbs : Int)), .p (.int .u64 ((v.natAbs % p : Nat) : Int))]) G := fun hh d G => by
      have := div64_ev (TB := TB) (v.natAbs / 18446744073709551616) (v.natAbs % 18446744073709551616) p hh (Nat.lt_of_le_of_lt hpg (lt64 hgA)) hl2 d G
      rwa [ewh, f3] at this
  have hz0 : v = 0 → mkRat t D = 0 := fun hz => by
    have t0 : t = 0 := by
      rcases Int.mul_eq_zero.1 (ht.symm.trans hz) with h | h
      · exact absurd h (pos_ne hp0)
      · exact h
    rw [t0, Rat.zero_mkRat]
  have hcp : v ≠ 0 → out (mkRat t D) = put t.natAbs D m := fun hz => BallQ.out_cop t D hDne hcop m (fun _ => (hm hz).trans (sign_of hp0 ht))
  have hput := fun h1 h2 d G => put_ev (TB := TB) t.natAbs D m h1 h2 d G
  have g1 := fun q n : Nat => ge_iff (q := q) (n := n) (z := (n : Int)) rfl
  generalize hH : v.natAbs / 18446744073709551616 = H at *
  generalize hL : v.natAbs % 18446744073709551616 = L at *
  generalize v.natAbs % g = rg at *
  generalize v.natAbs % p = rp at *
  generalize B / p = Bp at *
  clear hv ht hD eA eB hp hg hra hrb hvb ewh hl1 hl2 f3 eg hH hL
  refine Tel.intro mix Try.func70 rfl (Nat.le_of_ble_eq_true rfl) {} (by kernel_rfl) (by kernel_rfl) ?_
  simp -implicitDefEqProofs [-Int.natCast_ediv, -Int.natCast_emod, -Int.natCast_mul, -Int.natCast_add, Try.results70]
  refine callp (rA _ _) ?_
  simp -implicitDefEqProofs [-Int.natCast_ediv, -Int.natCast_emod, -Int.natCast_mul, -Int.natCast_add, Try.results70]
  refine callp (rB _ _) ?_
  simp -implicitDefEqProofs [-Int.natCast_ediv, -Int.natCast_emod, -Int.natCast_mul, -Int.natCast_add, Try.results70]
  refine callp (zA _ _) ?_
  simp -implicitDefEqProofs [-Int.natCast_ediv, -Int.natCast_emod, -Int.natCast_mul, -Int.natCast_add, Try.results70]
  refine callp (zB _ _) ?_
  simp -implicitDefEqProofs [-Int.natCast_ediv, -Int.natCast_emod, -Int.natCast_mul, -Int.natCast_add, Try.results70]
  refine callp (cAB _ _) ?_
  simp -implicitDefEqProofs [-Int.natCast_ediv, -Int.natCast_emod, -Int.natCast_mul, -Int.natCast_add, Try.results70, ew, g0, tA, tB]
  refine callp (hs _ _) ?_
  by_cases hz : v = 0
  · rw [hz0 hz, out_zero]
    simp -implicitDefEqProofs [-Int.natCast_ediv, -Int.natCast_emod, -Int.natCast_mul, -Int.natCast_add, Try.results70, oz, hz, rG]
  · rw [hcp hz]
    simp -implicitDefEqProofs [-Int.natCast_ediv, -Int.natCast_emod, -Int.natCast_mul, -Int.natCast_add, Try.results70, oz, hz]
    refine callp (hrem _ _) ?_
    simp -implicitDefEqProofs [-Int.natCast_ediv, -Int.natCast_emod, -Int.natCast_mul, -Int.natCast_add, Try.results70]
    refine callp (c2 _ _) ?_
    by_cases hh : H < p
    · have hge : ¬ (p ≤ H) := Nat.not_le.2 hh
      simp -implicitDefEqProofs [-Int.natCast_ediv, -Int.natCast_emod, -Int.natCast_mul, -Int.natCast_add, Try.results70, hge]
      refine callp (hdiv hh _ _) ?_
      simp -implicitDefEqProofs [-Int.natCast_ediv, -Int.natCast_emod, -Int.natCast_mul, -Int.natCast_add, Try.results70, p0, g0]
      refine callp (zA _ _) ?_
      simp -implicitDefEqProofs [-Int.natCast_ediv, -Int.natCast_emod, -Int.natCast_mul, -Int.natCast_add, Try.results70, p0, g0, uA]
      refine callp (zB _ _) ?_
      simp -implicitDefEqProofs [-Int.natCast_ediv, -Int.natCast_emod, -Int.natCast_mul, -Int.natCast_add, Try.results70, p0, g0, uA, uB]
      refine callp (hprod _ _) ?_
      by_cases hDl : D < 18446744073709551616
      · rw [Nat.mod_eq_of_lt hDl]
        simp -implicitDefEqProofs [-Int.natCast_ediv, -Int.natCast_emod, -Int.natCast_mul, -Int.natCast_add, Try.results70, hDl]
        refine callp (hput (f2 hh) hDl _ _) ?_
        simp -implicitDefEqProofs [-Int.natCast_ediv, -Int.natCast_emod, -Int.natCast_mul, -Int.natCast_add, Try.results70, rG]
      · have hover : put t.natAbs D m = (0, 0, 3) := big_put (.inr hDl)
        rw [hover]
        simp -implicitDefEqProofs [-Int.natCast_ediv, -Int.natCast_emod, -Int.natCast_mul, -Int.natCast_add, Try.results70, hDl, rG]
    · have hge : p ≤ H := Nat.not_lt.1 hh
      rw [f1 hh]
      simp -implicitDefEqProofs [-Int.natCast_ediv, -Int.natCast_emod, -Int.natCast_mul, -Int.natCast_add, Try.results70, hge, rG]
theorem add_ev (aN aD bN bD : Int) (h1 : In64 aN) (h2 : In64 aD) (h3 : In64 bN) (h4 : In64 bD) (d : Nat) (G : Heap) :
    Tel Try.prog TB d 70 [.agg [.p (.int .i64 aN), .p (.int .i64 aD)], .agg [.p (.int .i64 bN), .p (.int .i64 bD)]] G (rG (addS aN aD bN bD)) G := by
  unfold addS
  have rA := fun d G => right_ev (TB := TB) aN aD h1 h2 d G
  have rB := fun d G => right_ev (TB := TB) bN bD h3 h4 d G
  by_cases hra : Right aN aD
  · by_cases hrb : Right bN bD
    · rw [if_pos ⟨hra, hrb⟩]
      obtain ⟨A, rfl, hA0, hA1, hAc⟩ := right_nat hra h2
      obtain ⟨B, rfl, hB0, hB1, hBc⟩ := right_nat hrb h4
      obtain ⟨t, ht, hval, hcop, hne⟩ := BallQ.add_parts hAc hBc hA0 hB0 (aN * ((B / A.gcd B : Nat) : Int) + bN * ((A / A.gcd B : Nat) : Int)) rfl
      have eq0 : q aN (A : Int) + q bN (B : Int) = mkRat aN A + mkRat bN B := by unfold BallQ.q; simp
      rw [eq0, hval]
      have hg0 : 0 < A.gcd B := Nat.gcd_pos_of_pos_left _ hA0
      exact add_run h1 h3 hA1 hB1 rfl hg0 (Nat.lt_of_le_of_lt (Nat.gcd_le_left B hA0) hA1) rfl rfl rfl rfl ht rfl hne hcop hra hrb d G
    · rw [if_neg (fun h => hrb h.2)]
      rw [decide_eq_true hra] at rA
      rw [decide_eq_false hrb] at rB
      refine Tel.intro mix Try.func70 rfl (Nat.le_of_ble_eq_true rfl) {} (by kernel_rfl) (by kernel_rfl) ?_
      simp -implicitDefEqProofs [Try.results70]
      refine callp (rA _ _) ?_
      simp -implicitDefEqProofs [Try.results70]
      refine callp (rB _ _) ?_
      simp -implicitDefEqProofs [Try.results70, rG]
  · rw [if_neg (fun h => hra h.1)]
    rw [decide_eq_false hra] at rA
    refine Tel.intro mix Try.func70 rfl (Nat.le_of_ble_eq_true rfl) {} (by kernel_rfl) (by kernel_rfl) ?_
    simp -implicitDefEqProofs [Try.results70]
    refine callp (rA _ _) ?_
    simp -implicitDefEqProofs [Try.results70, rG]
end Go.E
