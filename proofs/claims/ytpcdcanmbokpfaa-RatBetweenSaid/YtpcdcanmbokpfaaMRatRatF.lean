import Derived.Test.YtpcdcanmbokpfaaPRatx14
import Derived.Test.YtpcdcanmbokpfaaPRatx15
import Derived.Test.YtpcdcanmbokpfaaPRatx16
import Derived.Test.YtpcdcanmbokpfaaMRatRatE
namespace Go.Proofs.Ytpcdcanmbokpfaa.PRat
open Go Go.RowKit Go.Proofs.YtpcdcanmbokpfaaW.PrintWords Go.Proofs.YtpcdcanmbokpfaaW.PrintLast Go.Proofs.YtpcdcanmbokpfaaW.PrintMore
open BallQ (In64 Right q out fits put)
theorem put_ev (n d : Nat) (m : Bool) (_hn : n < 18446744073709551616) (_hd : d < 18446744073709551616) : Ev (fun k => rat_put.f k (n : Int) (d : Int) m) (put n d m) := by
  have big : Ev (fun k => rat_put.j0 k (n : Int) (d : Int) m true) (0, 0, 3) := Ev.step (fun k => by rw [rat_put.j0]) (Ev_pos rfl (Ev.now _))
  unfold rat_put.f BallQ.put
  by_cases h1 : (n : Int) > 9223372036854775807
  · refine Ev_pos h1 ?_
    rw [if_neg (by omega)]; exact big
  · refine Ev_neg h1 ?_
    by_cases h2 : (d : Int) > 9223372036854775807
    · rw [decide_eq_true h2, if_neg (by omega)]; exact big
    · rw [decide_eq_false h2, if_pos (by omega)]
      refine Ev.step (fun k => by rw [rat_put.j0]) (Ev_neg (by simp) ?_)
      have e1 : wrap64 (n : Int) = n := by unfold wrap64; omega
      have e2 : wrap64 (d : Int) = d := by unfold wrap64; omega
      have e3 : wrap64 (-(n : Int)) = -(n : Int) := by unfold wrap64; omega
      cases m
      · refine Ev_neg (by simp) (Ev_some fun _ => ?_)
        rw [e1, e2]; rfl
      · refine Ev_pos rfl (Ev_some fun _ => ?_)
        rw [e1, e2, e3]; rfl
theorem product_eq (a b : Nat) (ha : a < 18446744073709551616) (hb : b < 18446744073709551616) : rat_product.f (a : Int) (b : Int) = some (((a * b % 18446744073709551616 : Nat) : Int), decide (a * b < 18446744073709551616)) := by
  unfold rat_product.f
  rw [mul64_eq a b ha hb]
  simp only [Option.bind_some]
  congr 2
  by_cases h : a * b < 18446744073709551616
  · rw [decide_eq_true h, Nat.div_eq_of_lt h]; rfl
  · rw [decide_eq_false h, beq_eq_false_iff_ne]; omega
theorem right_nat {n d : Int} (h : Right n d) (hd : In64 d) : ∃ D : Nat, d = (D : Int) ∧ 0 < D ∧ D < 9223372036854775808 ∧ n.natAbs.gcd D = 1 := by
  obtain ⟨h0, _, h2⟩ := h
  have := hd.2
  refine ⟨d.natAbs, by omega, by omega, by omega, h2⟩
theorem out_zero : out 0 = (0, 1, 0) := by decide +kernel
theorem or_zero {a b : Nat} (ha : a < 18446744073709551616) (hb : b < 18446744073709551616) : Go.bits .or .u64 (a : Int) (b : Int) = 0 ↔ a = 0 ∧ b = 0 := by
  have := (bits_nat .u64 64 (by decide) wraps_u64 a b (by omega) (by omega)).2
  rw [this]
  have e : ((a ||| b : Nat) : Int) = 0 ↔ (a ||| b) = 0 := by omega
  rw [e, Nat.or_eq_zero_iff]
theorem gcd_le_right {a b : Nat} (hb : 0 < b) : a.gcd b ≤ b := Nat.gcd_le_right a hb
/-- What the sum of two fractions is. -/
def addS (aN aD bN bD : Int) : Int × Int × Int := if Right aN aD ∧ Right bN bD then out (q aN aD + q bN bD) else (0, 0, 2)
theorem add_fin {v t : Int} {p D : Nat} (hp0 : 0 < p) (ht : v = (p : Int) * t) (m : Bool) :
    (¬ v.natAbs / 18446744073709551616 < p → put t.natAbs D m = (0, 0, 3)) ∧ (v.natAbs / 18446744073709551616 < p → t.natAbs < 18446744073709551616) ∧ v.natAbs / p = t.natAbs := by
  have e : v.natAbs = p * t.natAbs := by rw [ht, Int.natAbs_mul, Int.natAbs_natCast]
  have e2 : v.natAbs / p = t.natAbs := by rw [e]; exact Nat.mul_div_cancel_left _ hp0
  refine ⟨?_, ?_, e2⟩
  · intro h
    have h1 : p * 18446744073709551616 ≤ v.natAbs := by
      have := Nat.div_mul_le_self v.natAbs 18446744073709551616
      have h3 := Nat.mul_le_mul_right 18446744073709551616 (Nat.not_lt.1 h)
      exact Nat.le_trans h3 this
    have h2 : 18446744073709551616 ≤ t.natAbs := by
      rw [← e2, Nat.le_div_iff_mul_le hp0, Nat.mul_comm]; exact h1
    unfold BallQ.put
    rw [if_neg]
    intro h3
    have := h3.1
    clear h3 h1 e e2 ht h
    omega
  · intro h
    rw [← e2, Nat.div_lt_iff_lt_mul hp0]
    have h1 := (Nat.div_lt_iff_lt_mul (show 0 < 18446744073709551616 by decide)).1 h
    rw [Nat.mul_comm]; exact h1
theorem in64_nat {n : Nat} (h : n < 9223372036854775808) : In64 (n : Int) := ⟨by omega, by omega⟩
theorem lt64 {n : Nat} (h : n < 9223372036854775808) : n < 18446744073709551616 := by omega
theorem pos_ne {n : Nat} (h : 0 < n) : ¬ ((n : Nat) : Int) = 0 := by omega
theorem sign_of {v t : Int} {p : Nat} (hp0 : 0 < p) (ht : v = (p : Int) * t) : decide (v < 0) = decide (t < 0) := by
  rw [decide_eq_decide, ht]
  have hp : (0 : Int) < (p : Int) := by omega
  constructor
  · intro h
    by_cases h' : t < 0
    · exact h'
    · have := Int.mul_nonneg (Int.le_of_lt hp) (Int.not_lt.1 h')
      exact absurd h (Int.not_lt.2 this)
  · intro h; exact Int.mul_neg_of_pos_of_neg hp h
theorem nat_split (n : Nat) (h : n < 340282366920938463463374607431768211456) : n / 18446744073709551616 * 18446744073709551616 + n % 18446744073709551616 = n ∧ n / 18446744073709551616 < 18446744073709551616 ∧ n % 18446744073709551616 < 18446744073709551616 := by omega
theorem sum_bound {x y : Int} (hx : x.natAbs ≤ 9223372036854775808 * 9223372036854775808) (hy : y.natAbs ≤ 9223372036854775808 * 9223372036854775808) : (x + y).natAbs < 340282366920938463463374607431768211456 := by omega
theorem prod_bound {x : Int} {n : Nat} (hx : In64 x) (hn : n < 9223372036854775808) : (x * (n : Int)).natAbs ≤ 9223372036854775808 * 9223372036854775808 := by
  rw [Int.natAbs_mul]; exact Nat.mul_le_mul (natAbs_le hx) (by rw [Int.natAbs_natCast]; omega)
/-- The run behind the looks at both: the denominators' common part g, the sum v over it. -/
theorem add_run {aN bN : Int} {A B g A' B' : Nat} (h1 : In64 aN) (h3 : In64 bN) (hA : A < 9223372036854775808) (hB : B < 9223372036854775808) (hg : g = A.gcd B) (hg0 : 0 < g) (hgA : g < 9223372036854775808) (eA : A' = A / g) (eB : B' = B / g)
    {v t : Int} {p D : Nat} (hv : v = aN * (B' : Int) + bN * (A' : Int)) (hp : p = g.gcd v.natAbs) (ht : v = (p : Int) * t) (hD : D = A' * (B / p)) (hDne : D ≠ 0) (hcop : t.natAbs.gcd D = 1) :
    Ev (fun k => rat_Add.j0 k false aN (A : Int) bN (B : Int)) (out (mkRat t D)) := by
  have hp0 : 0 < p := by rw [hp]; exact Nat.gcd_pos_of_pos_left _ hg0
  have hpg : p ≤ g := by rw [hp]; exact Nat.gcd_le_left _ hg0
  have dA : A' < 9223372036854775808 := by rw [eA]; exact Nat.lt_of_le_of_lt (Nat.div_le_self _ _) hA
  have dB : B' < 9223372036854775808 := by rw [eB]; exact Nat.lt_of_le_of_lt (Nat.div_le_self _ _) hB
  have dP : B / p < 9223372036854775808 := Nat.lt_of_le_of_lt (Nat.div_le_self _ _) hB
  obtain ⟨m, hs, hm⟩ := sum_ev aN (B' : Int) bN (A' : Int) h1 (in64_nat dB) h3 (in64_nat dA) v hv
  have hvb : v.natAbs < 340282366920938463463374607431768211456 := by rw [hv]; exact sum_bound (prod_bound h1 dB) (prod_bound h3 dA)
  obtain ⟨ewh, hl1, hl2⟩ := nat_split _ hvb
  have HV := Aside0.mk hv; have HT := Aside0.mk ht; have HD := Aside0.mk hD; have EA := Aside0.mk eA; have EB := Aside0.mk eB; have HP := Aside0.mk hp; have HG := Aside0.mk hg
  clear hv ht hD eA eB hp hg
  have ew : wrap64 (g : Int) = (g : Int) := w64 (by omega) (by omega)
  have et : ∀ X : Nat, X < 9223372036854775808 → wrap64 (Int.tdiv (X : Int) (g : Int)) = ((X / g : Nat) : Int) := by
    intro X hX
    have hd := Nat.div_le_self X g
    rw [Int.tdiv_eq_ediv_of_nonneg (by omega), ← Int.natCast_ediv]
    generalize X / g = y at *
    exact w64 (by omega) (by omega)
  refine Ev.step (fun k => by rw [rat_Add.j0]) (Ev_neg (by simp) ?_)
  refine Ev_bnd (size_eq _ (in64_nat hA)) (Ev_bnd (size_eq _ (in64_nat hB)) (Ev.bind (common_ev _ _) ?_))
  simp only [Int.natAbs_natCast]
  rw [← HG.out, ew, et A hA, et B hB, ← EA.out, ← EB.out]
  refine Ev_neg (pos_ne hg0) (Ev.bind hs ?_)
  clear hs
  by_cases hz : v = 0
  · have t0 : t = 0 := by
      rcases Int.mul_eq_zero.1 (HT.out.symm.trans hz) with h | h
      · exact absurd h (pos_ne hp0)
      · exact h
    refine Ev_pos ((or_zero hl1 hl2).2 ⟨by rw [hz]; rfl, by rw [hz]; rfl⟩) (Ev_some fun _ => ?_)
    rw [t0, Rat.zero_mkRat, out_zero]
  · refine Ev_neg (fun h => hz ?_) ?_
    · obtain ⟨a1, a2⟩ := (or_zero hl1 hl2).1 h
      have : v.natAbs = 0 := by rw [← ewh, a1, a2]
      exact Int.natAbs_eq_zero.1 this
    have hrem := rem64_ev (v.natAbs / 18446744073709551616) (v.natAbs % 18446744073709551616) g hg0 (lt64 hgA) hl2
    rw [ewh] at hrem
    refine Ev.bind hrem (Ev.bind (common_ev _ _) ?_)
    have eg : g.gcd (v.natAbs % g) = p := by rw [Nat.gcd_comm, ← Nat.gcd_rec, HP.out]
    rw [eg]
    obtain ⟨f1, f2, f3⟩ := add_fin (D := D) hp0 HT.out m
    rw [BallQ.out_cop t D hDne hcop m (fun _ => (hm hz).trans (sign_of hp0 HT.out))]
    by_cases hh : v.natAbs / 18446744073709551616 < p
    · refine Ev_neg (by omega) ?_
      have hdiv := div64_ev (v.natAbs / 18446744073709551616) (v.natAbs % 18446744073709551616) p hh (Nat.lt_of_le_of_lt hpg (lt64 hgA)) hl2
      rw [ewh, f3] at hdiv
      refine Ev.bind hdiv (Ev_neg (pos_ne hg0) (Ev_neg (pos_ne hp0) ?_))
      rw [(sub_mul_eq (R := A) (y1 := g) (lt64 hA)).1, (sub_mul_eq (R := B) (y1 := p) (lt64 hB)).1, ← EA.out]
      refine Ev_bnd (product_eq _ _ (lt64 dA) (lt64 dP)) ?_
      rw [← HD.out]
      by_cases hDl : D < 18446744073709551616
      · refine Ev_pos (decide_eq_true hDl) ?_
        have := put_ev t.natAbs D m (f2 hh) hDl
        rw [Nat.mod_eq_of_lt hDl]
        exact Ev.bind this (Ev_some fun _ => rfl)
      · refine Ev_neg (by simpa using hDl) (Ev_some fun _ => ?_)
        unfold BallQ.put
        rw [if_neg (fun h => hDl (lt64 h.2))]
    · refine Ev_pos (by omega) (Ev_some fun _ => ?_)
      rw [f1 hh]
theorem add_ev (aN aD bN bD : Int) (h1 : In64 aN) (h2 : In64 aD) (h3 : In64 bN) (h4 : In64 bD) : Ev (fun k => rat_Add.f k aN aD bN bD) (addS aN aD bN bD) := by
  have bad : Ev (fun k => rat_Add.j0 k true aN aD bN bD) (0, 0, 2) := Ev.step (fun k => by rw [rat_Add.j0]) (Ev_pos rfl (Ev.now _))
  unfold rat_Add.f addS
  by_cases hra : Right aN aD
  · refine Ev.bind (Ev_cast (right_ev aN aD h1 h2) (decide_eq_true hra)) (Ev_pos rfl ?_)
    by_cases hrb : Right bN bD
    · rw [if_pos ⟨hra, hrb⟩]
      refine Ev.bind (Ev_cast (right_ev bN bD h3 h4) (decide_eq_true hrb)) ?_
      obtain ⟨A, rfl, hA0, hA1, hAc⟩ := right_nat hra h2
      obtain ⟨B, rfl, hB0, hB1, hBc⟩ := right_nat hrb h4
      obtain ⟨t, ht, hval, hcop, hne⟩ := BallQ.add_parts hAc hBc hA0 hB0 (aN * ((B / A.gcd B : Nat) : Int) + bN * ((A / A.gcd B : Nat) : Int)) rfl
      have eq0 : q aN (A : Int) + q bN (B : Int) = mkRat aN A + mkRat bN B := by unfold BallQ.q; simp
      rw [eq0, hval]
      have hg0 : 0 < A.gcd B := Nat.gcd_pos_of_pos_left _ hA0
      exact add_run h1 h3 hA1 hB1 rfl hg0 (Nat.lt_of_le_of_lt (Nat.gcd_le_left B hA0) hA1) rfl rfl rfl rfl ht rfl hne hcop
    · rw [if_neg (fun h => hrb h.2)]
      refine Ev.bind (Ev_cast (right_ev bN bD h3 h4) (decide_eq_false hrb)) ?_
      exact bad
  · rw [if_neg (fun h => hra h.1)]
    refine Ev.bind (Ev_cast (right_ev aN aD h1 h2) (decide_eq_false hra)) (Ev_neg (by simp) bad)
end Go.Proofs.Ytpcdcanmbokpfaa.PRat
