import Derived.Test.YtpcdcanmbokpfaaPRatx17
import Derived.Test.YtpcdcanmbokpfaaMRatRatF
namespace Go.Proofs.Ytpcdcanmbokpfaa.PRat
open Go Go.RowKit Go.Proofs.YtpcdcanmbokpfaaW.PrintWords Go.Proofs.YtpcdcanmbokpfaaW.PrintLast Go.Proofs.YtpcdcanmbokpfaaW.PrintMore
open BallQ (In64 Right q out fits put)
theorem div_exact {a : Int} {x : Nat} (h : x ∣ a.natAbs) (hx : 0 < x) : ∃ t : Int, a = (x : Int) * t ∧ a.natAbs / x = t.natAbs := by
  have hd : (x : Int) ∣ a := Int.dvd_natAbs.1 (Int.natCast_dvd_natCast.2 h)
  obtain ⟨t, ht⟩ := hd
  refine ⟨t, ht, ?_⟩
  have e : a.natAbs = x * t.natAbs := by rw [ht, Int.natAbs_mul, Int.natAbs_natCast]
  rw [e]; exact Nat.mul_div_cancel_left _ hx
/-- A product of two fractions, its common parts taken out beforehand. -/
theorem mul_parts {aN bN : Int} {A B : Nat} (ha : aN.natAbs.gcd A = 1) (hb : bN.natAbs.gcd B = 1) (hA : 0 < A) (hB : 0 < B) (m : Bool) (hm : aN ≠ 0 → bN ≠ 0 → m = (decide (aN < 0) != decide (bN < 0))) :
    out (mkRat aN A * mkRat bN B) = put (aN.natAbs / aN.natAbs.gcd B * (bN.natAbs / bN.natAbs.gcd A)) (A / bN.natAbs.gcd A * (B / aN.natAbs.gcd B)) m := by
  have g1 : 0 < aN.natAbs.gcd B := Nat.gcd_pos_of_pos_right _ hB
  have g2 : 0 < bN.natAbs.gcd A := Nat.gcd_pos_of_pos_right _ hA
  have hc := BallQ.mul_cop ha hb hA hB
  obtain ⟨a', ha', ea⟩ := div_exact (Nat.gcd_dvd_left aN.natAbs B) g1
  obtain ⟨b', hb', eb⟩ := div_exact (Nat.gcd_dvd_left bN.natAbs A) g2
  obtain ⟨A', hA'⟩ := Nat.gcd_dvd_right bN.natAbs A
  obtain ⟨B', hB'⟩ := Nat.gcd_dvd_right aN.natAbs B
  have eA : A / bN.natAbs.gcd A = A' := by
    conv => lhs; lhs; rw [hA']
    exact Nat.mul_div_cancel_left _ g2
  have eB : B / aN.natAbs.gcd B = B' := by
    conv => lhs; lhs; rw [hB']
    exact Nat.mul_div_cancel_left _ g1
  rw [ea, eb, eA, eB] at hc
  rw [ea, eb, eA, eB]
  have hv : mkRat aN A * mkRat bN B = mkRat (a' * b') (A' * B') := by
    rw [Rat.mkRat_mul_mkRat]
    have e1 : aN * bN = ((aN.natAbs.gcd B * bN.natAbs.gcd A : Nat) : Int) * (a' * b') := by
      conv => lhs; rw [ha', hb']
      rw [Int.natCast_mul]; grind
    have e2 : A * B = aN.natAbs.gcd B * bN.natAbs.gcd A * (A' * B') := by
      conv => lhs; rw [hA', hB']
      grind
    rw [e1, e2]
    exact Rat.mkRat_mul_left (Nat.ne_of_gt (Nat.mul_pos g1 g2))
  rw [hv]
  have hA0 : A' ≠ 0 := by intro h; rw [h] at hA'; simp at hA'; omega
  have hB0 : B' ≠ 0 := by intro h; rw [h] at hB'; simp at hB'; omega
  have hn : (a' * b').natAbs = a'.natAbs * b'.natAbs := Int.natAbs_mul _ _
  rw [← hn] at hc ⊢
  refine BallQ.out_cop _ _ (Nat.mul_ne_zero hA0 hB0) hc m (fun h => ?_)
  have ha0 : a' ≠ 0 := by intro e; apply h; rw [e]; simp
  have hb0 : b' ≠ 0 := by intro e; apply h; rw [e]; simp
  have hma : decide (aN < 0) = decide (a' < 0) := sign_of g1 ha'
  have hmb : decide (bN < 0) = decide (b' < 0) := sign_of g2 hb'
  have na : aN ≠ 0 := by rw [ha']; intro e; rcases Int.mul_eq_zero.1 e with e | e; · omega
                         · exact ha0 e
  have nb : bN ≠ 0 := by rw [hb']; intro e; rcases Int.mul_eq_zero.1 e with e | e; · omega
                         · exact hb0 e
  rw [hm na nb, hma, hmb]
  by_cases p1 : a' < 0 <;> by_cases p2 : b' < 0
  · have : ¬ a' * b' < 0 := by have := Int.mul_pos_of_neg_of_neg p1 p2; omega
    simp [p1, p2, this]
  · have : a' * b' < 0 := Int.mul_neg_of_neg_of_pos p1 (by omega)
    simp [p1, p2, this]
  · have : a' * b' < 0 := Int.mul_neg_of_pos_of_neg (by omega) p2
    simp [p1, p2, this]
  · have : ¬ a' * b' < 0 := by have := Int.mul_nonneg (Int.not_lt.1 p1) (Int.not_lt.1 p2); omega
    simp [p1, p2, this]
def mulS (aN aD bN bD : Int) : Int × Int × Int := if Right aN aD ∧ Right bN bD then out (q aN aD * q bN bD) else (0, 0, 2)
theorem big_put {n d : Nat} {m : Bool} (h : ¬ n < 18446744073709551616 ∨ ¬ d < 18446744073709551616) : put n d m = (0, 0, 3) := by
  unfold BallQ.put
  rw [if_neg]
  intro h2
  rcases h with h | h
  · exact h (lt64 h2.1)
  · exact h (lt64 h2.2)
theorem mul_run {aN bN : Int} {A B : Nat} (h1 : In64 aN) (h3 : In64 bN) (hA : A < 9223372036854775808) (hB : B < 9223372036854775808) (hA0 : 0 < A) (hB0 : 0 < B) (ha : aN.natAbs.gcd A = 1) (hb : bN.natAbs.gcd B = 1) :
    Ev (fun k => rat_Mul.j0 k false aN (A : Int) bN (B : Int)) (out (mkRat aN A * mkRat bN B)) := by
  have g1 : 0 < aN.natAbs.gcd B := Nat.gcd_pos_of_pos_right _ hB0
  have g2 : 0 < bN.natAbs.gcd A := Nat.gcd_pos_of_pos_right _ hA0
  have ka : aN.natAbs < 18446744073709551616 := Nat.lt_of_le_of_lt (natAbs_le h1) (by decide)
  have kb : bN.natAbs < 18446744073709551616 := Nat.lt_of_le_of_lt (natAbs_le h3) (by decide)
  have l1 : aN.natAbs / aN.natAbs.gcd B < 18446744073709551616 := Nat.lt_of_le_of_lt (Nat.div_le_self _ _) ka
  have l2 : bN.natAbs / bN.natAbs.gcd A < 18446744073709551616 := Nat.lt_of_le_of_lt (Nat.div_le_self _ _) kb
  have l3 : A / bN.natAbs.gcd A < 18446744073709551616 := Nat.lt_of_le_of_lt (Nat.div_le_self _ _) (lt64 hA)
  have l4 : B / aN.natAbs.gcd B < 18446744073709551616 := Nat.lt_of_le_of_lt (Nat.div_le_self _ _) (lt64 hB)
  refine Ev.step (fun k => by rw [rat_Mul.j0]) (Ev_neg (by simp) ?_)
  refine Ev_bnd (size_eq _ h1) (Ev_bnd (size_eq _ (in64_nat hB)) (Ev.bind (common_ev _ _) (Ev_bnd (size_eq _ h3) (Ev_bnd (size_eq _ (in64_nat hA)) (Ev.bind (common_ev _ _) ?_)))))
  simp only [Int.natAbs_natCast]
  refine Ev_neg (pos_ne g1) (Ev_neg (pos_ne g2) ?_)
  rw [(sub_mul_eq (R := aN.natAbs) (y1 := aN.natAbs.gcd B) ka).1, (sub_mul_eq (R := bN.natAbs) (y1 := bN.natAbs.gcd A) kb).1]
  refine Ev_bnd (product_eq _ _ l1 l2) ?_
  rw [(sub_mul_eq (R := A) (y1 := bN.natAbs.gcd A) (lt64 hA)).1, (sub_mul_eq (R := B) (y1 := aN.natAbs.gcd B) (lt64 hB)).1]
  refine Ev_bnd (product_eq _ _ l3 l4) ?_
  have mp := fun m hm => mul_parts (m := m) ha hb hA0 hB0 hm
  have over : ∀ (x y : Int), put (aN.natAbs / aN.natAbs.gcd B * (bN.natAbs / bN.natAbs.gcd A)) (A / bN.natAbs.gcd A * (B / aN.natAbs.gcd B)) (decide (aN < 0) != decide (bN < 0)) = (0, 0, 3) → Ev (fun k => rat_Mul.j1 k x y true aN (A : Int) bN (B : Int)) (out (mkRat aN A * mkRat bN B)) := by
    intro x y h
    rw [mp (decide (aN < 0) != decide (bN < 0)) (fun _ _ => rfl), h]
    exact Ev.step (fun k => by rw [rat_Mul.j1]) (Ev_pos rfl (Ev.now _))
  by_cases hN : aN.natAbs / aN.natAbs.gcd B * (bN.natAbs / bN.natAbs.gcd A) < 18446744073709551616
  · refine Ev_pos (decide_eq_true hN) ?_
    by_cases hD : A / bN.natAbs.gcd A * (B / aN.natAbs.gcd B) < 18446744073709551616
    · rw [decide_eq_true hD]
      refine Ev.step (fun k => by rw [rat_Mul.j1]) (Ev_neg (by simp) ?_)
      rw [Nat.mod_eq_of_lt hN, Nat.mod_eq_of_lt hD]
      by_cases hs : (decide (aN < 0) != decide (bN < 0)) = true
      · refine Ev_pos hs ?_
        by_cases hz : aN.natAbs / aN.natAbs.gcd B * (bN.natAbs / bN.natAbs.gcd A) = 0
        · have : ((((aN.natAbs / aN.natAbs.gcd B * (bN.natAbs / bN.natAbs.gcd A) : Nat) : Int)) != 0) = false := by rw [hz]; rfl
          rw [this]
          refine Ev.bind (put_ev _ _ false hN hD) (Ev_some fun _ => ?_)
          have h0 := mp true (fun _ _ => hs.symm)
          rw [h0, hz]
          unfold BallQ.put
          simp
        · have : ((((aN.natAbs / aN.natAbs.gcd B * (bN.natAbs / bN.natAbs.gcd A) : Nat) : Int)) != 0) = true := by rw [bne_iff_ne]; exact fun e => hz (Int.ofNat_eq_zero.1 e)
          rw [this]
          refine Ev.bind (put_ev _ _ true hN hD) (Ev_some fun _ => ?_)
          rw [mp true (fun _ _ => hs.symm)]
      · refine Ev_neg hs (Ev.bind (put_ev _ _ false hN hD) (Ev_some fun _ => ?_))
        rw [mp false (fun _ _ => (Bool.eq_false_iff.2 hs).symm)]
    · rw [decide_eq_false hD]
      exact over _ _ (big_put (.inr hD))
  · exact Ev_neg (by simpa using hN) (over _ _ (big_put (.inl hN)))
theorem mul_ev (aN aD bN bD : Int) (h1 : In64 aN) (h2 : In64 aD) (h3 : In64 bN) (h4 : In64 bD) : Ev (fun k => rat_Mul.f k aN aD bN bD) (mulS aN aD bN bD) := by
  have bad : Ev (fun k => rat_Mul.j0 k true aN aD bN bD) (0, 0, 2) := Ev.step (fun k => by rw [rat_Mul.j0]) (Ev_pos rfl (Ev.now _))
  unfold rat_Mul.f mulS
  by_cases hra : Right aN aD
  · refine Ev.bind (Ev_cast (right_ev aN aD h1 h2) (decide_eq_true hra)) (Ev_pos rfl ?_)
    by_cases hrb : Right bN bD
    · rw [if_pos ⟨hra, hrb⟩]
      refine Ev.bind (Ev_cast (right_ev bN bD h3 h4) (decide_eq_true hrb)) ?_
      obtain ⟨A, rfl, hA0, hA1, hAc⟩ := right_nat hra h2
      obtain ⟨B, rfl, hB0, hB1, hBc⟩ := right_nat hrb h4
      have eq0 : q aN (A : Int) * q bN (B : Int) = mkRat aN A * mkRat bN B := by unfold BallQ.q; simp
      rw [eq0]
      exact mul_run h1 h3 hA1 hB1 hA0 hB0 hAc hBc
    · rw [if_neg (fun h => hrb h.2)]
      refine Ev.bind (Ev_cast (right_ev bN bD h3 h4) (decide_eq_false hrb)) bad
  · rw [if_neg (fun h => hra h.1)]
    refine Ev.bind (Ev_cast (right_ev aN aD h1 h2) (decide_eq_false hra)) (Ev_neg (by simp) bad)
end Go.Proofs.Ytpcdcanmbokpfaa.PRat
