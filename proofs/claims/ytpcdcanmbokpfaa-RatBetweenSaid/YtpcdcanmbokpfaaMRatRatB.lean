import Derived.Test.YtpcdcanmbokpfaaPRatx7
import Derived.Test.YtpcdcanmbokpfaaPRatx8
import Derived.Test.YtpcdcanmbokpfaaPRatx9
import Derived.Test.YtpcdcanmbokpfaaMRatRatA
namespace Go.Proofs.Ytpcdcanmbokpfaa.PRat
open Go Go.RowKit Go.Proofs.YtpcdcanmbokpfaaW.PrintWords Go.Proofs.YtpcdcanmbokpfaaW.PrintLast Go.Proofs.YtpcdcanmbokpfaaW.PrintMore
open BallQ (In64)
theorem add64_eq (x y c : Nat) (hc : c ≤ 1) : bits_Add64.f (x : Int) (y : Int) (c : Int) = some ((((x + y + c) % 18446744073709551616 : Nat) : Int), (((x + y + c) / 18446744073709551616 : Nat) : Int)) := by
  unfold bits_Add64.f
  rw [if_pos (by omega)]
  congr 2
theorem sub64_eq (x y b : Nat) (hb : b ≤ 1) (hy : y < 18446744073709551616) : bits_Sub64.f (x : Int) (y : Int) (b : Int) = some ((((x + 18446744073709551616 - y - b) % 18446744073709551616 : Nat) : Int), ((if x < y + b then 1 else 0 : Nat) : Int)) := by
  unfold bits_Sub64.f
  rw [if_pos (by omega)]
  congr 2
  · omega
  · by_cases h : x < y + b
    · rw [if_pos h, if_pos (by omega)]; rfl
    · rw [if_neg h, if_neg (by omega)]; rfl
theorem signed_mul (a b : Int) : a * b = if (decide (a < 0) != decide (b < 0)) = true then -((a.natAbs * b.natAbs : Nat) : Int) else ((a.natAbs * b.natAbs : Nat) : Int) := by
  rcases Int.natAbs_eq a with ea | ea <;> rcases Int.natAbs_eq b with eb | eb
  all_goals
    generalize a.natAbs = m at *
    generalize b.natAbs = n at *
    subst ea eb
    simp only [Int.natCast_mul]
  · have h1 : ¬ ((m : Int) < 0) := by omega
    have h2 : ¬ ((n : Int) < 0) := by omega
    simp [h1, h2]
  · have h1 : ¬ ((m : Int) < 0) := by omega
    by_cases h2 : -(n : Int) < 0
    · simp [h1]; rw [if_pos (by omega), Int.mul_neg]
    · have : n = 0 := by omega
      subst this; simp
  · have h1 : ¬ ((n : Int) < 0) := by omega
    by_cases h2 : -(m : Int) < 0
    · simp [h1]; rw [if_pos (by omega), Int.neg_mul]
    · have : m = 0 := by omega
      subst this; simp
  · by_cases h1 : -(m : Int) < 0 <;> by_cases h2 : -(n : Int) < 0
    · simp; rw [if_pos (by constructor <;> intro <;> omega), Int.neg_mul_neg]
    · have : n = 0 := by omega
      subst this; simp
    · have : m = 0 := by omega
      subst this; simp
    · have : m = 0 := by omega
      subst this; simp
theorem natAbs_le {a : Int} (h : In64 a) : a.natAbs ≤ 9223372036854775808 := by have := h.1; have := h.2; omega
theorem diff1_ev (P Q : Nat) (hQP : Q ≤ P) (hP : P < 340282366920938463463374607431768211456) (m : Bool) :
    Ev (fun k => rat_sum.j1 k ((P / 18446744073709551616 : Nat) : Int) ((P % 18446744073709551616 : Nat) : Int) ((Q / 18446744073709551616 : Nat) : Int) ((Q % 18446744073709551616 : Nat) : Int) m) ((((P - Q) / 18446744073709551616 : Nat) : Int), (((P - Q) % 18446744073709551616 : Nat) : Int), m) := by
  refine Ev.step (fun k => by rw [rat_sum.j1]) ?_
  refine Ev_bnd (sub64_eq (P % 18446744073709551616) (Q % 18446744073709551616) 0 (by omega) (by omega)) (Ev_bnd (sub64_eq (P / 18446744073709551616) (Q / 18446744073709551616) (if P % 18446744073709551616 < Q % 18446744073709551616 + 0 then 1 else 0) (by split <;> omega) (by omega)) (Ev_some fun _ => ?_))
  have e1 : (P / 18446744073709551616 + 18446744073709551616 - Q / 18446744073709551616 - (if P % 18446744073709551616 < Q % 18446744073709551616 + 0 then 1 else 0)) % 18446744073709551616 = (P - Q) / 18446744073709551616 := by split <;> omega
  have e2 : (P % 18446744073709551616 + 18446744073709551616 - Q % 18446744073709551616 - 0) % 18446744073709551616 = (P - Q) % 18446744073709551616 := by omega
  rw [e1, e2]
/-- The two ways of a difference of sizes. -/
theorem diff_ev (P Q : Nat) (hP : P < 340282366920938463463374607431768211456) (hQ : Q < 340282366920938463463374607431768211456) (m n : Bool) (c : Bool) (hc : c = decide (P < Q)) :
    Ev (fun k => rat_sum.j0 k ((P / 18446744073709551616 : Nat) : Int) ((P % 18446744073709551616 : Nat) : Int) ((Q / 18446744073709551616 : Nat) : Int) ((Q % 18446744073709551616 : Nat) : Int) m n c)
      ((((if P < Q then Q - P else P - Q) / 18446744073709551616 : Nat) : Int), (((if P < Q then Q - P else P - Q) % 18446744073709551616 : Nat) : Int), if P < Q then n else m) := by
  subst hc
  refine Ev.step (fun k => by rw [rat_sum.j0]) ?_
  by_cases h : P < Q
  · refine Ev_pos (decide_eq_true h) ?_
    rw [if_pos h, if_pos h]
    exact diff1_ev Q P (by omega) hQ n
  · refine Ev_neg (by simpa using h) ?_
    rw [if_neg h, if_neg h]
    exact diff1_ev P Q (by omega) hP m
/-- a b + c d, its size in two words, its sign. -/
theorem sum_ev (a b c d : Int) (ha : In64 a) (hb : In64 b) (hc : In64 c) (hd : In64 d) (v : Int) (hv : v = a * b + c * d) :
    ∃ m : Bool, Ev (fun k => rat_sum.f k a b c d) (((v.natAbs / 18446744073709551616 : Nat) : Int), ((v.natAbs % 18446744073709551616 : Nat) : Int), m) ∧ (v ≠ 0 → m = decide (v < 0)) := by
  have ka := natAbs_le ha
  have kb := natAbs_le hb
  have kc := natAbs_le hc
  have kd := natAbs_le hd
  have hP : a.natAbs * b.natAbs ≤ 9223372036854775808 * 9223372036854775808 := Nat.mul_le_mul ka kb
  have hQ : c.natAbs * d.natAbs ≤ 9223372036854775808 * 9223372036854775808 := Nat.mul_le_mul kc kd
  have m1 := mul64_eq a.natAbs b.natAbs (by omega) (by omega)
  have m2 := mul64_eq c.natAbs d.natAbs (by omega) (by omega)
  have s1 := signed_mul a b
  have s2 := signed_mul c d
  rw [s1, s2] at hv
  unfold rat_sum.f
  rw [size_eq a ha, size_eq b hb, size_eq c hc, size_eq d hd]
  simp only [Option.bind_some, m1, m2]
  generalize (decide (a < 0) != decide (b < 0)) = x at *
  generalize (decide (c < 0) != decide (d < 0)) = y at *
  generalize a.natAbs * b.natAbs = P at *
  generalize c.natAbs * d.natAbs = Q at *
  clear m1 m2 s1 s2 ha hb hc hd ka kb kc kd
  by_cases hxy : x = y
  · subst hxy
    refine ⟨x, Ev_pos (by simp) (Ev_bnd (add64_eq (P % 18446744073709551616) (Q % 18446744073709551616) 0 (by omega)) (Ev_bnd (add64_eq (P / 18446744073709551616) (Q / 18446744073709551616) ((P % 18446744073709551616 + Q % 18446744073709551616 + 0) / 18446744073709551616) (by omega)) (Ev_some fun _ => ?_))), ?_⟩
    · have hvn : v.natAbs = P + Q := by subst hv; cases x <;> simp <;> omega
      rw [hvn]
      have e1 : (P / 18446744073709551616 + Q / 18446744073709551616 + (P % 18446744073709551616 + Q % 18446744073709551616 + 0) / 18446744073709551616) % 18446744073709551616 = (P + Q) / 18446744073709551616 := by omega
      have e2 : (P % 18446744073709551616 + Q % 18446744073709551616 + 0) % 18446744073709551616 = (P + Q) % 18446744073709551616 := by omega
      rw [e1, e2]
    · intro h0
      subst hv
      cases x
      · simp at h0 ⊢; omega
      · simp at h0 ⊢; omega
  · have hyx : y = !x := by cases x <;> cases y <;> simp_all
    have hvn : v.natAbs = if P < Q then Q - P else P - Q := by
      subst hv hyx; cases x <;> simp <;> split <;> omega
    refine ⟨if P < Q then y else x, ?_, ?_⟩
    · refine Ev_neg (by simpa using hxy) ?_
      rw [hvn]
      by_cases h1 : ((P / 18446744073709551616 : Nat) : Int) < ((Q / 18446744073709551616 : Nat) : Int)
      · exact Ev_pos h1 (diff_ev P Q (by omega) (by omega) x y true (by rw [decide_eq_true]; omega))
      · refine Ev_neg h1 ?_
        by_cases h2 : ((P / 18446744073709551616 : Nat) : Int) = ((Q / 18446744073709551616 : Nat) : Int)
        · refine Ev_pos h2 (diff_ev P Q (by omega) (by omega) x y _ ?_)
          rw [decide_eq_decide]; omega
        · exact Ev_neg h2 (diff_ev P Q (by omega) (by omega) x y false (by rw [decide_eq_false]; omega))
    · intro h0
      subst hv hyx
      by_cases h : P < Q
      · rw [if_pos h]; cases x <;> simp at h0 ⊢ <;> omega
      · rw [if_neg h]; cases x <;> simp at h0 ⊢ <;> omega
end Go.Proofs.Ytpcdcanmbokpfaa.PRat
