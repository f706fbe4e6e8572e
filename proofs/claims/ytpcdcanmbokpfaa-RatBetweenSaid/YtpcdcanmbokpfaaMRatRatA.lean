import Derived.Test.YtpcdcanmbokpfaaPRatx3
import Derived.Test.YtpcdcanmbokpfaaPRatx4
import Derived.Test.YtpcdcanmbokpfaaPRatx5
import Derived.Test.YtpcdcanmbokpfaaPRatx6
import Derived.Test.YtpcdcanmbokpfaaMRatEvT
import Derived.Test.YtpcdcanmbokpfaaMRatQT
import Derived.Laws.BitsLemmas
namespace Go.Proofs.Ytpcdcanmbokpfaa.PRat
open Go Go.RowKit Go.Proofs.YtpcdcanmbokpfaaW.PrintWords Go.Proofs.YtpcdcanmbokpfaaW.PrintLast Go.Proofs.YtpcdcanmbokpfaaW.PrintMore
open BallQ (In64)
theorem common_ev (b : Nat) : ∀ a : Nat, Ev (fun k => rat_common.f k (a : Int) (b : Int)) ((a.gcd b : Nat) : Int) := by
  unfold rat_common.f
  induction b using Nat.strongRecOn with
  | _ b ih =>
    intro a
    refine Ev.step (fun k => by rw [rat_common.l0]) ?_
    by_cases h : b = 0
    · subst h
      refine Ev_pos rfl (Ev_some fun _ => ?_)
      simp
    · refine Ev_neg (by omega) ?_
      have e : Int.tmod (a : Int) (b : Int) = ((a % b : Nat) : Int) := by rw [Int.tmod_eq_emod_of_nonneg (by omega)]; omega
      rw [e]
      refine Ev_cast (ih (a % b) (Nat.mod_lt _ (by omega)) b) ?_
      rw [Nat.gcd_comm b, ← Nat.gcd_rec, Nat.gcd_comm]
theorem size_eq (a : Int) (h : In64 a) : rat_size.f a = some ((a.natAbs : Nat) : Int) := by
  obtain ⟨h0, h1⟩ := h
  unfold rat_size.f
  by_cases hn : a < 0
  · rw [if_pos hn, wu64, wu64]; congr 1; omega
  · rw [if_neg hn, wu64]; congr 1; omega
theorem right_ev (n d : Int) (hn : In64 n) (hd : In64 d) : Ev (fun k => rat_Right.f k n d) (decide (BallQ.Right n d)) := by
  unfold rat_Right.f
  by_cases h0 : d > 0
  · refine Ev_pos h0 ?_
    by_cases h1 : n = -9223372036854775808
    · refine Ev_pos h1 (Ev_some fun _ => ?_)
      have : ¬ BallQ.Right n d := fun h => h.2.1 h1
      rw [decide_eq_false this]
    · refine Ev_neg h1 (Ev_bnd (size_eq n hn) (Ev_bnd (size_eq d hd) (Ev.bind (common_ev _ _) (Ev_some fun _ => ?_))))
      congr 1
      by_cases hg : n.natAbs.gcd d.natAbs = 1
      · rw [decide_eq_true (show BallQ.Right n d from ⟨h0, h1, hg⟩), hg]; rfl
      · rw [decide_eq_false (show ¬ BallQ.Right n d from fun h => hg h.2.2)]
        simp only [beq_eq_false_iff_ne, ne_eq]
        omega
  · refine Ev_neg h0 (Ev_some fun _ => ?_)
    have : ¬ BallQ.Right n d := fun h => h0 h.1
    rw [decide_eq_false this]
theorem wraps_u64 (n : Int) (h₀ : 0 ≤ n) (h₁ : n < 2 ^ 64) : IntKind.u64.wrap n = n := by rw [wu64]; omega
theorem and32 (x : Nat) (h : x < 18446744073709551616) : Go.bits .and .u64 (x : Int) 4294967295 = ((x % 4294967296 : Nat) : Int) := by
  have := bits_mask .u64 64 (by decide) wraps_u64 32 (by decide) (x : Int) (by omega) (by omega)
  have e : ((2 : Int) ^ 32 - 1) = 4294967295 := by decide
  rw [e] at this
  rw [this]; omega
theorem mul_split (x1 x0 y1 y0 B : Nat) (hB : 0 < B) : (x1 * B + x0) * (y1 * B + y0) / (B * B) = x1 * y1 + (x1 * y0 + x0 * y0 / B) / B + ((x1 * y0 + x0 * y0 / B) % B + x0 * y1) / B := by
  have h1 := Nat.div_add_mod (x0 * y0) B
  have h2 := Nat.div_add_mod (x1 * y0 + x0 * y0 / B) B
  generalize hw : x0 * y0 / B = w at *
  generalize hr : x0 * y0 % B = r at *
  generalize hu : (x1 * y0 + w) / B = u at *
  generalize hv : (x1 * y0 + w) % B = v at *
  have hrB : r < B := by rw [← hr]; exact Nat.mod_lt _ hB
  have h3 := Nat.div_add_mod (v + x0 * y1) B
  generalize hs : (v + x0 * y1) / B = s at *
  have htB : (v + x0 * y1) % B < B := Nat.mod_lt _ hB
  generalize (v + x0 * y1) % B = t at *
  have e : (x1 * B + x0) * (y1 * B + y0) = (x1 * y1 + u + s) * (B * B) + (t * B + r) := by
    have a1 : (x1 * B + x0) * (y1 * B + y0) = x1 * y1 * (B * B) + (x1 * y0) * B + (x0 * y1) * B + x0 * y0 := by grind
    have a2 : (x1 * y0 + w) * B = (B * u + v) * B := by rw [h2]
    have a3 : (v + x0 * y1) * B = (B * s + t) * B := by rw [h3]
    rw [a1, ← h1]
    have b1 : (x1 * y0) * B + w * B = B * u * B + v * B := by rw [← Nat.add_mul, ← Nat.add_mul]; exact a2
    have b2 : v * B + x0 * y1 * B = B * s * B + t * B := by rw [← Nat.add_mul, ← Nat.add_mul]; exact a3
    have c1 : (x1 * y1 + u + s) * (B * B) = x1 * y1 * (B * B) + B * u * B + B * s * B := by grind
    have c2 : B * w = w * B := Nat.mul_comm _ _
    rw [c1, c2]
    omega
  rw [e]
  have hlt : t * B + r < B * B := by
    have : (t + 1) * B ≤ B * B := Nat.mul_le_mul_right _ htB
    rw [Nat.add_mul] at this; omega
  rw [Nat.mul_comm, Nat.mul_add_div (Nat.mul_pos hB hB), Nat.div_eq_of_lt hlt, Nat.add_zero]
theorem mul_lt {a b A B : Nat} (ha : a < A) (hb : b < B) : a * b ≤ (A - 1) * (B - 1) := Nat.mul_le_mul (by omega) (by omega)
theorem mul64_eq (a b : Nat) (ha : a < 18446744073709551616) (hb : b < 18446744073709551616) : bits_Mul64.f (a : Int) (b : Int) = some (((a * b / 18446744073709551616 : Nat) : Int), ((a * b % 18446744073709551616 : Nat) : Int)) := by
  have hs := mul_split (a / 4294967296) (a % 4294967296) (b / 4294967296) (b % 4294967296) 4294967296 (by omega)
  rw [Nat.div_add_mod', Nat.div_add_mod'] at hs
  have ea : (a : Int) / 4294967296 = ((a / 4294967296 : Nat) : Int) := by omega
  have eb : (b : Int) / 4294967296 = ((b / 4294967296 : Nat) : Int) := by omega
  unfold bits_Mul64.f
  rw [and32 a ha, and32 b hb, ea, eb]
  have a1 : a / 4294967296 < 4294967296 := by omega
  have a0 : a % 4294967296 < 4294967296 := by omega
  have b1 : b / 4294967296 < 4294967296 := by omega
  have b0 : b % 4294967296 < 4294967296 := by omega
  have elo : IntKind.u64.wrap ((a : Int) * (b : Int)) = ((a * b % 18446744073709551616 : Nat) : Int) := by rw [wu64]; omega
  rw [elo, hs]
  generalize a / 4294967296 = x1 at *
  generalize a % 4294967296 = x0 at *
  generalize b / 4294967296 = y1 at *
  generalize b % 4294967296 = y0 at *
  have m1 := mul_lt a1 b1
  have m2 := mul_lt a1 b0
  have m3 := mul_lt a0 b0
  have m4 := mul_lt a0 b1
  have w1 : IntKind.u64.wrap ((x0 : Int) * (y0 : Int)) = ((x0 * y0 : Nat) : Int) := by rw [wu64, ← Int.natCast_mul]; omega
  have w2 : IntKind.u64.wrap ((x1 : Int) * (y0 : Int)) = ((x1 * y0 : Nat) : Int) := by rw [wu64, ← Int.natCast_mul]; omega
  have w3 : IntKind.u64.wrap ((x0 : Int) * (y1 : Int)) = ((x0 * y1 : Nat) : Int) := by rw [wu64, ← Int.natCast_mul]; omega
  have w4 : IntKind.u64.wrap ((x1 : Int) * (y1 : Int)) = ((x1 * y1 : Nat) : Int) := by rw [wu64, ← Int.natCast_mul]; omega
  rw [w1, w2, w3, w4]
  generalize x0 * y0 = p00 at *
  generalize x1 * y0 = p10 at *
  generalize x0 * y1 = p01 at *
  generalize x1 * y1 = p11 at *
  have e1 : IntKind.u64.wrap ((p10 : Int) + (p00 : Int) / 4294967296) = ((p10 + p00 / 4294967296 : Nat) : Int) := by rw [wu64]; omega
  have et : p10 + p00 / 4294967296 < 18446744073709551616 := by omega
  rw [e1, and32 _ et]
  have e2 : IntKind.u64.wrap (((p10 + p00 / 4294967296) % 4294967296 : Nat) + (p01 : Int)) = (((p10 + p00 / 4294967296) % 4294967296 + p01 : Nat) : Int) := by rw [wu64]; omega
  rw [e2]
  have e3 : IntKind.u64.wrap ((p11 : Int) + ((p10 + p00 / 4294967296 : Nat) : Int) / 4294967296) = ((p11 + (p10 + p00 / 4294967296) / 4294967296 : Nat) : Int) := by rw [wu64]; omega
  rw [e3]
  have e4 : IntKind.u64.wrap (((p11 + (p10 + p00 / 4294967296) / 4294967296 : Nat) : Int) + (((p10 + p00 / 4294967296) % 4294967296 + p01 : Nat) : Int) / 4294967296) = ((p11 + (p10 + p00 / 4294967296) / 4294967296 + ((p10 + p00 / 4294967296) % 4294967296 + p01) / 4294967296 : Nat) : Int) := by rw [wu64]; omega
  rw [e4]
end Go.Proofs.Ytpcdcanmbokpfaa.PRat
