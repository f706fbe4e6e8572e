-- Words and walks, cut to what this law uses (wip/pack.py).
import Derived.Test.YtijhnmbegceonaaDoorValX10
import Derived.Test.YtijhnmbegceonaaDoorValX11
import Derived.Test.YtijhnmbegceonaaDoorValX6
import Derived.Test.YtijhnmbegceonaaDoorValX1
import Derived.Laws.BitsLemmas
import Derived.Test.YtijhnmbegceonaaDoorValX8
namespace Go.Proofs.YtijhnmbegceonaaDoor.PRat
open Go Go.RowKit Go.Proofs.YtijhnmbegceonaaDoorW.PrintWords Go.Proofs.YtijhnmbegceonaaDoorW.PrintLast Go.Proofs.YtijhnmbegceonaaDoorW.PrintMore
open BallQ (In64 Right q out fits put)
theorem zcj (b : Nat) : ∀ a : Nat, Ev (fun k => zaG.f k (a : Int) (b : Int)) ((a.gcd b : Nat) : Int) := by
  unfold zaG.f
  induction b using Nat.strongRecOn with
  | _ b ih =>
    intro a
    refine Ev.step (fun k => by rw [zaG.l0]) ?_
    by_cases h : b = 0
    · subst h
      refine zaJ rfl (zbA fun _ => ?_)
      simp
    · refine zaV (by omega) ?_
      have e : Int.tmod (a : Int) (b : Int) = ((a % b : Nat) : Int) := by rw [Int.tmod_eq_emod_of_nonneg (by omega)]; omega
      rw [e]
      refine zb2 (ih (a % b) (Nat.mod_lt _ (by omega)) b) ?_
      rw [Nat.gcd_comm b, ← Nat.gcd_rec, Nat.gcd_comm]
theorem size_eq (a : Int) (h : In64 a) : zaH.f a = some ((a.natAbs : Nat) : Int) := by
  obtain ⟨h0, h1⟩ := h
  unfold zaH.f
  by_cases hn : a < 0
  · rw [if_pos hn, wu64, wu64]; congr 1; omega
  · rw [if_neg hn, wu64]; congr 1; omega
theorem zcl (n d : Int) (hn : In64 n) (hd : In64 d) : Ev (fun k => zaZ.f k n d) (decide (BallQ.Right n d)) := by
  unfold zaZ.f
  by_cases h0 : d > 0
  · refine zaJ h0 ?_
    by_cases h1 : n = -9223372036854775808
    · refine zaJ h1 (zbA fun _ => ?_)
      have : ¬ BallQ.Right n d := fun h => h.2.1 h1
      rw [decide_eq_false this]
    · refine zaV h1 (zbC (size_eq n hn) (zbC (size_eq d hd) (Ev.bind (zcj _ _) (zbA fun _ => ?_))))
      congr 1
      by_cases hg : n.natAbs.gcd d.natAbs = 1
      · rw [decide_eq_true (show BallQ.Right n d from ⟨h0, h1, hg⟩), hg]; rfl
      · rw [decide_eq_false (show ¬ BallQ.Right n d from fun h => hg h.2.2)]
        simp only [beq_eq_false_iff_ne, ne_eq]
        omega
  · refine zaV h0 (zbA fun _ => ?_)
    have : ¬ BallQ.Right n d := fun h => h0 h.1
    rw [decide_eq_false this]
theorem wraps_u64 (n : Int) (h₀ : 0 ≤ n) (h₁ : n < 2 ^ 64) : IntKind.u64.wrap n = n := by rw [wu64]; omega
theorem zgk (x : Nat) (h : x < 18446744073709551616) : Go.bits .and .u64 (x : Int) 4294967295 = ((x % 4294967296 : Nat) : Int) := by
  have := bits_mask .u64 64 (by decide) wraps_u64 32 (by decide) (x : Int) (by omega) (by omega)
  have e : ((2 : Int) ^ 32 - 1) = 4294967295 := by decide
  rw [e] at this
  rw [this]; omega
theorem zfX (x1 x0 y1 y0 B : Nat) (hB : 0 < B) : (x1 * B + x0) * (y1 * B + y0) / (B * B) = x1 * y1 + (x1 * y0 + x0 * y0 / B) / B + ((x1 * y0 + x0 * y0 / B) % B + x0 * y1) / B := by
  have h1 := Nat.div_add_mod (x0 * y0) B
  have h2 := Nat.div_add_mod (x1 * y0 + x0 * y0 / B) B
  generalize hw : x0 * y0 / B = w at *
  generalize hr : x0 * y0 % B = r at *
  generalize hu : (x1 * y0 + w) / B = u at *
  generalize hv : (x1 * y0 + w) % B = v at *
  have hrB : r < B := by rw [← hr]; exact Nat.mod_lt _ hB
  have h3 := Nat.div_add_mod (v + x0 * y1) B
  generalize hs : (v + x0 * y1) / B = s at *
  have htB : (v + x0 * y1) % B < B := Nat.mod_lt _ hB
  generalize (v + x0 * y1) % B = t at *
  have e : (x1 * B + x0) * (y1 * B + y0) = (x1 * y1 + u + s) * (B * B) + (t * B + r) := by
    have a1 : (x1 * B + x0) * (y1 * B + y0) = x1 * y1 * (B * B) + (x1 * y0) * B + (x0 * y1) * B + x0 * y0 := by grind
    have a2 : (x1 * y0 + w) * B = (B * u + v) * B := by rw [h2]
    have a3 : (v + x0 * y1) * B = (B * s + t) * B := by rw [h3]
    rw [a1, ← h1]
    have b1 : (x1 * y0) * B + w * B = B * u * B + v * B := by rw [← Nat.add_mul, ← Nat.add_mul]; exact a2
    have b2 : v * B + x0 * y1 * B = B * s * B + t * B := by rw [← Nat.add_mul, ← Nat.add_mul]; exact a3
    have c1 : (x1 * y1 + u + s) * (B * B) = x1 * y1 * (B * B) + B * u * B + B * s * B := by grind
    have c2 : B * w = w * B := Nat.mul_comm _ _
    rw [c1, c2]
    omega
  rw [e]
  have hlt : t * B + r < B * B := by
    have : (t + 1) * B ≤ B * B := Nat.mul_le_mul_right _ htB
    rw [Nat.add_mul] at this; omega
  rw [Nat.mul_comm, Nat.mul_add_div (Nat.mul_pos hB hB), Nat.div_eq_of_lt hlt, Nat.add_zero]
theorem mul_lt {a b A B : Nat} (ha : a < A) (hb : b < B) : a * b ≤ (A - 1) * (B - 1) := Nat.mul_le_mul (by omega) (by omega)
theorem zd7 (a b : Nat) (ha : a < 18446744073709551616) (hb : b < 18446744073709551616) : bits_Mul64.f (a : Int) (b : Int) = some (((a * b / 18446744073709551616 : Nat) : Int), ((a * b % 18446744073709551616 : Nat) : Int)) := by
  have hs := zfX (a / 4294967296) (a % 4294967296) (b / 4294967296) (b % 4294967296) 4294967296 (by omega)
  rw [Nat.div_add_mod', Nat.div_add_mod'] at hs
  have ea : (a : Int) / 4294967296 = ((a / 4294967296 : Nat) : Int) := by omega
  have eb : (b : Int) / 4294967296 = ((b / 4294967296 : Nat) : Int) := by omega
  unfold bits_Mul64.f
  rw [zgk a ha, zgk b hb, ea, eb]
  have a1 : a / 4294967296 < 4294967296 := by omega
  have a0 : a % 4294967296 < 4294967296 := by omega
  have b1 : b / 4294967296 < 4294967296 := by omega
  have b0 : b % 4294967296 < 4294967296 := by omega
  have elo : IntKind.u64.wrap ((a : Int) * (b : Int)) = ((a * b % 18446744073709551616 : Nat) : Int) := by rw [wu64]; omega
  rw [elo, hs]
  generalize a / 4294967296 = x1 at *
  generalize a % 4294967296 = x0 at *
  generalize b / 4294967296 = y1 at *
  generalize b % 4294967296 = y0 at *
  have m1 := mul_lt a1 b1
  have m2 := mul_lt a1 b0
  have m3 := mul_lt a0 b0
  have m4 := mul_lt a0 b1
  have w1 : IntKind.u64.wrap ((x0 : Int) * (y0 : Int)) = ((x0 * y0 : Nat) : Int) := by rw [wu64, ← Int.natCast_mul]; omega
  have w2 : IntKind.u64.wrap ((x1 : Int) * (y0 : Int)) = ((x1 * y0 : Nat) : Int) := by rw [wu64, ← Int.natCast_mul]; omega
  have w3 : IntKind.u64.wrap ((x0 : Int) * (y1 : Int)) = ((x0 * y1 : Nat) : Int) := by rw [wu64, ← Int.natCast_mul]; omega
  have w4 : IntKind.u64.wrap ((x1 : Int) * (y1 : Int)) = ((x1 * y1 : Nat) : Int) := by rw [wu64, ← Int.natCast_mul]; omega
  rw [w1, w2, w3, w4]
  generalize x0 * y0 = p00 at *
  generalize x1 * y0 = p10 at *
  generalize x0 * y1 = p01 at *
  generalize x1 * y1 = p11 at *
  have e1 : IntKind.u64.wrap ((p10 : Int) + (p00 : Int) / 4294967296) = ((p10 + p00 / 4294967296 : Nat) : Int) := by rw [wu64]; omega
  have et : p10 + p00 / 4294967296 < 18446744073709551616 := by omega
  rw [e1, zgk _ et]
  have e2 : IntKind.u64.wrap (((p10 + p00 / 4294967296) % 4294967296 : Nat) + (p01 : Int)) = (((p10 + p00 / 4294967296) % 4294967296 + p01 : Nat) : Int) := by rw [wu64]; omega
  rw [e2]
  have e3 : IntKind.u64.wrap ((p11 : Int) + ((p10 + p00 / 4294967296 : Nat) : Int) / 4294967296) = ((p11 + (p10 + p00 / 4294967296) / 4294967296 : Nat) : Int) := by rw [wu64]; omega
  rw [e3]
  have e4 : IntKind.u64.wrap (((p11 + (p10 + p00 / 4294967296) / 4294967296 : Nat) : Int) + (((p10 + p00 / 4294967296) % 4294967296 + p01 : Nat) : Int) / 4294967296) = ((p11 + (p10 + p00 / 4294967296) / 4294967296 + ((p10 + p00 / 4294967296) % 4294967296 + p01) / 4294967296 : Nat) : Int) := by rw [wu64]; omega
  rw [e4]
theorem zfg (x y c : Nat) (hc : c ≤ 1) : bits_Add64.f (x : Int) (y : Int) (c : Int) = some ((((x + y + c) % 18446744073709551616 : Nat) : Int), (((x + y + c) / 18446744073709551616 : Nat) : Int)) := by
  unfold bits_Add64.f
  rw [if_pos (by omega)]
  congr 2
theorem ze4 (x y b : Nat) (hb : b ≤ 1) (hy : y < 18446744073709551616) : bits_Sub64.f (x : Int) (y : Int) (b : Int) = some ((((x + 18446744073709551616 - y - b) % 18446744073709551616 : Nat) : Int), ((if x < y + b then 1 else 0 : Nat) : Int)) := by
  unfold bits_Sub64.f
  rw [if_pos (by omega)]
  congr 2
  · omega
  · by_cases h : x < y + b
    · rw [if_pos h, if_pos (by omega)]; rfl
    · rw [if_neg h, if_neg (by omega)]; rfl
theorem zdM (a b : Int) : a * b = if (decide (a < 0) != decide (b < 0)) = true then -((a.natAbs * b.natAbs : Nat) : Int) else ((a.natAbs * b.natAbs : Nat) : Int) := by
  rcases Int.natAbs_eq a with ea | ea <;> rcases Int.natAbs_eq b with eb | eb
  all_goals
    generalize a.natAbs = m at *
    generalize b.natAbs = n at *
    subst ea eb
    simp only [Int.natCast_mul]
  · have h1 : ¬ ((m : Int) < 0) := by omega
    have h2 : ¬ ((n : Int) < 0) := by omega
    simp [h1, h2]
  · have h1 : ¬ ((m : Int) < 0) := by omega
    by_cases h2 : -(n : Int) < 0
    · simp [h1]; rw [if_pos (by omega), Int.mul_neg]
    · have : n = 0 := by omega
      subst this; simp
  · have h1 : ¬ ((n : Int) < 0) := by omega
    by_cases h2 : -(m : Int) < 0
    · simp [h1]; rw [if_pos (by omega), Int.neg_mul]
    · have : m = 0 := by omega
      subst this; simp
  · by_cases h1 : -(m : Int) < 0 <;> by_cases h2 : -(n : Int) < 0
    · simp; rw [if_pos (by constructor <;> intro <;> omega), Int.neg_mul_neg]
    · have : n = 0 := by omega
      subst this; simp
    · have : m = 0 := by omega
      subst this; simp
    · have : m = 0 := by omega
      subst this; simp
theorem zcp {a : Int} (h : In64 a) : a.natAbs ≤ 9223372036854775808 := by have := h.1; have := h.2; omega
theorem zfd (P Q : Nat) (hQP : Q ≤ P) (hP : P < 340282366920938463463374607431768211456) (m : Bool) :
    Ev (fun k => za8.j1 k ((P / 18446744073709551616 : Nat) : Int) ((P % 18446744073709551616 : Nat) : Int) ((Q / 18446744073709551616 : Nat) : Int) ((Q % 18446744073709551616 : Nat) : Int) m) ((((P - Q) / 18446744073709551616 : Nat) : Int), (((P - Q) % 18446744073709551616 : Nat) : Int), m) := by
  refine Ev.step (fun k => by rw [za8.j1]) ?_
  refine zbC (ze4 (P % 18446744073709551616) (Q % 18446744073709551616) 0 (by omega) (by omega)) (zbC (ze4 (P / 18446744073709551616) (Q / 18446744073709551616) (if P % 18446744073709551616 < Q % 18446744073709551616 + 0 then 1 else 0) (by split <;> omega) (by omega)) (zbA fun _ => ?_))
  have e1 : (P / 18446744073709551616 + 18446744073709551616 - Q / 18446744073709551616 - (if P % 18446744073709551616 < Q % 18446744073709551616 + 0 then 1 else 0)) % 18446744073709551616 = (P - Q) / 18446744073709551616 := by split <;> omega
  have e2 : (P % 18446744073709551616 + 18446744073709551616 - Q % 18446744073709551616 - 0) % 18446744073709551616 = (P - Q) % 18446744073709551616 := by omega
  rw [e1, e2]
theorem zeS (P Q : Nat) (hP : P < 340282366920938463463374607431768211456) (hQ : Q < 340282366920938463463374607431768211456) (m n : Bool) (c : Bool) (hc : c = decide (P < Q)) :
    Ev (fun k => za8.j0 k ((P / 18446744073709551616 : Nat) : Int) ((P % 18446744073709551616 : Nat) : Int) ((Q / 18446744073709551616 : Nat) : Int) ((Q % 18446744073709551616 : Nat) : Int) m n c)
      ((((if P < Q then Q - P else P - Q) / 18446744073709551616 : Nat) : Int), (((if P < Q then Q - P else P - Q) % 18446744073709551616 : Nat) : Int), if P < Q then n else m) := by
  subst hc
  refine Ev.step (fun k => by rw [za8.j0]) ?_
  by_cases h : P < Q
  · refine zaJ (decide_eq_true h) ?_
    rw [if_pos h, if_pos h]
    exact zfd Q P (by omega) hQ n
  · refine zaV (by simpa using h) ?_
    rw [if_neg h, if_neg h]
    exact zfd P Q (by omega) hP m
theorem sum_ev (a b c d : Int) (ha : In64 a) (hb : In64 b) (hc : In64 c) (hd : In64 d) (v : Int) (hv : v = a * b + c * d) :
    ∃ m : Bool, Ev (fun k => za8.f k a b c d) (((v.natAbs / 18446744073709551616 : Nat) : Int), ((v.natAbs % 18446744073709551616 : Nat) : Int), m) ∧ (v ≠ 0 → m = decide (v < 0)) := by
  have ka := zcp ha
  have kb := zcp hb
  have kc := zcp hc
  have kd := zcp hd
  have hP : a.natAbs * b.natAbs ≤ 9223372036854775808 * 9223372036854775808 := Nat.mul_le_mul ka kb
  have hQ : c.natAbs * d.natAbs ≤ 9223372036854775808 * 9223372036854775808 := Nat.mul_le_mul kc kd
  have m1 := zd7 a.natAbs b.natAbs (by omega) (by omega)
  have m2 := zd7 c.natAbs d.natAbs (by omega) (by omega)
  have s1 := zdM a b
  have s2 := zdM c d
  rw [s1, s2] at hv
  unfold za8.f
  rw [size_eq a ha, size_eq b hb, size_eq c hc, size_eq d hd]
  simp only [Option.bind_some, m1, m2]
  generalize (decide (a < 0) != decide (b < 0)) = x at *
  generalize (decide (c < 0) != decide (d < 0)) = y at *
  generalize a.natAbs * b.natAbs = P at *
  generalize c.natAbs * d.natAbs = Q at *
  clear m1 m2 s1 s2 ha hb hc hd ka kb kc kd
  by_cases hxy : x = y
  · subst hxy
    refine ⟨x, zaJ (by simp) (zbC (zfg (P % 18446744073709551616) (Q % 18446744073709551616) 0 (by omega)) (zbC (zfg (P / 18446744073709551616) (Q / 18446744073709551616) ((P % 18446744073709551616 + Q % 18446744073709551616 + 0) / 18446744073709551616) (by omega)) (zbA fun _ => ?_))), ?_⟩
    · have hvn : v.natAbs = P + Q := by subst hv; cases x <;> simp <;> omega
      rw [hvn]
      have e1 : (P / 18446744073709551616 + Q / 18446744073709551616 + (P % 18446744073709551616 + Q % 18446744073709551616 + 0) / 18446744073709551616) % 18446744073709551616 = (P + Q) / 18446744073709551616 := by omega
      have e2 : (P % 18446744073709551616 + Q % 18446744073709551616 + 0) % 18446744073709551616 = (P + Q) % 18446744073709551616 := by omega
      rw [e1, e2]
    · intro h0
      subst hv
      cases x
      · simp at h0 ⊢; omega
      · simp at h0 ⊢; omega
  · have hyx : y = !x := by cases x <;> cases y <;> simp_all
    have hvn : v.natAbs = if P < Q then Q - P else P - Q := by
      subst hv hyx; cases x <;> simp <;> split <;> omega
    refine ⟨if P < Q then y else x, ?_, ?_⟩
    · refine zaV (by simpa using hxy) ?_
      rw [hvn]
      by_cases h1 : ((P / 18446744073709551616 : Nat) : Int) < ((Q / 18446744073709551616 : Nat) : Int)
      · exact zaJ h1 (zeS P Q (by omega) (by omega) x y true (by rw [decide_eq_true]; omega))
      · refine zaV h1 ?_
        by_cases h2 : ((P / 18446744073709551616 : Nat) : Int) = ((Q / 18446744073709551616 : Nat) : Int)
        · refine zaJ h2 (zeS P Q (by omega) (by omega) x y _ ?_)
          rw [decide_eq_decide]; omega
        · exact zaV h2 (zeS P Q (by omega) (by omega) x y false (by rw [decide_eq_false]; omega))
    · intro h0
      subst hv hyx
      by_cases h : P < Q
      · rw [if_pos h]; cases x <;> simp at h0 ⊢ <;> omega
      · rw [if_neg h]; cases x <;> simp at h0 ⊢ <;> omega
theorem zhd : ∀ i : Fin 256, 0 ≤ bt (⟨#[0, 1, 2, 2, 3, 3, 3, 3, 4, 4, 4, 4, 4, 4, 4, 4, 5, 5, 5, 5, 5, 5, 5, 5, 5, 5, 5, 5, 5, 5, 5, 5, 6, 6, 6, 6, 6, 6, 6, 6, 6, 6, 6, 6, 6, 6, 6, 6, 6, 6, 6, 6, 6, 6, 6, 6, 6, 6, 6, 6, 6, 6, 6, 6, 7, 7, 7, 7, 7, 7, 7, 7, 7, 7, 7, 7, 7, 7, 7, 7, 7, 7, 7, 7, 7, 7, 7, 7, 7, 7, 7, 7, 7, 7, 7, 7, 7, 7, 7, 7, 7, 7, 7, 7, 7, 7, 7, 7, 7, 7, 7, 7, 7, 7, 7, 7, 7, 7, 7, 7, 7, 7, 7, 7, 7, 7, 7, 7, 8, 8, 8, 8, 8, 8, 8, 8, 8, 8, 8, 8, 8, 8, 8, 8, 8, 8, 8, 8, 8, 8, 8, 8, 8, 8, 8, 8, 8, 8, 8, 8, 8, 8, 8, 8, 8, 8, 8, 8, 8, 8, 8, 8, 8, 8, 8, 8, 8, 8, 8, 8, 8, 8, 8, 8, 8, 8, 8, 8, 8, 8, 8, 8, 8, 8, 8, 8, 8, 8, 8, 8, 8, 8, 8, 8, 8, 8, 8, 8, 8, 8, 8, 8, 8, 8, 8, 8, 8, 8, 8, 8, 8, 8, 8, 8, 8, 8, 8, 8, 8, 8, 8, 8, 8, 8, 8, 8, 8, 8, 8, 8, 8, 8, 8, 8, 8, 8, 8, 8, 8, 8, 8, 8, 8, 8, 8, 8]⟩ : ByteArray) (i.val : Int) ∧ bt (⟨#[0, 1, 2, 2, 3, 3, 3, 3, 4, 4, 4, 4, 4, 4, 4, 4, 5, 5, 5, 5, 5, 5, 5, 5, 5, 5, 5, 5, 5, 5, 5, 5, 6, 6, 6, 6, 6, 6, 6, 6, 6, 6, 6, 6, 6, 6, 6, 6, 6, 6, 6, 6, 6, 6, 6, 6, 6, 6, 6, 6, 6, 6, 6, 6, 7, 7, 7, 7, 7, 7, 7, 7, 7, 7, 7, 7, 7, 7, 7, 7, 7, 7, 7, 7, 7, 7, 7, 7, 7, 7, 7, 7, 7, 7, 7, 7, 7, 7, 7, 7, 7, 7, 7, 7, 7, 7, 7, 7, 7, 7, 7, 7, 7, 7, 7, 7, 7, 7, 7, 7, 7, 7, 7, 7, 7, 7, 7, 7, 8, 8, 8, 8, 8, 8, 8, 8, 8, 8, 8, 8, 8, 8, 8, 8, 8, 8, 8, 8, 8, 8, 8, 8, 8, 8, 8, 8, 8, 8, 8, 8, 8, 8, 8, 8, 8, 8, 8, 8, 8, 8, 8, 8, 8, 8, 8, 8, 8, 8, 8, 8, 8, 8, 8, 8, 8, 8, 8, 8, 8, 8, 8, 8, 8, 8, 8, 8, 8, 8, 8, 8, 8, 8, 8, 8, 8, 8, 8, 8, 8, 8, 8, 8, 8, 8, 8, 8, 8, 8, 8, 8, 8, 8, 8, 8, 8, 8, 8, 8, 8, 8, 8, 8, 8, 8, 8, 8, 8, 8, 8, 8, 8, 8, 8, 8, 8, 8, 8, 8, 8, 8, 8, 8, 8, 8, 8, 8]⟩ : ByteArray) (i.val : Int) ≤ 8 ∧ (i.val : Nat) < 2 ^ (bt (⟨#[0, 1, 2, 2, 3, 3, 3, 3, 4, 4, 4, 4, 4, 4, 4, 4, 5, 5, 5, 5, 5, 5, 5, 5, 5, 5, 5, 5, 5, 5, 5, 5, 6, 6, 6, 6, 6, 6, 6, 6, 6, 6, 6, 6, 6, 6, 6, 6, 6, 6, 6, 6, 6, 6, 6, 6, 6, 6, 6, 6, 6, 6, 6, 6, 7, 7, 7, 7, 7, 7, 7, 7, 7, 7, 7, 7, 7, 7, 7, 7, 7, 7, 7, 7, 7, 7, 7, 7, 7, 7, 7, 7, 7, 7, 7, 7, 7, 7, 7, 7, 7, 7, 7, 7, 7, 7, 7, 7, 7, 7, 7, 7, 7, 7, 7, 7, 7, 7, 7, 7, 7, 7, 7, 7, 7, 7, 7, 7, 8, 8, 8, 8, 8, 8, 8, 8, 8, 8, 8, 8, 8, 8, 8, 8, 8, 8, 8, 8, 8, 8, 8, 8, 8, 8, 8, 8, 8, 8, 8, 8, 8, 8, 8, 8, 8, 8, 8, 8, 8, 8, 8, 8, 8, 8, 8, 8, 8, 8, 8, 8, 8, 8, 8, 8, 8, 8, 8, 8, 8, 8, 8, 8, 8, 8, 8, 8, 8, 8, 8, 8, 8, 8, 8, 8, 8, 8, 8, 8, 8, 8, 8, 8, 8, 8, 8, 8, 8, 8, 8, 8, 8, 8, 8, 8, 8, 8, 8, 8, 8, 8, 8, 8, 8, 8, 8, 8, 8, 8, 8, 8, 8, 8, 8, 8, 8, 8, 8, 8, 8, 8, 8, 8, 8, 8, 8, 8]⟩ : ByteArray) (i.val : Int)).toNat ∧ (i.val ≠ 0 → 2 ^ (bt (⟨#[0, 1, 2, 2, 3, 3, 3, 3, 4, 4, 4, 4, 4, 4, 4, 4, 5, 5, 5, 5, 5, 5, 5, 5, 5, 5, 5, 5, 5, 5, 5, 5, 6, 6, 6, 6, 6, 6, 6, 6, 6, 6, 6, 6, 6, 6, 6, 6, 6, 6, 6, 6, 6, 6, 6, 6, 6, 6, 6, 6, 6, 6, 6, 6, 7, 7, 7, 7, 7, 7, 7, 7, 7, 7, 7, 7, 7, 7, 7, 7, 7, 7, 7, 7, 7, 7, 7, 7, 7, 7, 7, 7, 7, 7, 7, 7, 7, 7, 7, 7, 7, 7, 7, 7, 7, 7, 7, 7, 7, 7, 7, 7, 7, 7, 7, 7, 7, 7, 7, 7, 7, 7, 7, 7, 7, 7, 7, 7, 8, 8, 8, 8, 8, 8, 8, 8, 8, 8, 8, 8, 8, 8, 8, 8, 8, 8, 8, 8, 8, 8, 8, 8, 8, 8, 8, 8, 8, 8, 8, 8, 8, 8, 8, 8, 8, 8, 8, 8, 8, 8, 8, 8, 8, 8, 8, 8, 8, 8, 8, 8, 8, 8, 8, 8, 8, 8, 8, 8, 8, 8, 8, 8, 8, 8, 8, 8, 8, 8, 8, 8, 8, 8, 8, 8, 8, 8, 8, 8, 8, 8, 8, 8, 8, 8, 8, 8, 8, 8, 8, 8, 8, 8, 8, 8, 8, 8, 8, 8, 8, 8, 8, 8, 8, 8, 8, 8, 8, 8, 8, 8, 8, 8, 8, 8, 8, 8, 8, 8, 8, 8, 8, 8, 8, 8, 8, 8]⟩ : ByteArray) (i.val : Int)).toNat ≤ 2 * i.val) := by decide +kernel
theorem tab (i : Nat) (h : i < 256) : ∃ v : Nat, bt (⟨#[0, 1, 2, 2, 3, 3, 3, 3, 4, 4, 4, 4, 4, 4, 4, 4, 5, 5, 5, 5, 5, 5, 5, 5, 5, 5, 5, 5, 5, 5, 5, 5, 6, 6, 6, 6, 6, 6, 6, 6, 6, 6, 6, 6, 6, 6, 6, 6, 6, 6, 6, 6, 6, 6, 6, 6, 6, 6, 6, 6, 6, 6, 6, 6, 7, 7, 7, 7, 7, 7, 7, 7, 7, 7, 7, 7, 7, 7, 7, 7, 7, 7, 7, 7, 7, 7, 7, 7, 7, 7, 7, 7, 7, 7, 7, 7, 7, 7, 7, 7, 7, 7, 7, 7, 7, 7, 7, 7, 7, 7, 7, 7, 7, 7, 7, 7, 7, 7, 7, 7, 7, 7, 7, 7, 7, 7, 7, 7, 8, 8, 8, 8, 8, 8, 8, 8, 8, 8, 8, 8, 8, 8, 8, 8, 8, 8, 8, 8, 8, 8, 8, 8, 8, 8, 8, 8, 8, 8, 8, 8, 8, 8, 8, 8, 8, 8, 8, 8, 8, 8, 8, 8, 8, 8, 8, 8, 8, 8, 8, 8, 8, 8, 8, 8, 8, 8, 8, 8, 8, 8, 8, 8, 8, 8, 8, 8, 8, 8, 8, 8, 8, 8, 8, 8, 8, 8, 8, 8, 8, 8, 8, 8, 8, 8, 8, 8, 8, 8, 8, 8, 8, 8, 8, 8, 8, 8, 8, 8, 8, 8, 8, 8, 8, 8, 8, 8, 8, 8, 8, 8, 8, 8, 8, 8, 8, 8, 8, 8, 8, 8, 8, 8, 8, 8, 8, 8]⟩ : ByteArray) (i : Int) = (v : Int) ∧ v ≤ 8 ∧ i < 2 ^ v ∧ (i ≠ 0 → 2 ^ v ≤ 2 * i) := by
  obtain ⟨h0, h1, h2, h3⟩ := zhd ⟨i, h⟩
  have k0 : 0 ≤ bt (⟨#[0, 1, 2, 2, 3, 3, 3, 3, 4, 4, 4, 4, 4, 4, 4, 4, 5, 5, 5, 5, 5, 5, 5, 5, 5, 5, 5, 5, 5, 5, 5, 5, 6, 6, 6, 6, 6, 6, 6, 6, 6, 6, 6, 6, 6, 6, 6, 6, 6, 6, 6, 6, 6, 6, 6, 6, 6, 6, 6, 6, 6, 6, 6, 6, 7, 7, 7, 7, 7, 7, 7, 7, 7, 7, 7, 7, 7, 7, 7, 7, 7, 7, 7, 7, 7, 7, 7, 7, 7, 7, 7, 7, 7, 7, 7, 7, 7, 7, 7, 7, 7, 7, 7, 7, 7, 7, 7, 7, 7, 7, 7, 7, 7, 7, 7, 7, 7, 7, 7, 7, 7, 7, 7, 7, 7, 7, 7, 7, 8, 8, 8, 8, 8, 8, 8, 8, 8, 8, 8, 8, 8, 8, 8, 8, 8, 8, 8, 8, 8, 8, 8, 8, 8, 8, 8, 8, 8, 8, 8, 8, 8, 8, 8, 8, 8, 8, 8, 8, 8, 8, 8, 8, 8, 8, 8, 8, 8, 8, 8, 8, 8, 8, 8, 8, 8, 8, 8, 8, 8, 8, 8, 8, 8, 8, 8, 8, 8, 8, 8, 8, 8, 8, 8, 8, 8, 8, 8, 8, 8, 8, 8, 8, 8, 8, 8, 8, 8, 8, 8, 8, 8, 8, 8, 8, 8, 8, 8, 8, 8, 8, 8, 8, 8, 8, 8, 8, 8, 8, 8, 8, 8, 8, 8, 8, 8, 8, 8, 8, 8, 8, 8, 8, 8, 8, 8, 8]⟩ : ByteArray) (i : Int) := h0
  have k1 : bt (⟨#[0, 1, 2, 2, 3, 3, 3, 3, 4, 4, 4, 4, 4, 4, 4, 4, 5, 5, 5, 5, 5, 5, 5, 5, 5, 5, 5, 5, 5, 5, 5, 5, 6, 6, 6, 6, 6, 6, 6, 6, 6, 6, 6, 6, 6, 6, 6, 6, 6, 6, 6, 6, 6, 6, 6, 6, 6, 6, 6, 6, 6, 6, 6, 6, 7, 7, 7, 7, 7, 7, 7, 7, 7, 7, 7, 7, 7, 7, 7, 7, 7, 7, 7, 7, 7, 7, 7, 7, 7, 7, 7, 7, 7, 7, 7, 7, 7, 7, 7, 7, 7, 7, 7, 7, 7, 7, 7, 7, 7, 7, 7, 7, 7, 7, 7, 7, 7, 7, 7, 7, 7, 7, 7, 7, 7, 7, 7, 7, 8, 8, 8, 8, 8, 8, 8, 8, 8, 8, 8, 8, 8, 8, 8, 8, 8, 8, 8, 8, 8, 8, 8, 8, 8, 8, 8, 8, 8, 8, 8, 8, 8, 8, 8, 8, 8, 8, 8, 8, 8, 8, 8, 8, 8, 8, 8, 8, 8, 8, 8, 8, 8, 8, 8, 8, 8, 8, 8, 8, 8, 8, 8, 8, 8, 8, 8, 8, 8, 8, 8, 8, 8, 8, 8, 8, 8, 8, 8, 8, 8, 8, 8, 8, 8, 8, 8, 8, 8, 8, 8, 8, 8, 8, 8, 8, 8, 8, 8, 8, 8, 8, 8, 8, 8, 8, 8, 8, 8, 8, 8, 8, 8, 8, 8, 8, 8, 8, 8, 8, 8, 8, 8, 8, 8, 8, 8, 8]⟩ : ByteArray) (i : Int) ≤ 8 := h1
  exact ⟨(bt (⟨#[0, 1, 2, 2, 3, 3, 3, 3, 4, 4, 4, 4, 4, 4, 4, 4, 5, 5, 5, 5, 5, 5, 5, 5, 5, 5, 5, 5, 5, 5, 5, 5, 6, 6, 6, 6, 6, 6, 6, 6, 6, 6, 6, 6, 6, 6, 6, 6, 6, 6, 6, 6, 6, 6, 6, 6, 6, 6, 6, 6, 6, 6, 6, 6, 7, 7, 7, 7, 7, 7, 7, 7, 7, 7, 7, 7, 7, 7, 7, 7, 7, 7, 7, 7, 7, 7, 7, 7, 7, 7, 7, 7, 7, 7, 7, 7, 7, 7, 7, 7, 7, 7, 7, 7, 7, 7, 7, 7, 7, 7, 7, 7, 7, 7, 7, 7, 7, 7, 7, 7, 7, 7, 7, 7, 7, 7, 7, 7, 8, 8, 8, 8, 8, 8, 8, 8, 8, 8, 8, 8, 8, 8, 8, 8, 8, 8, 8, 8, 8, 8, 8, 8, 8, 8, 8, 8, 8, 8, 8, 8, 8, 8, 8, 8, 8, 8, 8, 8, 8, 8, 8, 8, 8, 8, 8, 8, 8, 8, 8, 8, 8, 8, 8, 8, 8, 8, 8, 8, 8, 8, 8, 8, 8, 8, 8, 8, 8, 8, 8, 8, 8, 8, 8, 8, 8, 8, 8, 8, 8, 8, 8, 8, 8, 8, 8, 8, 8, 8, 8, 8, 8, 8, 8, 8, 8, 8, 8, 8, 8, 8, 8, 8, 8, 8, 8, 8, 8, 8, 8, 8, 8, 8, 8, 8, 8, 8, 8, 8, 8, 8, 8, 8, 8, 8, 8, 8]⟩ : ByteArray) (i : Int)).toNat, (Int.toNat_of_nonneg k0).symm, Int.toNat_le.2 k1, h2, h3⟩
theorem w64n (a : Nat) (h : a < 1000000) : wrap64 (a : Int) = (a : Int) := by unfold wrap64; omega
theorem w64a (a b : Nat) (h : a + b < 1000000) : wrap64 ((a : Int) + (b : Int)) = ((a + b : Nat) : Int) := by unfold wrap64; omega
theorem zf3 (x c : Nat) (hx : x < 65536) (hc : c ≤ 48) : ∃ n : Nat, Ev (fun k => bits_Len64.j1 k (x : Int) (c : Int)) ((c + n : Nat) : Int) ∧ n ≤ 16 ∧ x < 2 ^ n ∧ (x ≠ 0 → 2 ^ n ≤ 2 * x) := by
  have e3 : (x : Int) / 256 = ((x / 256 : Nat) : Int) := by omega
  have s8 : wrap64 ((c : Int) + 8) = ((c + 8 : Nat) : Int) := by unfold wrap64; omega
  by_cases h2 : x ≥ 256
  · have f3 : ((x / 256 : Nat) : Int) % 256 = ((x / 256 : Nat) : Int) := by omega
    obtain ⟨v, hv, v8, vl, vg⟩ := tab (x / 256) (by omega)
    refine ⟨8 + v, Ev.step (fun k => by rw [bits_Len64.j1, e3, f3, s8, hv]) (zaJ (by omega) (zaJ (by omega) (zaJ (by omega) (zbA fun _ => ?_)))), by omega, ?_, ?_⟩
    · rw [w64n v (by omega), w64a _ _ (by omega), Nat.add_assoc]
    · rw [Nat.pow_add]; omega
    · intro _; have := vg (by omega); rw [Nat.pow_add]; omega
  · have f4 : (x : Int) % 256 = (x : Int) := by omega
    obtain ⟨v, hv, v8, vl, vg⟩ := tab x (by omega)
    refine ⟨v, Ev.step (fun k => by rw [bits_Len64.j1, f4, hv]) (zaV (by omega) (zaJ (by omega) (zaJ (by omega) (zbA fun _ => ?_)))), by omega, vl, vg⟩
    rw [w64n v (by omega), w64a _ _ (by omega)]
theorem zgZ (x c : Nat) (hx : x < 4294967296) (hc : c ≤ 32) : ∃ n : Nat, Ev (fun k => bits_Len64.j0 k (x : Int) (c : Int)) ((c + n : Nat) : Int) ∧ n ≤ 32 ∧ x < 2 ^ n ∧ (x ≠ 0 → 2 ^ n ≤ 2 * x) := by
  have e1 : (x : Int) / 65536 = ((x / 65536 : Nat) : Int) := by omega
  have s16 : wrap64 ((c : Int) + 16) = ((c + 16 : Nat) : Int) := by unfold wrap64; omega
  by_cases h1 : x ≥ 65536
  · obtain ⟨n, hn, n0, n1, n2⟩ := zf3 (x / 65536) (c + 16) (by omega) (by omega)
    refine ⟨16 + n, Ev.step (fun k => by rw [bits_Len64.j0, e1, s16]) (zaJ (by omega) ?_), by omega, ?_, ?_⟩
    · rw [← Nat.add_assoc]; exact hn
    · rw [Nat.pow_add]; omega
    · intro _; have := n2 (by omega); rw [Nat.pow_add]; omega
  · obtain ⟨n, hn, n0, n1, n2⟩ := zf3 x c (by omega) (by omega)
    exact ⟨n, Ev.step (fun k => by rw [bits_Len64.j0]) (zaV (by omega) hn), by omega, n1, n2⟩
theorem zgs (x : Nat) (h0 : 0 < x) (hx : x < 18446744073709551616) : ∃ s : Nat, Ev (fun k => bits_LeadingZeros64.f k (x : Int)) (s : Int) ∧ s ≤ 63 ∧ x * 2 ^ s < 18446744073709551616 ∧ 9223372036854775808 ≤ x * 2 ^ s := by
  have main : ∃ n : Nat, Ev (fun k => bits_Len64.f k (x : Int)) (n : Int) ∧ n ≤ 64 ∧ x < 2 ^ n ∧ 2 ^ n ≤ 2 * x := by
    unfold bits_Len64.f
    by_cases h : x ≥ 4294967296
    · have e : (x : Int) / 4294967296 = ((x / 4294967296 : Nat) : Int) := by omega
      obtain ⟨n, hn, n0, n1, n2⟩ := zgZ (x / 4294967296) 32 (by omega) (by omega)
      refine ⟨32 + n, zaJ (by omega) (by rw [e]; exact hn), by omega, ?_, ?_⟩
      · rw [Nat.pow_add]; omega
      · have := n2 (by omega); rw [Nat.pow_add]; omega
    · obtain ⟨n, hn, n0, n1, n2⟩ := zgZ x 0 (by omega) (by omega)
      refine ⟨n, zaV (by omega) ?_, by omega, n1, n2 (by omega)⟩
      simpa using hn
  obtain ⟨n, hn, n0, n1, n2⟩ := main
  have hn0 : n ≠ 0 := by intro e; subst e; simp at n1; omega
  refine ⟨64 - n, ?_, by omega, ?_, ?_⟩
  · unfold bits_LeadingZeros64.f
    refine Ev.bind hn (zbA fun _ => ?_)
    unfold wrap64
    congr 1; omega
  · have : 2 ^ n * 2 ^ (64 - n) = 18446744073709551616 := by rw [← Nat.pow_add, show n + (64 - n) = 64 by omega]
    have h := Nat.mul_lt_mul_of_pos_right n1 (Nat.pow_pos (n := 64 - n) (show 0 < 2 by omega))
    omega
  · have : 2 ^ n * 2 ^ (64 - n) = 18446744073709551616 := by rw [← Nat.pow_add, show n + (64 - n) = 64 by omega]
    have h := Nat.mul_le_mul_right (2 ^ (64 - n)) n2
    rw [Nat.mul_assoc] at h
    omega
structure Norm (y y1 y0 : Nat) : Prop where
  e : y = y1 * 4294967296 + y0
  lo : 9223372036854775808 ≤ y
  hi : y < 18446744073709551616
  d0 : y0 < 4294967296
theorem Norm.half {y y1 y0 : Nat} (n : Norm y y1 y0) : 2147483648 ≤ y1 ∧ y1 < 4294967296 := by
  have := n.e; have := n.lo; have := n.hi; have := n.d0; omega
theorem zfE {q y0 rh c : Nat} (hq : q < 4294967296) (hy0 : y0 < 4294967296) (hr : rh < 4294967296) (hc : c < 4294967296) :
    decide ((IntKind.u64.wrap ((q : Int) * (y0 : Int))) > (IntKind.u64.wrap ((IntKind.u64.wrap (4294967296 * (rh : Int))) + (c : Int)))) = decide (4294967296 * rh + c < q * y0) := by
  have m := mul_lt hq hy0
  have e1 : IntKind.u64.wrap ((q : Int) * (y0 : Int)) = ((q * y0 : Nat) : Int) := by rw [wu64, ← Int.natCast_mul]; omega
  have e2 : IntKind.u64.wrap (4294967296 * (rh : Int)) = ((4294967296 * rh : Nat) : Int) := by rw [wu64]; omega
  have e3 : IntKind.u64.wrap (((4294967296 * rh : Nat) : Int) + (c : Int)) = ((4294967296 * rh + c : Nat) : Int) := by rw [wu64]; omega
  rw [e1, e2, e3, decide_eq_decide]
  omega
theorem l0_ev {y s y1 y0 u c1 c0 : Nat} (n : Norm y y1 y0) (hu : u < y) (hc : c1 < 4294967296) {r : Int × Int}
    (H : Ev (fun k => zaB.j2 k (y : Int) (s : Int) (y1 : Int) (y0 : Int) (u : Int) (c1 : Int) (c0 : Int) (((u * 4294967296 + c1) / y : Nat) : Int)) r) (d : Nat) :
    ∀ (qh rh : Nat), BallQ.Digit u c1 y y1 y0 4294967296 qh rh → qh ≤ 4294967297 → rh < 4294967296 → 4294967296 ≤ rh + d →
    Ev (fun k => zaB.l0 k (y : Int) (s : Int) (y1 : Int) (y0 : Int) (u : Int) (c1 : Int) (c0 : Int) (qh : Int) (rh : Int)) r := by
  induction d with
  | zero => intro qh rh _ _ h1 h2; omega
  | succ d ih =>
    intro qh rh D hq hr hd
    have hh := n.half
    have hy0 : 0 < y := by have := n.lo; omega
    have hd0 := n.d0
    have up : (4294967296 ≤ qh ∨ 4294967296 * rh + c1 < qh * y0) → Ev (fun k => zaB.j1 k (y : Int) (s : Int) (y1 : Int) (y0 : Int) (u : Int) (c1 : Int) (c0 : Int) (qh : Int) (rh : Int) true) r := by
      intro h
      have hm := BallQ.zdQ D n.e hy0 hu hc h
      have D' := BallQ.zdP D hm
      have hq0 : 0 < qh := Nat.lt_of_le_of_lt (Nat.zero_le _) hm
      clear hm h
      have e1 : IntKind.u64.wrap ((rh : Int) + (y1 : Int)) = ((rh + y1 : Nat) : Int) := by rw [wu64]; omega
      have e2 : IntKind.u64.wrap ((qh : Int) - 1) = ((qh - 1 : Nat) : Int) := by rw [wu64]; omega
      refine Ev.step (fun k => by rw [zaB.j1, e1, e2]) (zaJ rfl ?_)
      by_cases hf : 4294967296 ≤ rh + y1
      · refine zaJ (by omega) ?_
        rw [BallQ.zeA D' n.e hy0 hd0 (by omega) hf]
        exact H
      · exact zaV (by omega) (ih (qh - 1) (rh + y1) D' (by omega) (by omega) (by omega))
    refine Ev.step (fun k => by rw [zaB.l0]) ?_
    by_cases hb : 4294967296 ≤ qh
    · exact zaJ (by omega) (up (.inl hb))
    · refine zaV (by omega) ?_
      rw [zfE (by omega) hd0 hr hc]
      by_cases ht : 4294967296 * rh + c1 < qh * y0
      · rw [decide_eq_true ht]; exact up (.inr ht)
      · rw [decide_eq_false ht]
        refine Ev.step (fun k => by rw [zaB.j1]) (zaV (by simp) ?_)
        rw [BallQ.zdy D n.e hy0 (by omega)]
        exact H
theorem zfN {u c y Q : Nat} (hQ : Q = (u * 4294967296 + c) / y) (hy : 0 < y) (hy1 : y < 18446744073709551616) :
    IntKind.u64.wrap ((IntKind.u64.wrap ((IntKind.u64.wrap ((u : Int) * 4294967296)) + (c : Int))) - (IntKind.u64.wrap ((Q : Int) * (y : Int)))) = (((u * 4294967296 + c) % y : Nat) : Int) := by
  have h := Nat.div_add_mod (u * 4294967296 + c) y
  have hlt := Nat.mod_lt (u * 4294967296 + c) hy
  rw [← hQ, Nat.mul_comm] at h
  rw [wu64, wu64, wu64, wu64, ← Int.natCast_mul Q y]
  generalize Q * y = p at *
  generalize (u * 4294967296 + c) % y = R at *
  clear hQ
  omega
theorem zb5 {R y1 : Nat} (hR : R < 18446744073709551616) :
    IntKind.u64.wrap (Int.tdiv (R : Int) (y1 : Int)) = ((R / y1 : Nat) : Int) ∧ IntKind.u64.wrap ((R : Int) - (IntKind.u64.wrap (((R / y1 : Nat) : Int) * (y1 : Int)))) = ((R % y1 : Nat) : Int) := by
  have h := Nat.div_add_mod R y1
  have hd : R / y1 ≤ R := Nat.div_le_self R y1
  constructor
  · rw [Int.tdiv_eq_ediv_of_nonneg (by omega), ← Int.natCast_ediv, wu64]
    generalize R / y1 = v at *
    omega
  · rw [wu64, wu64, ← Int.natCast_mul, Nat.mul_comm (R / y1) y1]
    generalize y1 * (R / y1) = p at *
    generalize R % y1 = m at *
    omega
theorem zgS (x s : Nat) (hs : s ≤ 64) : shr .u64 (x : Int) (s : Int) = ((x / 2 ^ s : Nat) : Int) := by
  unfold shr
  have : min (s : Int).toNat (IntKind.u64.bits) = s := by simp [IntKind.bits]; omega
  rw [this]; simp
theorem l1_ev {y s y1 y0 R c0 Q1 : Nat} (n : Norm y y1 y0) (hu : R < y) (hs : s ≤ 63) (hc : c0 < 4294967296) (hQ : Q1 < 4294967296) (d : Nat) :
    ∀ (qh rh : Nat), BallQ.Digit R c0 y y1 y0 4294967296 qh rh → qh ≤ 4294967297 → rh < 4294967296 → 4294967296 ≤ rh + d →
    Ev (fun k => zaB.l1 k (y : Int) (s : Int) (y1 : Int) (y0 : Int) (c0 : Int) (Q1 : Int) (rh : Int) (R : Int) (qh : Int)) (((Q1 * 4294967296 + (R * 4294967296 + c0) / y : Nat) : Int), (((R * 4294967296 + c0) % y / 2 ^ s : Nat) : Int)) := by
  have hy0 : 0 < y := by have := n.lo; omega
  have hlt : (R * 4294967296 + c0) / y < 4294967296 := by
    rw [Nat.div_lt_iff_lt_mul hy0]
    omega
  have fin : ∀ qh : Nat, qh = (R * 4294967296 + c0) / y → (some (IntKind.u64.wrap ((IntKind.u64.wrap ((Q1 : Int) * 4294967296)) + (qh : Int)), shr .u64 (IntKind.u64.wrap ((IntKind.u64.wrap ((IntKind.u64.wrap ((R : Int) * 4294967296)) + (c0 : Int))) - (IntKind.u64.wrap ((qh : Int) * (y : Int))))) (s : Int)) : Option (Int × Int)) =
      some (((Q1 * 4294967296 + (R * 4294967296 + c0) / y : Nat) : Int), (((R * 4294967296 + c0) % y / 2 ^ s : Nat) : Int)) := by
    intro qh hq
    rw [zfN hq hy0 n.hi, zgS _ _ (by omega), hq]
    generalize (R * 4294967296 + c0) / y = v at *
    congr 2
    rw [wu64, wu64]; omega
  induction d with
  | zero => intro qh rh _ _ h1 h2; omega
  | succ d ih =>
    intro qh rh D hq hr hd
    have hh := n.half
    have hd0 := n.d0
    have up : (4294967296 ≤ qh ∨ 4294967296 * rh + c0 < qh * y0) → Ev (fun k => zaB.j4 k (y : Int) (s : Int) (y1 : Int) (y0 : Int) (c0 : Int) (Q1 : Int) (rh : Int) (R : Int) (qh : Int) true) (((Q1 * 4294967296 + (R * 4294967296 + c0) / y : Nat) : Int), (((R * 4294967296 + c0) % y / 2 ^ s : Nat) : Int)) := by
      intro h
      have hm := BallQ.zdQ D n.e hy0 hu hc h
      have D' := BallQ.zdP D hm
      have hq0 : 0 < qh := Nat.lt_of_le_of_lt (Nat.zero_le _) hm
      clear hm h hlt
      have e1 : IntKind.u64.wrap ((rh : Int) + (y1 : Int)) = ((rh + y1 : Nat) : Int) := by rw [wu64]; omega
      have e2 : IntKind.u64.wrap ((qh : Int) - 1) = ((qh - 1 : Nat) : Int) := by rw [wu64]; omega
      refine Ev.step (fun k => by rw [zaB.j4, e1, e2]) (zaJ rfl ?_)
      by_cases hf : 4294967296 ≤ rh + y1
      · refine zaJ (by omega) (zaJ (by omega) (zbA fun _ => ?_))
        exact fin _ (BallQ.zeA D' n.e hy0 hd0 (by omega) hf)
      · exact zaV (by omega) (ih (qh - 1) (rh + y1) D' (by omega) (by omega) (by omega))
    refine Ev.step (fun k => by rw [zaB.l1]) ?_
    by_cases hb : 4294967296 ≤ qh
    · exact zaJ (by omega) (up (.inl hb))
    · refine zaV (by omega) ?_
      rw [zfE (by omega) hd0 hr hc]
      by_cases ht : 4294967296 * rh + c0 < qh * y0
      · rw [decide_eq_true ht]; exact up (.inr ht)
      · rw [decide_eq_false ht]
        refine Ev.step (fun k => by rw [zaB.j4]) (zaV (by simp) (zaJ (by omega) (zbA fun _ => ?_)))
        exact fin _ (BallQ.zdy D n.e hy0 (by omega))
theorem zfK (x s : Nat) (hs : s ≤ 64) : shl .u64 (x : Int) (s : Int) = ((x * 2 ^ s % 18446744073709551616 : Nat) : Int) := by
  unfold shl
  have : min (s : Int).toNat (IntKind.u64.bits) = s := by simp [IntKind.bits]; omega
  rw [this, wu64]; simp
theorem or_eq {x y s : Nat} (hx : x * 2 ^ s < 18446744073709551616) (hy : y < 2 ^ s) (hs : s ≤ 64) : Go.bits .or .u64 ((x * 2 ^ s : Nat) : Int) (y : Int) = ((x * 2 ^ s + y : Nat) : Int) := by
  have hp : 2 ^ s ≤ 18446744073709551616 := Nat.pow_le_pow_right (n := 2) (by decide) hs
  have e : ((2 : Int) ^ s) = ((2 ^ s : Nat) : Int) := by simp
  have h1 : ((x * 2 ^ s : Nat) : Int) % 2 ^ s = 0 := by rw [e, ← Int.natCast_emod, Nat.mul_mod_left]; rfl
  have h2 : (y : Int) < 2 ^ s := by rw [e]; exact Int.ofNat_lt.2 hy
  have h3 : ((x * 2 ^ s : Nat) : Int) < 2 ^ 64 := Int.ofNat_lt.2 hx
  have h4 : (y : Int) < 2 ^ 64 := Int.ofNat_lt.2 (Nat.lt_of_lt_of_le hy hp)
  have := bits_join .u64 64 (by decide) wraps_u64 s ((x * 2 ^ s : Nat) : Int) (y : Int) (Int.natCast_nonneg _) h1 h3 (Int.natCast_nonneg _) h2 h4
  rw [this]; simp
theorem zeI {hi lo y p r : Nat} (hpp : r * p = 18446744073709551616) (h : hi < y) (hl : lo < 18446744073709551616) (sN : y * p < 18446744073709551616) :
    hi * p < 18446744073709551616 ∧ lo / r < p ∧ hi * p + lo / r < y * p ∧ (hi * 18446744073709551616 + lo) * p = (hi * p + lo / r) * 18446744073709551616 + lo * p % 18446744073709551616 := by
  have p0 : 0 < p := by rcases Nat.eq_zero_or_pos p with e | e; · subst e; simp at hpp
                        · exact e
  have r0 : 0 < r := by rcases Nat.eq_zero_or_pos r with e | e; · subst e; simp at hpp
                        · exact e
  have h1 : (hi + 1) * p ≤ y * p := Nat.mul_le_mul_right _ h
  rw [Nat.add_mul, Nat.one_mul] at h1
  have h2 : lo / r < p := by rw [Nat.div_lt_iff_lt_mul r0, Nat.mul_comm, hpp]; exact hl
  have a1 := Nat.div_add_mod (lo * p) 18446744073709551616
  have a2 : lo * p / 18446744073709551616 = lo / r := by rw [← hpp, Nat.mul_div_mul_right _ _ p0]
  rw [a2] at a1
  have a3 : (hi * 18446744073709551616 + lo) * p = hi * p * 18446744073709551616 + lo * p := by grind
  rw [a3]
  generalize hi * p = A at *
  generalize y * p = Y at *
  generalize lo * p = L at *
  generalize lo / r = D at *
  clear hpp a2 a3
  omega
theorem zfv {u L Y s : Nat} (s63 : s ≤ 63) (sN : Y < 18446744073709551616) (sL : 9223372036854775808 ≤ Y) (hu : u < Y) (hLm : L < 18446744073709551616) :
    Ev (fun k => zaB.l0 k (Y : Int) (s : Int) ((Y / 4294967296 : Nat) : Int) ((Y % 4294967296 : Nat) : Int) (u : Int) ((L / 4294967296 : Nat) : Int) ((L % 4294967296 : Nat) : Int) ((u / (Y / 4294967296) : Nat) : Int) ((u % (Y / 4294967296) : Nat) : Int))
      ((((u * 18446744073709551616 + L) / Y : Nat) : Int), (((u * 18446744073709551616 + L) % Y / 2 ^ s : Nat) : Int)) := by
  have n : Norm Y (Y / 4294967296) (Y % 4294967296) := ⟨by omega, sL, sN, by omega⟩
  have hh := n.half
  have hY0 : 0 < Y := by omega
  have td := BallQ.zfn (U := u * 18446744073709551616 + L) (y := Y) (B := 4294967296) (u := u) (c1 := L / 4294967296) (c0 := L % 4294967296) hY0 (by omega)
  rw [td.1, td.2]
  clear td
  have hQ : (u * 4294967296 + L / 4294967296) / Y < 4294967296 := by
    rw [Nat.div_lt_iff_lt_mul hY0]; omega
  have hR : (u * 4294967296 + L / 4294967296) % Y < Y := Nat.mod_lt _ hY0
  have hc1 : L / 4294967296 < 4294967296 := by omega
  have hc0 : L % 4294967296 < 4294967296 := by omega
  have hy1 : 0 < Y / 4294967296 := by omega
  have hy2 : Y / 4294967296 < 4294967296 := hh.2
  have b1 := BallQ.zdz n.e hu n.d0 (by omega) hy1
  have r1 : u % (Y / 4294967296) < Y / 4294967296 := Nat.mod_lt _ hy1
  refine l0_ev n hu hc1 ?_ 4294967296 _ _ (BallQ.zdx n.e hy1 hc1) b1 (Nat.lt_trans r1 hy2) (Nat.le_add_left _ _)
  have rq := zfN (u := u) (c := L / 4294967296) (y := Y) rfl hY0 n.hi
  obtain ⟨v1, v2⟩ := zb5 (R := (u * 4294967296 + L / 4294967296) % Y) (y1 := Y / 4294967296) (Nat.lt_trans hR sN)
  refine Ev.step (fun k => by rw [zaB.j2, rq, v1, v2]) (zaV (by omega) ?_)
  have b2 := BallQ.zdz n.e hR n.d0 (by omega) hy1
  have r2 : (u * 4294967296 + L / 4294967296) % Y % (Y / 4294967296) < Y / 4294967296 := Nat.mod_lt _ hy1
  exact l1_ev n hR s63 hc0 hQ 4294967296 _ _ (BallQ.zdx n.e hy1 hc0) b2 (Nat.lt_trans r2 hy2) (Nat.le_add_left _ _)
theorem zfc (hi lo y : Nat) (h : hi < y) (hy : y < 18446744073709551616) (hl : lo < 18446744073709551616) :
    Ev (fun k => zaB.f k (hi : Int) (lo : Int) (y : Int)) ((((hi * 18446744073709551616 + lo) / y : Nat) : Int), (((hi * 18446744073709551616 + lo) % y : Nat) : Int)) := by
  unfold zaB.f
  refine zaV (by omega) (zaV (by omega) ?_)
  by_cases h0 : hi = 0
  · subst h0
    refine zaJ rfl (zbA fun _ => ?_)
    rw [Nat.zero_mul, Nat.zero_add, (zb5 hl).1, Int.tmod_eq_emod_of_nonneg (by omega)]
    rfl
  · refine zaV (by omega) ?_
    obtain ⟨s, hz, s63, sN, sL⟩ := zgs y (by omega) hy
    refine Ev.bind hz ?_
    clear hz h0
    have es : IntKind.u64.wrap (s : Int) = (s : Int) := by rw [wu64]; clear sN sL; omega
    have es2 : IntKind.u64.wrap (64 - (s : Int)) = ((64 - s : Nat) : Int) := by rw [wu64]; clear sN sL; omega
    have s64 : s ≤ 64 := Nat.le_trans s63 (by decide)
    have p1 : 0 < 2 ^ s := Nat.pow_pos (by decide)
    have pp : 2 ^ (64 - s) * 2 ^ s = 18446744073709551616 := by rw [← Nat.pow_add, Nat.sub_add_cancel s64]
    obtain ⟨k1, k2, k3, k4⟩ := zeI pp h hl sN
    have eY : shl .u64 (y : Int) (s : Int) = ((y * 2 ^ s : Nat) : Int) := by rw [zfK _ _ s64, Nat.mod_eq_of_lt sN]
    have eH : shl .u64 (hi : Int) (s : Int) = ((hi * 2 ^ s : Nat) : Int) := by rw [zfK _ _ s64, Nat.mod_eq_of_lt k1]
    have eL : shl .u64 (lo : Int) (s : Int) = ((lo * 2 ^ s % 18446744073709551616 : Nat) : Int) := zfK _ _ s64
    have eR : shr .u64 (lo : Int) ((64 - s : Nat) : Int) = ((lo / 2 ^ (64 - s) : Nat) : Int) := zgS _ _ (Nat.sub_le _ _)
    have eO := or_eq k1 k2 s64
    have hLm : lo * 2 ^ s % 18446744073709551616 < 18446744073709551616 := Nat.mod_lt _ (by decide)
    rw [es, es2, eY, eH, eL, eR, eO, zgk _ sN, zgk _ hLm]
    have eq1 : (hi * 18446744073709551616 + lo) / y = (hi * 18446744073709551616 + lo) * 2 ^ s / (y * 2 ^ s) := by rw [Nat.mul_div_mul_right _ _ p1]
    have eq2 : (hi * 18446744073709551616 + lo) % y = (hi * 18446744073709551616 + lo) * 2 ^ s % (y * 2 ^ s) / 2 ^ s := by
      rw [Nat.mul_mod_mul_right, Nat.mul_div_cancel _ p1]
    rw [eq1, eq2, k4]
    clear eq1 eq2 k4 k1 k2 pp p1 eO eR eL eH eY es es2 h hl
    generalize hi * 2 ^ s + lo / 2 ^ (64 - s) = u at *
    generalize lo * 2 ^ s % 18446744073709551616 = L at *
    generalize y * 2 ^ s = Y at *
    have ey1 : (Y : Int) / 4294967296 = ((Y / 4294967296 : Nat) : Int) := by omega
    have eL1 : (L : Int) / 4294967296 = ((L / 4294967296 : Nat) : Int) := by omega
    refine zaJ (by omega) (zaJ (by omega) ?_)
    rw [ey1, eL1]
    refine zaV (by omega) ?_
    obtain ⟨q1, q2⟩ := zb5 (R := u) (y1 := Y / 4294967296) (by omega)
    rw [q1, q2]
    exact zfv s63 sN sL k3 hLm
theorem zgw (hi lo y : Nat) (h0 : 0 < y) (hy : y < 18446744073709551616) (hl : lo < 18446744073709551616) :
    Ev (fun k => zbw.f k (hi : Int) (lo : Int) (y : Int)) (((hi * 18446744073709551616 + lo) % y : Nat) : Int) := by
  unfold zbw.f
  refine zaV (by omega) ?_
  have e : Int.tmod (hi : Int) (y : Int) = ((hi % y : Nat) : Int) := by rw [Int.tmod_eq_emod_of_nonneg (by omega)]; rfl
  rw [e]
  refine Ev.bind (zfc (hi % y) lo y (Nat.mod_lt _ h0) hy hl) (zbA fun _ => ?_)
  have : (hi % y * 18446744073709551616 + lo) % y = (hi * 18446744073709551616 + lo) % y := by
    rw [Nat.add_mod, Nat.mul_mod, Nat.mod_mod, ← Nat.mul_mod, ← Nat.add_mod]
  rw [this]
theorem ze8 (n d : Nat) (m : Bool) (_hn : n < 18446744073709551616) (_hd : d < 18446744073709551616) : Ev (fun k => zbu.f k (n : Int) (d : Int) m) (put n d m) := by
  have big : Ev (fun k => zbu.j0 k (n : Int) (d : Int) m true) (0, 0, 3) := Ev.step (fun k => by rw [zbu.j0]) (zaJ rfl (Ev.now _))
  unfold zbu.f BallQ.put
  by_cases h1 : (n : Int) > 9223372036854775807
  · refine zaJ h1 ?_
    rw [if_neg (by omega)]; exact big
  · refine zaV h1 ?_
    by_cases h2 : (d : Int) > 9223372036854775807
    · rw [decide_eq_true h2, if_neg (by omega)]; exact big
    · rw [decide_eq_false h2, if_pos (by omega)]
      refine Ev.step (fun k => by rw [zbu.j0]) (zaV (by simp) ?_)
      have e1 : wrap64 (n : Int) = n := by unfold wrap64; omega
      have e2 : wrap64 (d : Int) = d := by unfold wrap64; omega
      have e3 : wrap64 (-(n : Int)) = -(n : Int) := by unfold wrap64; omega
      cases m
      · refine zaV (by simp) (zbA fun _ => ?_)
        rw [e1, e2]; rfl
      · refine zaJ rfl (zbA fun _ => ?_)
        rw [e1, e2, e3]; rfl
theorem zcY (a b : Nat) (ha : a < 18446744073709551616) (hb : b < 18446744073709551616) : zaT.f (a : Int) (b : Int) = some (((a * b % 18446744073709551616 : Nat) : Int), decide (a * b < 18446744073709551616)) := by
  unfold zaT.f
  rw [zd7 a b ha hb]
  simp only [Option.bind_some]
  congr 2
  by_cases h : a * b < 18446744073709551616
  · rw [decide_eq_true h, Nat.div_eq_of_lt h]; rfl
  · rw [decide_eq_false h, beq_eq_false_iff_ne]; omega
theorem zcV {n d : Int} (h : Right n d) (hd : In64 d) : ∃ D : Nat, d = (D : Int) ∧ 0 < D ∧ D < 9223372036854775808 ∧ n.natAbs.gcd D = 1 := by
  obtain ⟨h0, _, h2⟩ := h
  have := hd.2
  refine ⟨d.natAbs, by omega, by omega, by omega, h2⟩
theorem zgB : out 0 = (0, 1, 0) := by decide +kernel
theorem zfU {a b : Nat} (ha : a < 18446744073709551616) (hb : b < 18446744073709551616) : Go.bits .or .u64 (a : Int) (b : Int) = 0 ↔ a = 0 ∧ b = 0 := by
  have := (bits_nat .u64 64 (by decide) wraps_u64 a b (by omega) (by omega)).2
  rw [this]
  have e : ((a ||| b : Nat) : Int) = 0 ↔ (a ||| b) = 0 := by omega
  rw [e, Nat.or_eq_zero_iff]
def addS (aN aD bN bD : Int) : Int × Int × Int := if Right aN aD ∧ Right bN bD then out (q aN aD + q bN bD) else (0, 0, 2)
theorem zhE {v t : Int} {p D : Nat} (hp0 : 0 < p) (ht : v = (p : Int) * t) (m : Bool) :
    (¬ v.natAbs / 18446744073709551616 < p → put t.natAbs D m = (0, 0, 3)) ∧ (v.natAbs / 18446744073709551616 < p → t.natAbs < 18446744073709551616) ∧ v.natAbs / p = t.natAbs := by
  have e : v.natAbs = p * t.natAbs := by rw [ht, Int.natAbs_mul, Int.natAbs_natCast]
  have e2 : v.natAbs / p = t.natAbs := by rw [e]; exact Nat.mul_div_cancel_left _ hp0
  refine ⟨?_, ?_, e2⟩
  · intro h
    have h1 : p * 18446744073709551616 ≤ v.natAbs := by
      have := Nat.div_mul_le_self v.natAbs 18446744073709551616
      have h3 := Nat.mul_le_mul_right 18446744073709551616 (Nat.not_lt.1 h)
      exact Nat.le_trans h3 this
    have h2 : 18446744073709551616 ≤ t.natAbs := by
      rw [← e2, Nat.le_div_iff_mul_le hp0, Nat.mul_comm]; exact h1
    unfold BallQ.put
    rw [if_neg]
    intro h3
    have := h3.1
    clear h3 h1 e e2 ht h
    omega
  · intro h
    rw [← e2, Nat.div_lt_iff_lt_mul hp0]
    have h1 := (Nat.div_lt_iff_lt_mul (show 0 < 18446744073709551616 by decide)).1 h
    rw [Nat.mul_comm]; exact h1
theorem zcO {n : Nat} (h : n < 9223372036854775808) : In64 (n : Int) := ⟨by omega, by omega⟩
theorem lt64 {n : Nat} (h : n < 9223372036854775808) : n < 18446744073709551616 := by omega
theorem zdO {n : Nat} (h : 0 < n) : ¬ ((n : Nat) : Int) = 0 := by omega
theorem zeH {v t : Int} {p : Nat} (hp0 : 0 < p) (ht : v = (p : Int) * t) : decide (v < 0) = decide (t < 0) := by
  rw [decide_eq_decide, ht]
  have hp : (0 : Int) < (p : Int) := by omega
  constructor
  · intro h
    by_cases h' : t < 0
    · exact h'
    · have := Int.mul_nonneg (Int.le_of_lt hp) (Int.not_lt.1 h')
      exact absurd h (Int.not_lt.2 this)
  · intro h; exact Int.mul_neg_of_pos_of_neg hp h
theorem zfW (n : Nat) (h : n < 340282366920938463463374607431768211456) : n / 18446744073709551616 * 18446744073709551616 + n % 18446744073709551616 = n ∧ n / 18446744073709551616 < 18446744073709551616 ∧ n % 18446744073709551616 < 18446744073709551616 := by omega
theorem zfG {x y : Int} (hx : x.natAbs ≤ 9223372036854775808 * 9223372036854775808) (hy : y.natAbs ≤ 9223372036854775808 * 9223372036854775808) : (x + y).natAbs < 340282366920938463463374607431768211456 := by omega
theorem prod_bound {x : Int} {n : Nat} (hx : In64 x) (hn : n < 9223372036854775808) : (x * (n : Int)).natAbs ≤ 9223372036854775808 * 9223372036854775808 := by
  rw [Int.natAbs_mul]; exact Nat.mul_le_mul (zcp hx) (by rw [Int.natAbs_natCast]; omega)
theorem zhD {aN bN : Int} {A B g A' B' : Nat} (h1 : In64 aN) (h3 : In64 bN) (hA : A < 9223372036854775808) (hB : B < 9223372036854775808) (hg : g = A.gcd B) (hg0 : 0 < g) (hgA : g < 9223372036854775808) (eA : A' = A / g) (eB : B' = B / g)
    {v t : Int} {p D : Nat} (hv : v = aN * (B' : Int) + bN * (A' : Int)) (hp : p = g.gcd v.natAbs) (ht : v = (p : Int) * t) (hD : D = A' * (B / p)) (hDne : D ≠ 0) (hcop : t.natAbs.gcd D = 1) :
    Ev (fun k => zbD.j0 k false aN (A : Int) bN (B : Int)) (out (mkRat t D)) := by
  have hp0 : 0 < p := by rw [hp]; exact Nat.gcd_pos_of_pos_left _ hg0
  have hpg : p ≤ g := by rw [hp]; exact Nat.gcd_le_left _ hg0
  have dA : A' < 9223372036854775808 := by rw [eA]; exact Nat.lt_of_le_of_lt (Nat.div_le_self _ _) hA
  have dB : B' < 9223372036854775808 := by rw [eB]; exact Nat.lt_of_le_of_lt (Nat.div_le_self _ _) hB
  have dP : B / p < 9223372036854775808 := Nat.lt_of_le_of_lt (Nat.div_le_self _ _) hB
  obtain ⟨m, hs, hm⟩ := sum_ev aN (B' : Int) bN (A' : Int) h1 (zcO dB) h3 (zcO dA) v hv
  have hvb : v.natAbs < 340282366920938463463374607431768211456 := by rw [hv]; exact zfG (prod_bound h1 dB) (prod_bound h3 dA)
  obtain ⟨ewh, hl1, hl2⟩ := zfW _ hvb
  have HV := Aside0.mk hv; have HT := Aside0.mk ht; have HD := Aside0.mk hD; have EA := Aside0.mk eA; have EB := Aside0.mk eB; have HP := Aside0.mk hp; have HG := Aside0.mk hg
  clear hv ht hD eA eB hp hg
  have ew : wrap64 (g : Int) = (g : Int) := w64 (by omega) (by omega)
  have et : ∀ X : Nat, X < 9223372036854775808 → wrap64 (Int.tdiv (X : Int) (g : Int)) = ((X / g : Nat) : Int) := by
    intro X hX
    have hd := Nat.div_le_self X g
    rw [Int.tdiv_eq_ediv_of_nonneg (by omega), ← Int.natCast_ediv]
    generalize X / g = y at *
    exact w64 (by omega) (by omega)
  refine Ev.step (fun k => by rw [zbD.j0]) (zaV (by simp) ?_)
  refine zbC (size_eq _ (zcO hA)) (zbC (size_eq _ (zcO hB)) (Ev.bind (zcj _ _) ?_))
  simp only [Int.natAbs_natCast]
  rw [← HG.out, ew, et A hA, et B hB, ← EA.out, ← EB.out]
  refine zaV (zdO hg0) (Ev.bind hs ?_)
  clear hs
  by_cases hz : v = 0
  · have t0 : t = 0 := by
      rcases Int.mul_eq_zero.1 (HT.out.symm.trans hz) with h | h
      · exact absurd h (zdO hp0)
      · exact h
    refine zaJ ((zfU hl1 hl2).2 ⟨by rw [hz]; rfl, by rw [hz]; rfl⟩) (zbA fun _ => ?_)
    rw [t0, Rat.zero_mkRat, zgB]
  · refine zaV (fun h => hz ?_) ?_
    · obtain ⟨a1, a2⟩ := (zfU hl1 hl2).1 h
      have : v.natAbs = 0 := by rw [← ewh, a1, a2]
      exact Int.natAbs_eq_zero.1 this
    have hrem := zgw (v.natAbs / 18446744073709551616) (v.natAbs % 18446744073709551616) g hg0 (lt64 hgA) hl2
    rw [ewh] at hrem
    refine Ev.bind hrem (Ev.bind (zcj _ _) ?_)
    have eg : g.gcd (v.natAbs % g) = p := by rw [Nat.gcd_comm, ← Nat.gcd_rec, HP.out]
    rw [eg]
    obtain ⟨f1, f2, f3⟩ := zhE (D := D) hp0 HT.out m
    rw [BallQ.zeL t D hDne hcop m (fun _ => (hm hz).trans (zeH hp0 HT.out))]
    by_cases hh : v.natAbs / 18446744073709551616 < p
    · refine zaV (by omega) ?_
      have hdiv := zfc (v.natAbs / 18446744073709551616) (v.natAbs % 18446744073709551616) p hh (Nat.lt_of_le_of_lt hpg (lt64 hgA)) hl2
      rw [ewh, f3] at hdiv
      refine Ev.bind hdiv (zaV (zdO hg0) (zaV (zdO hp0) ?_))
      rw [(zb5 (R := A) (y1 := g) (lt64 hA)).1, (zb5 (R := B) (y1 := p) (lt64 hB)).1, ← EA.out]
      refine zbC (zcY _ _ (lt64 dA) (lt64 dP)) ?_
      rw [← HD.out]
      by_cases hDl : D < 18446744073709551616
      · refine zaJ (decide_eq_true hDl) ?_
        have := ze8 t.natAbs D m (f2 hh) hDl
        rw [Nat.mod_eq_of_lt hDl]
        exact Ev.bind this (zbA fun _ => rfl)
      · refine zaV (by simpa using hDl) (zbA fun _ => ?_)
        unfold BallQ.put
        rw [if_neg (fun h => hDl (lt64 h.2))]
    · refine zaJ (by omega) (zbA fun _ => ?_)
      rw [f1 hh]
theorem zeE (aN aD bN bD : Int) (h1 : In64 aN) (h2 : In64 aD) (h3 : In64 bN) (h4 : In64 bD) : Ev (fun k => zbD.f k aN aD bN bD) (addS aN aD bN bD) := by
  have bad : Ev (fun k => zbD.j0 k true aN aD bN bD) (0, 0, 2) := Ev.step (fun k => by rw [zbD.j0]) (zaJ rfl (Ev.now _))
  unfold zbD.f addS
  by_cases hra : Right aN aD
  · refine Ev.bind (zb2 (zcl aN aD h1 h2) (decide_eq_true hra)) (zaJ rfl ?_)
    by_cases hrb : Right bN bD
    · rw [if_pos ⟨hra, hrb⟩]
      refine Ev.bind (zb2 (zcl bN bD h3 h4) (decide_eq_true hrb)) ?_
      obtain ⟨A, rfl, hA0, hA1, hAc⟩ := zcV hra h2
      obtain ⟨B, rfl, hB0, hB1, hBc⟩ := zcV hrb h4
      obtain ⟨t, ht, hval, hcop, hne⟩ := BallQ.zgl hAc hBc hA0 hB0 (aN * ((B / A.gcd B : Nat) : Int) + bN * ((A / A.gcd B : Nat) : Int)) rfl
      have eq0 : q aN (A : Int) + q bN (B : Int) = mkRat aN A + mkRat bN B := by unfold BallQ.q; simp
      rw [eq0, hval]
      have hg0 : 0 < A.gcd B := Nat.gcd_pos_of_pos_left _ hA0
      exact zhD h1 h3 hA1 hB1 rfl hg0 (Nat.lt_of_le_of_lt (Nat.gcd_le_left B hA0) hA1) rfl rfl rfl rfl ht rfl hne hcop
    · rw [if_neg (fun h => hrb h.2)]
      refine Ev.bind (zb2 (zcl bN bD h3 h4) (decide_eq_false hrb)) ?_
      exact bad
  · rw [if_neg (fun h => hra h.1)]
    refine Ev.bind (zb2 (zcl aN aD h1 h2) (decide_eq_false hra)) (zaV (by simp) bad)
theorem zez {a : Int} {x : Nat} (h : x ∣ a.natAbs) (hx : 0 < x) : ∃ t : Int, a = (x : Int) * t ∧ a.natAbs / x = t.natAbs := by
  have hd : (x : Int) ∣ a := Int.dvd_natAbs.1 (Int.natCast_dvd_natCast.2 h)
  obtain ⟨t, ht⟩ := hd
  refine ⟨t, ht, ?_⟩
  have e : a.natAbs = x * t.natAbs := by rw [ht, Int.natAbs_mul, Int.natAbs_natCast]
  rw [e]; exact Nat.mul_div_cancel_left _ hx
theorem zfY {aN bN : Int} {A B : Nat} (ha : aN.natAbs.gcd A = 1) (hb : bN.natAbs.gcd B = 1) (hA : 0 < A) (hB : 0 < B) (m : Bool) (hm : aN ≠ 0 → bN ≠ 0 → m = (decide (aN < 0) != decide (bN < 0))) :
    out (mkRat aN A * mkRat bN B) = put (aN.natAbs / aN.natAbs.gcd B * (bN.natAbs / bN.natAbs.gcd A)) (A / bN.natAbs.gcd A * (B / aN.natAbs.gcd B)) m := by
  have g1 : 0 < aN.natAbs.gcd B := Nat.gcd_pos_of_pos_right _ hB
  have g2 : 0 < bN.natAbs.gcd A := Nat.gcd_pos_of_pos_right _ hA
  have hc := BallQ.zhv ha hb hA hB
  obtain ⟨a', ha', ea⟩ := zez (Nat.gcd_dvd_left aN.natAbs B) g1
  obtain ⟨b', hb', eb⟩ := zez (Nat.gcd_dvd_left bN.natAbs A) g2
  obtain ⟨A', hA'⟩ := Nat.gcd_dvd_right bN.natAbs A
  obtain ⟨B', hB'⟩ := Nat.gcd_dvd_right aN.natAbs B
  have eA : A / bN.natAbs.gcd A = A' := by
    conv => lhs; lhs; rw [hA']
    exact Nat.mul_div_cancel_left _ g2
  have eB : B / aN.natAbs.gcd B = B' := by
    conv => lhs; lhs; rw [hB']
    exact Nat.mul_div_cancel_left _ g1
  rw [ea, eb, eA, eB] at hc
  rw [ea, eb, eA, eB]
  have hv : mkRat aN A * mkRat bN B = mkRat (a' * b') (A' * B') := by
    rw [Rat.mkRat_mul_mkRat]
    have e1 : aN * bN = ((aN.natAbs.gcd B * bN.natAbs.gcd A : Nat) : Int) * (a' * b') := by
      conv => lhs; rw [ha', hb']
      rw [Int.natCast_mul]; grind
    have e2 : A * B = aN.natAbs.gcd B * bN.natAbs.gcd A * (A' * B') := by
      conv => lhs; rw [hA', hB']
      grind
    rw [e1, e2]
    exact Rat.mkRat_mul_left (Nat.ne_of_gt (Nat.mul_pos g1 g2))
  rw [hv]
  have hA0 : A' ≠ 0 := by intro h; rw [h] at hA'; simp at hA'; omega
  have hB0 : B' ≠ 0 := by intro h; rw [h] at hB'; simp at hB'; omega
  have hn : (a' * b').natAbs = a'.natAbs * b'.natAbs := Int.natAbs_mul _ _
  rw [← hn] at hc ⊢
  refine BallQ.zeL _ _ (Nat.mul_ne_zero hA0 hB0) hc m (fun h => ?_)
  have ha0 : a' ≠ 0 := by intro e; apply h; rw [e]; simp
  have hb0 : b' ≠ 0 := by intro e; apply h; rw [e]; simp
  have hma : decide (aN < 0) = decide (a' < 0) := zeH g1 ha'
  have hmb : decide (bN < 0) = decide (b' < 0) := zeH g2 hb'
  have na : aN ≠ 0 := by rw [ha']; intro e; rcases Int.mul_eq_zero.1 e with e | e; · omega
                         · exact ha0 e
  have nb : bN ≠ 0 := by rw [hb']; intro e; rcases Int.mul_eq_zero.1 e with e | e; · omega
                         · exact hb0 e
  rw [hm na nb, hma, hmb]
  by_cases p1 : a' < 0 <;> by_cases p2 : b' < 0
  · have : ¬ a' * b' < 0 := by have := Int.mul_pos_of_neg_of_neg p1 p2; omega
    simp [p1, p2, this]
  · have : a' * b' < 0 := Int.mul_neg_of_neg_of_pos p1 (by omega)
    simp [p1, p2, this]
  · have : a' * b' < 0 := Int.mul_neg_of_pos_of_neg (by omega) p2
    simp [p1, p2, this]
  · have : ¬ a' * b' < 0 := by have := Int.mul_nonneg (Int.not_lt.1 p1) (Int.not_lt.1 p2); omega
    simp [p1, p2, this]
def mulS (aN aD bN bD : Int) : Int × Int × Int := if Right aN aD ∧ Right bN bD then out (q aN aD * q bN bD) else (0, 0, 2)
theorem zgh {n d : Nat} {m : Bool} (h : ¬ n < 18446744073709551616 ∨ ¬ d < 18446744073709551616) : put n d m = (0, 0, 3) := by
  unfold BallQ.put
  rw [if_neg]
  intro h2
  rcases h with h | h
  · exact h (lt64 h2.1)
  · exact h (lt64 h2.2)
theorem zhu {aN bN : Int} {A B : Nat} (h1 : In64 aN) (h3 : In64 bN) (hA : A < 9223372036854775808) (hB : B < 9223372036854775808) (hA0 : 0 < A) (hB0 : 0 < B) (ha : aN.natAbs.gcd A = 1) (hb : bN.natAbs.gcd B = 1) :
    Ev (fun k => zba.j0 k false aN (A : Int) bN (B : Int)) (out (mkRat aN A * mkRat bN B)) := by
  have g1 : 0 < aN.natAbs.gcd B := Nat.gcd_pos_of_pos_right _ hB0
  have g2 : 0 < bN.natAbs.gcd A := Nat.gcd_pos_of_pos_right _ hA0
  have ka : aN.natAbs < 18446744073709551616 := Nat.lt_of_le_of_lt (zcp h1) (by decide)
  have kb : bN.natAbs < 18446744073709551616 := Nat.lt_of_le_of_lt (zcp h3) (by decide)
  have l1 : aN.natAbs / aN.natAbs.gcd B < 18446744073709551616 := Nat.lt_of_le_of_lt (Nat.div_le_self _ _) ka
  have l2 : bN.natAbs / bN.natAbs.gcd A < 18446744073709551616 := Nat.lt_of_le_of_lt (Nat.div_le_self _ _) kb
  have l3 : A / bN.natAbs.gcd A < 18446744073709551616 := Nat.lt_of_le_of_lt (Nat.div_le_self _ _) (lt64 hA)
  have l4 : B / aN.natAbs.gcd B < 18446744073709551616 := Nat.lt_of_le_of_lt (Nat.div_le_self _ _) (lt64 hB)
  refine Ev.step (fun k => by rw [zba.j0]) (zaV (by simp) ?_)
  refine zbC (size_eq _ h1) (zbC (size_eq _ (zcO hB)) (Ev.bind (zcj _ _) (zbC (size_eq _ h3) (zbC (size_eq _ (zcO hA)) (Ev.bind (zcj _ _) ?_)))))
  simp only [Int.natAbs_natCast]
  refine zaV (zdO g1) (zaV (zdO g2) ?_)
  rw [(zb5 (R := aN.natAbs) (y1 := aN.natAbs.gcd B) ka).1, (zb5 (R := bN.natAbs) (y1 := bN.natAbs.gcd A) kb).1]
  refine zbC (zcY _ _ l1 l2) ?_
  rw [(zb5 (R := A) (y1 := bN.natAbs.gcd A) (lt64 hA)).1, (zb5 (R := B) (y1 := aN.natAbs.gcd B) (lt64 hB)).1]
  refine zbC (zcY _ _ l3 l4) ?_
  have mp := fun m hm => zfY (m := m) ha hb hA0 hB0 hm
  have over : ∀ (x y : Int), put (aN.natAbs / aN.natAbs.gcd B * (bN.natAbs / bN.natAbs.gcd A)) (A / bN.natAbs.gcd A * (B / aN.natAbs.gcd B)) (decide (aN < 0) != decide (bN < 0)) = (0, 0, 3) → Ev (fun k => zba.j1 k x y true aN (A : Int) bN (B : Int)) (out (mkRat aN A * mkRat bN B)) := by
    intro x y h
    rw [mp (decide (aN < 0) != decide (bN < 0)) (fun _ _ => rfl), h]
    exact Ev.step (fun k => by rw [zba.j1]) (zaJ rfl (Ev.now _))
  by_cases hN : aN.natAbs / aN.natAbs.gcd B * (bN.natAbs / bN.natAbs.gcd A) < 18446744073709551616
  · refine zaJ (decide_eq_true hN) ?_
    by_cases hD : A / bN.natAbs.gcd A * (B / aN.natAbs.gcd B) < 18446744073709551616
    · rw [decide_eq_true hD]
      refine Ev.step (fun k => by rw [zba.j1]) (zaV (by simp) ?_)
      rw [Nat.mod_eq_of_lt hN, Nat.mod_eq_of_lt hD]
      by_cases hs : (decide (aN < 0) != decide (bN < 0)) = true
      · refine zaJ hs ?_
        by_cases hz : aN.natAbs / aN.natAbs.gcd B * (bN.natAbs / bN.natAbs.gcd A) = 0
        · have : ((((aN.natAbs / aN.natAbs.gcd B * (bN.natAbs / bN.natAbs.gcd A) : Nat) : Int)) != 0) = false := by rw [hz]; rfl
          rw [this]
          refine Ev.bind (ze8 _ _ false hN hD) (zbA fun _ => ?_)
          have h0 := mp true (fun _ _ => hs.symm)
          rw [h0, hz]
          unfold BallQ.put
          simp
        · have : ((((aN.natAbs / aN.natAbs.gcd B * (bN.natAbs / bN.natAbs.gcd A) : Nat) : Int)) != 0) = true := by rw [bne_iff_ne]; exact fun e => hz (Int.ofNat_eq_zero.1 e)
          rw [this]
          refine Ev.bind (ze8 _ _ true hN hD) (zbA fun _ => ?_)
          rw [mp true (fun _ _ => hs.symm)]
      · refine zaV hs (Ev.bind (ze8 _ _ false hN hD) (zbA fun _ => ?_))
        rw [mp false (fun _ _ => (Bool.eq_false_iff.2 hs).symm)]
    · rw [decide_eq_false hD]
      exact over _ _ (zgh (.inr hD))
  · exact zaV (by simpa using hN) (over _ _ (zgh (.inl hN)))
theorem zfZ (aN aD bN bD : Int) (h1 : In64 aN) (h2 : In64 aD) (h3 : In64 bN) (h4 : In64 bD) : Ev (fun k => zba.f k aN aD bN bD) (mulS aN aD bN bD) := by
  have bad : Ev (fun k => zba.j0 k true aN aD bN bD) (0, 0, 2) := Ev.step (fun k => by rw [zba.j0]) (zaJ rfl (Ev.now _))
  unfold zba.f mulS
  by_cases hra : Right aN aD
  · refine Ev.bind (zb2 (zcl aN aD h1 h2) (decide_eq_true hra)) (zaJ rfl ?_)
    by_cases hrb : Right bN bD
    · rw [if_pos ⟨hra, hrb⟩]
      refine Ev.bind (zb2 (zcl bN bD h3 h4) (decide_eq_true hrb)) ?_
      obtain ⟨A, rfl, hA0, hA1, hAc⟩ := zcV hra h2
      obtain ⟨B, rfl, hB0, hB1, hBc⟩ := zcV hrb h4
      have eq0 : q aN (A : Int) * q bN (B : Int) = mkRat aN A * mkRat bN B := by unfold BallQ.q; simp
      rw [eq0]
      exact zhu h1 h3 hA1 hB1 hA0 hB0 hAc hBc
    · rw [if_neg (fun h => hrb h.2)]
      refine Ev.bind (zb2 (zcl bN bD h3 h4) (decide_eq_false hrb)) bad
  · rw [if_neg (fun h => hra h.1)]
    refine Ev.bind (zb2 (zcl aN aD h1 h2) (decide_eq_false hra)) (zaV (by simp) bad)
theorem zgU {x : Rat} (h : fits x) : out x = (x.num, (x.den : Int), 0) := by unfold BallQ.out; rw [if_pos h]
instance in64Dec (a : Int) : Decidable (BallQ.In64 a) := inferInstanceAs (Decidable (_ ∧ _))
end Go.Proofs.YtijhnmbegceonaaDoor.PRat
namespace Go.Proofs.YtijhnmbegceonaaDoor.PRef
open Go Go.RowKit BallBits BallQ
set_option linter.unusedSimpArgs false
theorem zhi (n : Int) : sgn (decide (n < 0)) n.natAbs = n := by
 unfold sgn
 by_cases h : n < 0
 ·simp only [h, decide_true, if_true]; omega
 ·simp only [h, decide_false, Bool.false_eq_true, if_false]; omega
theorem zgo (m : Bool) (n : Nat) : (sgn m n).natAbs = n := by
 cases m <;> simp [sgn]
theorem zhh (m : Bool) (g n : Nat) : sgn m (g * n) = (g : Int) * sgn m n := by
 cases m <;> simp [sgn, Int.mul_neg]
theorem zfQ (N D : Nat) (h : 0 < D) (m : Bool) : put (N / Nat.gcd N D) (D / Nat.gcd N D) m = out (mkRat (sgn m N) D) := by
 have hg : 0 < Nat.gcd N D := Nat.gcd_pos_of_pos_right _ h
 have e1 : Nat.gcd N D * (N / Nat.gcd N D) = N := Nat.mul_div_cancel' (Nat.gcd_dvd_left N D)
 have e2 : Nat.gcd N D * (D / Nat.gcd N D) = D := Nat.mul_div_cancel' (Nat.gcd_dvd_right N D)
 have hc : (N / Nat.gcd N D).gcd (D / Nat.gcd N D) = 1 := zgb hg rfl
 have hD : D / Nat.gcd N D ≠ 0 := by
  intro h0
  rw [h0] at e2
  omega
 generalize hx : N / Nat.gcd N D = x at *
 generalize hy : D / Nat.gcd N D = y at *
 generalize hz : Nat.gcd N D = g at *
 have e3 : mkRat (sgn m N) D = mkRat (sgn m x) y := by
  rw [← e1, ← e2, zhh]
  exact Rat.mkRat_mul_left (by omega)
 rw [e3, zeL (sgn m x) y hD (by rw [zgo]; exact hc) m ?_, zgo]
 intro h0
 cases m
 ·simp only [sgn, Bool.false_eq_true, if_false] at h0 ⊢; exact (decide_eq_false (by omega)).symm
 ·simp only [sgn, if_true] at h0 ⊢; exact (decide_eq_true (by omega)).symm
theorem zhe (a b c d : Nat) (m1 m2 : Bool) : sgn (sumM a b c d m1 m2) (sumN a b c d m1 m2) = sgn m1 a * (d : Int) + sgn m2 c * (b : Int) := by
 have e1 : sgn m1 a * (d : Int) = sgn m1 (a * d) := by cases m1 <;> simp [sgn, Int.neg_mul]
 have e2 : sgn m2 c * (b : Int) = sgn m2 (c * b) := by cases m2 <;> simp [sgn, Int.neg_mul]
 rw [e1, e2]
 unfold sumN sumM
 generalize a * d = x
 generalize c * b = y
 cases m1 <;> cases m2 <;> simp only [sgn, beq_self_eq_true, if_true, Bool.false_eq_true, if_false, beq_iff_eq, reduceCtorEq] <;> (try split) <;> (try simp only [sgn, if_true, Bool.false_eq_true, if_false]) <;> omega
theorem q_eq (n d : Int) (h : 0 < d) : q n d = mkRat (sgn (decide (n < 0)) n.natAbs) d.natAbs := by
 rw [zhi]
 unfold q
 rw [show d.toNat = d.natAbs by omega]
theorem zhg (m1 m2 : Bool) (a c : Nat) : sgn (m1 != m2) (a * c) = sgn m1 a * sgn m2 c := by
 cases m1 <;> cases m2 <;> simp [sgn, Int.neg_mul, Int.mul_neg]
theorem good0 {n1 d1 n2 d2 : Int} (h1 : Right n1 d1) (h2 : Right n2 d2) : good 0 n1 d1 n2 d2 = out (q n1 d1 + q n2 d2) := by
 have p1 := h1.1
 have p2 := h2.1
 rw [q_eq n1 d1 p1, q_eq n2 d2 p2, Rat.mkRat_add_mkRat _ _ (by omega) (by omega), ← zhe]
 exact zfQ _ _ (Nat.mul_pos (by omega) (by omega)) _
theorem good2 {n1 d1 n2 d2 : Int} (h1 : Right n1 d1) (h2 : Right n2 d2) : good 2 n1 d1 n2 d2 = out (q n1 d1 * q n2 d2) := by
 have p1 := h1.1
 have p2 := h2.1
 rw [q_eq n1 d1 p1, q_eq n2 d2 p2, Rat.mkRat_mul_mkRat, ← zhg]
 exact zfQ _ _ (Nat.mul_pos (by omega) (by omega)) _
end Go.Proofs.YtijhnmbegceonaaDoor.PRef
namespace Go.Proofs.YtijhnmbegceonaaDoor.PRef
open Go Go.RowKit Go.Proofs.YtijhnmbegceonaaDoorW.PrintWords Go.Proofs.YtijhnmbegceonaaDoorW.PrintLast Go.Proofs.YtijhnmbegceonaaDoorW.PrintMore BallBits BallQ
set_option linter.unusedVariables false
theorem zhl (n1 d1 n2 d2 : Int) (w : World) (hi : In64 n1 ∧ In64 d1 ∧ In64 n2 ∧ In64 d2) :
  Calls Tryd.prog 26 #[.int .i64 0, .agg #[.int .i64 n1, .int .i64 d1], .agg #[.int .i64 n2, .int .i64 d2]] w fun e w' => e = .returned (.tuple #[.agg #[.int .i64 (PRat.addS n1 d1 n2 d2).1, .int .i64 (PRat.addS n1 d1 n2 d2).2.1], .int .i64 (PRat.addS n1 d1 n2 d2).2.2]) ∧ Below w.heap.size w w' := by
 by_cases h : Right n1 d1 ∧ Right n2 d2
 ·have e : PRat.addS n1 d1 n2 d2 = good 0 n1 d1 n2 d2 := by rw [good0 h.1 h.2]; unfold PRat.addS; rw [if_pos h]
  rw [e]
  exact zga 0 n1 d1 n2 d2 w hi h.1 h.2 (by omega) (.inl rfl)
 ·have e : PRat.addS n1 d1 n2 d2 = (0, 0, 2) := by unfold PRat.addS; rw [if_neg h]
  rw [e]
  exact zg0 0 n1 d1 n2 d2 w hi (by
   by_cases h1 : Right n1 d1
   ·exact .inr (.inl (fun h2 => h ⟨h1, h2⟩))
   ·exact .inl h1)
theorem zhk (n1 d1 n2 d2 : Int) (w : World) (hi : In64 n1 ∧ In64 d1 ∧ In64 n2 ∧ In64 d2) :
  Calls Tryd.prog 26 #[.int .i64 2, .agg #[.int .i64 n1, .int .i64 d1], .agg #[.int .i64 n2, .int .i64 d2]] w fun e w' => e = .returned (.tuple #[.agg #[.int .i64 (PRat.mulS n1 d1 n2 d2).1, .int .i64 (PRat.mulS n1 d1 n2 d2).2.1], .int .i64 (PRat.mulS n1 d1 n2 d2).2.2]) ∧ Below w.heap.size w w' := by
 by_cases h : Right n1 d1 ∧ Right n2 d2
 ·have e : PRat.mulS n1 d1 n2 d2 = good 2 n1 d1 n2 d2 := by rw [good2 h.1 h.2]; unfold PRat.mulS; rw [if_pos h]
  rw [e]
  exact zga 2 n1 d1 n2 d2 w hi h.1 h.2 (by omega) (.inr (.inr (.inl rfl)))
 ·have e : PRat.mulS n1 d1 n2 d2 = (0, 0, 2) := by unfold PRat.mulS; rw [if_neg h]
  rw [e]
  exact zg0 2 n1 d1 n2 d2 w hi (by
   by_cases h1 : Right n1 d1
   ·exact .inr (.inl (fun h2 => h ⟨h1, h2⟩))
   ·exact .inl h1)
end Go.Proofs.YtijhnmbegceonaaDoor.PRef
