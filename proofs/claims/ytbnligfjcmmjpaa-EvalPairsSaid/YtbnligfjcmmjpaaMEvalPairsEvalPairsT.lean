import Derived.Test.YtbnligfjcmmjpaaMEvalPairsNumT
namespace Go.Proofs.Ytbnligfjcmmjpaa.PEvalPairs
open Go Go.RowKit Go.Proofs.YtbnligfjcmmjpaaW.PrintWords Go.Proofs.YtbnligfjcmmjpaaW.PrintLast Go.Proofs.YtbnligfjcmmjpaaW.PrintMore BallBits

theorem wrap64_congr {x y : Int} (t : Int) (h : x = y + 18446744073709551616 * t) : wrap64 x = wrap64 y := by unfold wrap64; omega
/-- The size of a number, as a row of bits. -/
theorem size_ev (a : Int) (h0 : -9223372036854775808 ≤ a) (h1 : a ≤ 9223372036854775807) : Ev (fun k => ballcockref23_size.f k a) (bof a.natAbs) := by
  unfold ballcockref23_size.f
  by_cases h : a < 0
  · refine Ev_pos h ?_
    have e1 : wrap64 (a + 1) = a + 1 := by unfold wrap64; omega
    have e2 : wrap64 (-(a + 1)) = -(a + 1) := by unfold wrap64; omega
    have e3 : IntKind.u64.wrap (-(a + 1)) = ((a.natAbs - 1 : Nat) : Int) := by rw [wu64]; omega
    rw [e1, e2, e3]
    refine Ev.bind (of_ev (a.natAbs - 1) (by omega)) (Ev.bind (of_ev 1 (by omega)) ?_)
    have := add_ev (bof (a.natAbs - 1)) (bof 1) (Nat.le_trans (length_bof_le (m := 64) (by omega)) (by omega)) (Nat.le_trans (length_bof_le (m := 64) (by omega)) (by omega))
    rw [nv_bof, nv_bof] at this
    refine Ev.bind this (Ev_some fun _ => ?_)
    congr 2; omega
  · refine Ev_neg h ?_
    have e3 : IntKind.u64.wrap a = ((a.natAbs : Nat) : Int) := by rw [wu64]; omega
    rw [e3]
    exact Ev.bind (of_ev _ (by omega)) (Ev.now _)
theorem wrap_loop (l : List Bool) (s : Bool) (i : Nat) : i ≤ l.length → i ≤ 64 → ∀ x : Nat, (x + 1) * 2 ^ i ≤ 2 ^ 64 → Ev (fun k => ballcockref23_Wrap.l0 k l s (x : Int) ((i : Int) - 1)) (wrap64 (if s then -((x * 2 ^ i + nv (l.take i) : Nat) : Int) else ((x * 2 ^ i + nv (l.take i) : Nat) : Int))) := by
  induction i with
  | zero =>
    intro _ _ x hx
    refine Ev.step (fun k => by rw [ballcockref23_Wrap.l0]) ?_
    refine Ev_neg (by omega) ?_
    simp only [List.take_zero, nv_nil, Nat.pow_zero, Nat.mul_one, Nat.add_zero] at hx ⊢
    cases s
    · refine Ev_neg (by simp) (Ev_some fun _ => ?_)
      simp
    · refine Ev_pos rfl (Ev_some fun _ => ?_)
      rw [wu64]
      congr 1
      simp only [if_true]
      exact wrap64_congr (-((-(x : Int)) / 18446744073709551616)) (by omega)
  | succ i ih =>
    intro hi h64 x hx
    have e0 : ((i + 1 : Nat) : Int) - 1 = (i : Int) := by omega
    have hx2 : (x + 1) * 2 * 2 ^ i ≤ 2 ^ 64 := by rw [Nat.pow_succ] at hx; grind
    have hx3 : (x + 1) * 2 ≤ 2 ^ 64 := Nat.le_trans (Nat.le_mul_of_pos_right _ (Nat.pow_pos (by omega))) hx2
    have H2 := Aside0.mk hx2
    clear hx2 hx
    have e1 : IntKind.u64.wrap ((x : Int) * 2) = ((x * 2 : Nat) : Int) := by rw [wu64]; omega
    have e2 : IntKind.u64.wrap (((x * 2 : Nat) : Int) + 1) = ((x * 2 + 1 : Nat) : Int) := by rw [wu64]; omega
    refine Ev.step (fun k => by rw [ballcockref23_Wrap.l0, e0, rd_nat, wpred i (by omega), e1, e2]) ?_
    refine Ev_pos (by omega) (Ev_pos (by omega) (Ev_pos (by omega) ?_))
    have ht := nv_take_succ l i (by omega)
    have key : ∀ b : Bool, l.getD i false = b → (x * 2 + b.toNat) * 2 ^ i + nv (l.take i) = x * 2 ^ (i + 1) + nv (l.take (i + 1)) := by
      intro b hb
      rw [ht, hb, Nat.pow_succ]; grind
    cases hb : l.getD i false
    · refine Ev_neg (by simp) ?_
      have := ih (by omega) (by omega) (x * 2) (Nat.le_trans (Nat.mul_le_mul_right _ (by omega)) H2.out)
      have k := key false hb
      simp only [Bool.toNat_false, Nat.add_zero] at k
      rw [k] at this
      exact this
    · refine Ev_pos rfl ?_
      have := ih (by omega) (by omega) (x * 2 + 1) (Nat.le_trans (Nat.mul_le_mul_right _ (by omega)) H2.out)
      have k := key true hb
      simp only [Bool.toNat_true] at k
      rw [k] at this
      exact this
theorem wrap_ev (l : List Bool) (hl : l.length ≤ 100000) (s : Bool) : Ev (fun k => ballcockref23_Wrap.f k l s) (wrap64 (if s then -(nv l : Int) else (nv l : Int))) := by
  unfold ballcockref23_Wrap.f
  have hm : (mn (l.length : Int) 64) - 1 = ((min l.length 64 : Nat) : Int) - 1 := by unfold mn; split <;> omega
  rw [hm]
  have := wrap_loop l s (min l.length 64) (by omega) (by omega) 0 (by simpa using Nat.pow_le_pow_right (n := 2) (by omega) (by omega : min l.length 64 ≤ 64))
  refine Ev_cast this ?_
  simp only [Nat.zero_mul, Nat.zero_add]
  have sp := nv_split l (min l.length 64)
  by_cases h : l.length ≤ 64
  · have : min l.length 64 = l.length := by omega
    rw [this, List.take_length]
  · have e : min l.length 64 = 64 := by omega
    have e2 : min 64 l.length = 64 := by omega
    rw [e, e2] at sp
    rw [e]
    generalize nv (l.take 64) = u at *
    generalize nv (l.drop 64) = v at *
    cases s
    · simp only [Bool.false_eq_true, if_false]
      exact wrap64_congr (-(v : Int)) (by omega)
    · simp only [if_true]
      exact wrap64_congr (v : Int) (by omega)
def In64 (a : Int) : Prop := -9223372036854775808 ≤ a ∧ a ≤ 9223372036854775807
theorem len64 {a : Int} (h : In64 a) : (bof a.natAbs).length ≤ 64 := length_bof_le (by have := h.1; have := h.2; omega)
theorem sum_ev (a b : Int) (ha : In64 a) (hb : In64 b) : Ev (fun k => ballcockref23_Sum.f k a b) (wrap64 (a + b)) := by
  unfold ballcockref23_Sum.f
  have la := len64 ha
  have lb := len64 hb
  refine Ev.bind (size_ev a ha.1 ha.2) (Ev.bind (size_ev b hb.1 hb.2) ?_)
  by_cases hs : (a < 0 ↔ b < 0)
  · refine Ev_pos (by simp [hs]) ?_
    have h1 := add_ev (bof a.natAbs) (bof b.natAbs) (by omega) (by omega)
    rw [nv_bof, nv_bof] at h1
    have hl := length_bof_le (n := a.natAbs + b.natAbs) (m := 66) (by have := ha.1; have := ha.2; have := hb.1; have := hb.2; omega)
    refine Ev.bind h1 (Ev.bind (wrap_ev _ (by omega) _) (Ev_some fun _ => ?_))
    rw [nv_bof]
    by_cases hn : a < 0
    · simp only [hn, decide_true, if_true]; congr 2; omega
    · simp only [hn, decide_false, Bool.false_eq_true, if_false]; congr 2; omega
  · refine Ev_neg (by simp only [beq_iff_eq, decide_eq_decide]; exact hs) ?_
    refine Ev.bind (less_ev _ _ (by omega)) ?_
    by_cases hlt : a.natAbs < b.natAbs
    · refine Ev_pos (by simpa using hlt) ?_
      have h1 := sub_ev (bof b.natAbs) (bof a.natAbs) (by omega) (by rw [nv_bof, nv_bof]; omega)
      rw [nv_bof, nv_bof] at h1
      have hl := length_bof_le (n := b.natAbs - a.natAbs) (m := 66) (by have := ha.1; have := ha.2; have := hb.1; have := hb.2; omega)
      refine Ev.bind h1 (Ev.bind (wrap_ev _ (by omega) _) (Ev_some fun _ => ?_))
      rw [nv_bof]
      by_cases hn : b < 0
      · simp only [hn, decide_true, if_true]; congr 2; omega
      · simp only [hn, decide_false, Bool.false_eq_true, if_false]; congr 2; omega
    · refine Ev_neg (by simpa using hlt) ?_
      have h1 := sub_ev (bof a.natAbs) (bof b.natAbs) (by omega) (by rw [nv_bof, nv_bof]; omega)
      rw [nv_bof, nv_bof] at h1
      have hl := length_bof_le (n := a.natAbs - b.natAbs) (m := 66) (by have := ha.1; have := ha.2; have := hb.1; have := hb.2; omega)
      refine Ev.bind h1 (Ev.bind (wrap_ev _ (by omega) _) (Ev_some fun _ => ?_))
      rw [nv_bof]
      by_cases hn : a < 0
      · simp only [hn, decide_true, if_true]; congr 2; omega
      · simp only [hn, decide_false, Bool.false_eq_true, if_false]; congr 2; omega
theorem in_wrap (x : Int) : In64 (wrap64 x) := by unfold In64 wrap64; omega
/-- What a sign does with two numbers. -/
def bin (op a b : Int) : Int :=
  if op = 0 then (if a < b then 1 else 0) else if op = 1 then (if a = b then 1 else 0) else if op = 2 then wrap64 (a + b) else if op = 3 then wrap64 (a - b) else if op = 4 then wrap64 (a * b) else if op = 5 then (if b = 0 then 0 else wrap64 (Int.tdiv a b)) else 0
theorem flag_eq (p : Prop) [Decidable p] : eval_flag.f (decide p) = some (if p then 1 else 0) := by unfold eval_flag.f; by_cases h : p <;> simp [h]
theorem one_eq (p : Prop) [Decidable p] : ballcockref23_one.f (decide p) = some (if p then 1 else 0) := by unfold ballcockref23_one.f; by_cases h : p <;> simp [h]
theorem beq_dec (a b : Int) : (a == b) = decide (a = b) := by by_cases h : a = b <;> simp [h]
theorem bin_eq (op a b : Int) : eval_Bin.f op a b = some (bin op a b) := by
  unfold eval_Bin.f bin
  rw [beq_dec, flag_eq, flag_eq]
  repeat' split
  all_goals first | rfl | simp_all
theorem mul_natAbs (a b : Int) (s : Bool) (h : s = (decide (a < 0) != decide (b < 0))) : (if s then -((a.natAbs * b.natAbs : Nat) : Int) else ((a.natAbs * b.natAbs : Nat) : Int)) = a * b := by
  subst h
  rcases Int.natAbs_eq a with ea | ea <;> rcases Int.natAbs_eq b with eb | eb
  all_goals
    generalize a.natAbs = m at *
    generalize b.natAbs = n at *
    subst ea eb
    simp only [Int.natCast_mul]
  · have h1 : ¬ ((m : Int) < 0) := by omega
    have h2 : ¬ ((n : Int) < 0) := by omega
    simp [h1, h2]
  · have h1 : ¬ ((m : Int) < 0) := by omega
    by_cases h2 : -(n : Int) < 0
    · simp [h1]; rw [if_pos (by omega), Int.mul_neg]
    · have : n = 0 := by omega
      subst this; simp
  · have h1 : ¬ ((n : Int) < 0) := by omega
    by_cases h2 : -(m : Int) < 0
    · simp [h1]; rw [if_pos (by omega), Int.neg_mul]
    · have : m = 0 := by omega
      subst this; simp
  · by_cases h1 : -(m : Int) < 0 <;> by_cases h2 : -(n : Int) < 0
    · simp; rw [if_pos (by constructor <;> intro <;> omega), Int.neg_mul_neg]
    · have : n = 0 := by omega
      subst this; simp
    · have : m = 0 := by omega
      subst this; simp
    · have : m = 0 := by omega
      subst this; simp
theorem tdiv_natAbs (a b : Int) (s : Bool) (h : s = (decide (a < 0) != decide (b < 0))) : (if s then -((a.natAbs / b.natAbs : Nat) : Int) else ((a.natAbs / b.natAbs : Nat) : Int)) = Int.tdiv a b := by
  subst h
  rcases Int.natAbs_eq a with ea | ea <;> rcases Int.natAbs_eq b with eb | eb
  all_goals
    generalize a.natAbs = m at *
    generalize b.natAbs = n at *
    subst ea eb
  · have h1 : ¬ ((m : Int) < 0) := by omega
    have h2 : ¬ ((n : Int) < 0) := by omega
    simp [h1, h2]
  · have h1 : ¬ ((m : Int) < 0) := by omega
    by_cases h2 : -(n : Int) < 0
    · simp [h1, Int.tdiv_neg]; intro hn; omega
    · have : n = 0 := by omega
      subst this; simp
  · have h1 : ¬ ((n : Int) < 0) := by omega
    by_cases h2 : -(m : Int) < 0
    · simp [h1, Int.neg_tdiv]; intro hn; omega
    · have : m = 0 := by omega
      subst this; simp
  · by_cases h1 : -(m : Int) < 0 <;> by_cases h2 : -(n : Int) < 0
    · simp [Int.neg_tdiv, Int.tdiv_neg]; intro hn; exfalso; apply hn; constructor <;> intro <;> omega
    · have : n = 0 := by omega
      subst this; simp
    · have : m = 0 := by omega
      subst this; simp
    · have : m = 0 := by omega
      subst this; simp
theorem ref_ev (op a b : Int) (ha : In64 a) (hb : In64 b) : Ev (fun k => ballcockref23_Bin.f k op a b) (bin op a b) := by
  unfold ballcockref23_Bin.f bin
  rw [beq_dec, one_eq, one_eq]
  by_cases h0 : op = 0
  · rw [if_pos h0]; exact Ev_pos h0 (Ev.now _)
  rw [if_neg h0]; refine Ev_neg h0 ?_
  by_cases h1 : op = 1
  · rw [if_pos h1]; exact Ev_pos h1 (Ev.now _)
  rw [if_neg h1]; refine Ev_neg h1 ?_
  by_cases h2 : op = 2
  · rw [if_pos h2]; exact Ev_pos h2 (Ev.bind (sum_ev a b ha hb) (Ev.now _))
  rw [if_neg h2]; refine Ev_neg h2 ?_
  have la := len64 ha
  have lb := len64 hb
  by_cases h3 : op = 3
  · rw [if_pos h3]; refine Ev_pos h3 (Ev.bind (size_ev b hb.1 hb.2) (Ev.bind (wrap_ev _ (by omega) _) ?_))
    refine Ev.bind (sum_ev a _ ha (in_wrap _)) (Ev_some fun _ => ?_)
    rw [nv_bof]
    have : (if decide (b ≥ 0) = true then -(b.natAbs : Int) else (b.natAbs : Int)) = -b := by
      by_cases h : b ≥ 0
      · simp only [h, decide_true, if_true]; omega
      · simp only [h, decide_false, Bool.false_eq_true, if_false]; omega
    rw [this]
    congr 1
    unfold wrap64; omega
  rw [if_neg h3]; refine Ev_neg h3 ?_
  by_cases h4 : op = 4
  · rw [if_pos h4]
    have hm := mul_ev (bof a.natAbs) (bof b.natAbs) (by omega) (by omega)
    rw [nv_bof, nv_bof] at hm
    have hl : (bof (a.natAbs * b.natAbs)).length ≤ 64 + 64 := by
      have := bof_len_mul a.natAbs (bof b.natAbs) 64 la
      rw [nv_bof] at this; omega
    refine Ev_pos h4 (Ev.bind (size_ev a ha.1 ha.2) (Ev.bind (size_ev b hb.1 hb.2) (Ev.bind hm (Ev.bind (wrap_ev _ (by omega) _) (Ev_some fun _ => ?_)))))
    rw [nv_bof, mul_natAbs a b _ rfl]
  rw [if_neg h4]; refine Ev_neg h4 ?_
  by_cases h5 : op = 5
  · rw [if_pos h5]; refine Ev_pos h5 ?_
    by_cases hz : b = 0
    · rw [if_pos hz]; exact Ev_pos hz (Ev.now _)
    · rw [if_neg hz]; refine Ev_neg hz ?_
      have hd := divide_ev (bof a.natAbs) b.natAbs (by omega) (by omega) (by omega)
      rw [nv_bof] at hd
      have hl : (bof (a.natAbs / b.natAbs)).length ≤ 64 := length_bof_le (Nat.lt_of_le_of_lt (Nat.div_le_self _ _) (lt_of_length la))
      refine Ev.bind (size_ev a ha.1 ha.2) (Ev.bind (size_ev b hb.1 hb.2) (Ev.bind hd (Ev.bind (wrap_ev (bof (a.natAbs / b.natAbs)) (by omega) _) (Ev_some fun _ => ?_))))
      rw [nv_bof, tdiv_natAbs a b _ rfl]
  · rw [if_neg h5]; exact Ev_neg h5 (Ev.now _)
theorem last_ev (a b : Int) (ha : In64 a) (hb : In64 b) : Ev (fun k => ballcocklaw23_EvalPairs.l0 k a b 7) true := by
  refine Ev.step (fun k => by rw [ballcocklaw23_EvalPairs.l0]) ?_
  refine Ev_neg (by omega) ?_
  simp only [bin_eq, Option.bind_some]
  obtain ⟨a0, a1⟩ := ha
  obtain ⟨b0, b1⟩ := hb
  have e1 : bin 2 a b = wrap64 (a + b) := rfl
  have e2 : bin 3 (bin 2 a b) b = a := by
    rw [e1]
    show wrap64 (wrap64 (a + b) - b) = a
    unfold wrap64; omega
  have e3 : bin 2 b a = bin 2 a b := by show wrap64 (b + a) = wrap64 (a + b); rw [Int.add_comm]
  have e4 : bin 4 b a = bin 4 a b := by show wrap64 (b * a) = wrap64 (a * b); rw [Int.mul_comm]
  have e5 : wrap64 (wrap64 (bin 0 a b + bin 0 b a) + bin 1 a b) = 1 := by
    show wrap64 (wrap64 ((if a < b then 1 else 0) + (if b < a then 1 else 0)) + (if a = b then 1 else 0)) = 1
    rcases Int.lt_trichotomy a b with h | h | h
    · rw [if_pos h, if_neg (by omega), if_neg (by omega)]; decide +kernel
    · rw [if_neg (by omega), if_neg (by omega), if_pos h]; decide +kernel
    · rw [if_neg (by omega), if_pos h, if_neg (by omega)]; decide +kernel
  refine Ev_some fun _ => ?_
  rw [if_pos e2, if_pos e3, if_pos e4, if_pos e5]
  by_cases hz : b = 0
  · rw [if_pos hz]
    have : bin 5 a b = 0 := by subst hz; rfl
    rw [this]; rfl
  · rw [if_neg hz]
theorem rounds_ev (a b : Int) (ha : In64 a) (hb : In64 b) (d : Nat) : ∀ op : Int, op + d = 7 → -1 ≤ op → Ev (fun k => ballcocklaw23_EvalPairs.l0 k a b op) true := by
  induction d with
  | zero =>
    intro op h _
    obtain rfl : op = 7 := by omega
    exact last_ev a b ha hb
  | succ d ih =>
    intro op h h1
    have hw : wrap64 (op + 1) = op + 1 := by unfold wrap64; omega
    refine Ev.step (fun k => by rw [ballcocklaw23_EvalPairs.l0, hw]) ?_
    refine Ev_pos (by omega) (Ev_bnd (bin_eq op a b) (Ev.bind (ref_ev op a b ha hb) (Ev_pos rfl ?_)))
    exact ih (op + 1) (by omega) (by omega)
theorem awake_eq : ballcocklaw23_awake.f = some true := by
  unfold ballcocklaw23_awake.f
  simp only [bin_eq, Option.bind_some]
  decide +kernel
theorem in_of_wf {a : Int} (h : (Lit.int .i64 a).wf = true) : In64 a := by
  simp [Lit.wf, IntKind.min, IntKind.max, IntKind.signed, IntKind.bits] at h
  unfold In64; omega
theorem pure_holds : ballcocklaw23_EvalPairs.Pure := by
  intro a b ha hb
  apply Ev.rounds
  unfold ballcocklaw23_EvalPairs.f
  refine Ev_bnd awake_eq (Ev_pos rfl ?_)
  exact rounds_ev a b (in_of_wf ha) (in_of_wf hb) 8 (-1) (by omega) (by omega)
end Go.Proofs.Ytbnligfjcmmjpaa.PEvalPairs
