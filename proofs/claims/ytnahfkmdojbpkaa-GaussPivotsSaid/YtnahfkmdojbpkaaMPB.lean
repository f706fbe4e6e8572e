import Derived.Test.YtnahfkmdojbpkaaMPA
import Derived.Test.YtnahfkmdojbpkaaMO
/-! Plain laws. -/
set_option linter.all false
set_option maxRecDepth 10000
namespace Go.E
open Go Go.Proofs Go.Eng
theorem wf64 {a : Int} (h : (Lit.int .i64 a).wf = true) : BallQ.In64 a := by
  simp [Lit.wf, IntKind.min, IntKind.max, IntKind.signed, IntKind.bits] at h
  exact ⟨by omega, by omega⟩
theorem okR {r : TRat} (h : okTRat r) : in64R r := ⟨wf64 h.1, wf64 h.2.1⟩
def sm (l : List TTerm) : Bool := l.all (fun t => decide (t.f0.length ≤ 12)) && decide (l.length ≤ 12)
theorem smallP {l : List TTerm} (h : l.length * 40 ≤ 140737488351232) : m_law03_small l = some (sm l) := by
  unfold m_law03_small
  have main := loopO_first (b := m_law03_small_L0 l) (fun i : Nat => (i : Int)) l.length (fun i => !decide ((tAt l i).f0.length ≤ 12)) (fun _ => false) () ?_ ?_
  · rw [show ((0 : Int)) = ((0 : Nat) : Int) from rfl, main]
    unfold sm
    cases hq : fst l.length (fun i => !decide ((tAt l i).f0.length ≤ 12)) with
    | some i =>
      obtain ⟨h1, h2⟩ := fst_some hq
      have : l.all (fun t => decide (t.f0.length ≤ 12)) = false := List.all_eq_false.2 ⟨tAt l i, by rw [← t_of h1]; exact List.getElem_mem h1, by simpa using h2⟩
      rw [this]; rfl
    | none =>
      have hn := fst_none.1 hq
      have : l.all (fun t => decide (t.f0.length ≤ 12)) = true := by
        rw [List.all_eq_true]
        intro x hx
        obtain ⟨i, hi, rfl⟩ := List.getElem_of_mem hx
        have := hn i hi
        rw [t_of hi]; simpa using this
      rw [this, Bool.true_and]
      simp only [some_bind']
      rw [show decide ((l.length : Int) ≤ 12) = decide (l.length ≤ 12) from decide_eq_decide.2 (by omega)]
  · intro i hi _
    unfold m_law03_small_L0 m_ref02_Small
    dsimp only
    rw [decide_eq_true (show (i : Int) < (l.length : Int) by omega), ifB_true, t_gi hi, wrap_succ (by omega)]
    simp only [some_bind']
    rw [show decide (((tAt l i).f0.length : Int) ≤ 12) = decide ((tAt l i).f0.length ≤ 12) from decide_eq_decide.2 (by omega)]
    cases decide ((tAt l i).f0.length ≤ 12) <;> rfl
  · intro _
    unfold m_law03_small_L0
    dsimp only
    rw [decide_eq_false (by omega)]; rfl
theorem small_in {l : List TTerm} (h : l.length * 40 ≤ 140737488351232 ∧ ∀ z ∈ l, okTTerm z) (hs : sm l = true) : inL l ∧ l.length ≤ 12 := by
  unfold sm at hs
  simp only [Bool.and_eq_true, List.all_eq_true, decide_eq_true_eq] at hs
  refine ⟨fun t ht => ?_, hs.2⟩
  obtain ⟨⟨_, h1⟩, h2, _⟩ := h.2 t ht
  exact ⟨okR h2, fun r hr => okR (h1 r hr), by have := hs.1 t ht; omega⟩
theorem eqR_self {r : TRat} : eqTRat r r = true := by unfold eqTRat; simp
theorem equal_self {t : TTerm} (h : t.f0.length ≤ 1000) : m_ref02_Equal t t = some true := by
  unfold m_ref02_Equal
  rw [eqR_self, decide_eq_true rfl]
  simp only [Bool.not_true, ifB_false, some_bind']
  have main := loopO_first (b := m_ref02_Equal_L0 t t) (fun i : Nat => (i : Int)) t.f0.length (fun _ => false) (fun _ => false) () ?_ ?_
  · rw [show ((0 : Int)) = ((0 : Nat) : Int) from rfl, main, fst_none.2 fun i _ => rfl]; rfl
  · intro i hi _
    unfold m_ref02_Equal_L0
    dsimp only
    rw [decide_eq_true (show (i : Int) < (t.f0.length : Int) by omega), ifB_true, gi_of hi, wrap_succ (by omega)]
    simp only [some_bind', eqR_self]
    rfl
  · intro _
    unfold m_ref02_Equal_L0
    dsimp only
    rw [decide_eq_false (by omega)]; rfl
theorem same_self {l : List TTerm} (h : inL l) (hl : l.length ≤ 1000) : m_ref03_Same l l = some true := by
  unfold m_ref03_Same
  rw [decide_eq_true rfl]
  simp only [Bool.not_true, ifB_false]
  have main := loopO_first (b := m_ref03_Same_L0 l l) (fun i : Nat => (i : Int)) l.length (fun _ => false) (fun _ => false) () ?_ ?_
  · rw [show ((0 : Int)) = ((0 : Nat) : Int) from rfl, main, fst_none.2 fun i _ => rfl]; rfl
  · intro i hi _
    unfold m_ref03_Same_L0
    dsimp only
    rw [decide_eq_true (show (i : Int) < (l.length : Int) by omega), ifB_true, gi_of hi, wrap_succ (by omega)]
    simp only [some_bind', equal_self (h _ (List.getElem_mem hi)).len]
    rfl
  · intro _
    unfold m_ref03_Same_L0
    dsimp only
    rw [decide_eq_false (by omega)]; rfl
theorem ints_self {l : List Int} (hl : l.length ≤ 1000) : m_ref03_Ints l l = some true := by
  unfold m_ref03_Ints
  rw [decide_eq_true rfl]
  simp only [Bool.not_true, ifB_false]
  have main := loopO_first (b := m_ref03_Ints_L0 l l) (fun i : Nat => (i : Int)) l.length (fun _ => false) (fun _ => false) () ?_ ?_
  · rw [show ((0 : Int)) = ((0 : Nat) : Int) from rfl, main, fst_none.2 fun i _ => rfl]; rfl
  · intro i hi _
    unfold m_ref03_Ints_L0
    dsimp only
    rw [decide_eq_true (show (i : Int) < (l.length : Int) by omega), ifB_true, gi_of hi, wrap_succ (by omega)]
    simp only [some_bind', decide_true, Bool.not_true, ifB_false]
    rfl
  · intro _
    unfold m_ref03_Ints_L0
    dsimp only
    rw [decide_eq_false (by omega)]; rfl
theorem idxI {l : List Int} {x : Int} (hl : l.length ≤ 1000) : m_slices_Contains_int l x = some (l.any fun y => decide (x = y)) := by
  unfold m_slices_Contains_int m_slices_Index_int
  rw [show ((0 : Int)) = ((0 : Nat) : Int) from rfl, loopO_first (b := m_slices_Index_int_L0 l x) (fun i : Nat => (i : Int)) l.length (fun i => match l[i]? with | some o => decide (x = o) | none => false) (fun i => (i : Int)) () ?_ ?_]
  · cases hq : fst l.length (fun i => match l[i]? with | some o => decide (x = o) | none => false) with
    | none =>
      rw [fst_none] at hq
      have : l.any (fun y => decide (x = y)) = false := by
        rw [List.any_eq_false]
        intro x hx
        obtain ⟨i, hi, rfl⟩ := List.getElem_of_mem hx
        have := hq i hi
        rw [List.getElem?_eq_getElem hi] at this
        simpa using this
      rw [this]; rfl
    | some i =>
      obtain ⟨h1, h2⟩ := fst_some hq
      rw [List.getElem?_eq_getElem h1] at h2
      have : l.any (fun y => decide (x = y)) = true := List.any_eq_true.2 ⟨_, List.getElem_mem h1, h2⟩
      rw [this]
      simp only [some_bind']
      rw [decide_eq_true (show ((0 : Nat) : Int) ≤ (i : Int) by omega)]
  · intro i hi _
    unfold m_slices_Index_int_L0
    simp only [lt_cast, decide_eq_true hi, ifB_true, gi_of hi, some_bind', List.getElem?_eq_getElem hi]
    rw [wrap_succ (by omega)]
    cases decide (x = l[i]) <;> rfl
  · intro _
    unfold m_slices_Index_int_L0
    simp only [lt_cast, Nat.lt_irrefl, decide_false, ifB_false]
def freeP (l : List Int) (n : Nat) : List Int := ((List.range n).filter fun (u : Nat) => !(l.any fun y => decide ((u : Int) = y))).map fun (u : Nat) => (u : Int)
theorem free_len {l : List Int} {n : Nat} : (freeP l n).length ≤ n := by
  unfold freeP
  rw [List.length_map]
  exact Nat.le_trans (List.length_filter_le _ _) (by simp)
theorem freeE {l : List Int} (hl : l.length ≤ 1000) : m_gauss_Free l = some (freeP l 8) := by
  unfold m_gauss_Free
  have main := loopO_count (b := m_gauss_Free_L0 l) 8 (fun i s => s = (freeP l i, (i : Int))) (fun x => x = freeP l 8) ?_ ?_ (s := ([], 0)) rfl
  · obtain ⟨_, h, rfl⟩ := main
    rw [h]; rfl
  · rintro i _ hi rfl
    left
    unfold m_gauss_Free_L0
    dsimp only
    rw [decide_eq_true (show (i : Int) < 8 by omega), ifB_true, idxI hl, wrap_succ (by omega)]
    simp only [some_bind']
    have e : freeP l (i + 1) = freeP l i ++ (if (l.any fun y => decide ((i : Int) = y)) then [] else [(i : Int)]) := by
      unfold freeP
      rw [List.range_succ, List.filter_append, List.map_append]
      congr 1
      cases hq : (l.any fun y => decide ((i : Int) = y)) <;> simp [List.filter_cons, hq]
    rw [e]
    have fl := free_len (l := l) (n := i)
    cases l.any fun y => decide ((i : Int) = y) with
    | true =>
      simp only [Bool.not_true, ifB_false, some_bind', if_true, List.append_nil]
      exact ⟨_, rfl, rfl⟩
    | false =>
      simp only [Bool.not_false, ifB_true]
      rw [rq_true (decide_eq_true (by simp; omega))]
      exact ⟨_, rfl, rfl⟩
  · rintro _ rfl
    unfold m_gauss_Free_L0
    dsimp only
    rw [decide_eq_false (by omega)]
    exact ⟨_, rfl, rfl⟩
abbrev w1 : List TTerm := [⟨[⟨1, 1⟩, ⟨1, 1⟩], ⟨-1, 1⟩⟩, ⟨[⟨1, 1⟩, ⟨-1, 1⟩], ⟨0, 1⟩⟩]
abbrev w2 : List TTerm := [⟨[], ⟨1, 1⟩⟩]
theorem in64T_of {t : TTerm} (h : (decide (t.f0.length ≤ 1000) && decide (in64R t.f1) && t.f0.all fun r => decide (in64R r)) = true) : in64T t := by
  simp only [Bool.and_eq_true, decide_eq_true_eq, List.all_eq_true] at h
  exact ⟨h.1.2, h.2, h.1.1⟩
theorem w1_in : inL w1 := fun t ht => by
  simp only [List.mem_cons, List.not_mem_nil, or_false] at ht
  rcases ht with rfl | rfl <;> exact in64T_of (by decide +kernel)
theorem w2_in : inL w2 := fun t ht => by
  simp only [List.mem_cons, List.not_mem_nil, or_false] at ht
  rcases ht with rfl; exact in64T_of (by decide +kernel)
theorem awakeE : m_law03_awake = some true := by
  unfold m_law03_awake
  rw [show ([(⟨[(⟨1, 1⟩ : TRat), (⟨1, 1⟩ : TRat)], (⟨-1, 1⟩ : TRat)⟩ : TTerm), (⟨[(⟨1, 1⟩ : TRat), (⟨-1, 1⟩ : TRat)], (⟨0, 1⟩ : TRat)⟩ : TTerm)]) = w1 from rfl, show ([(⟨[], (⟨1, 1⟩ : TRat)⟩ : TTerm)]) = w2 from rfl, solveE w1_in (by decide), solveE w2_in (by decide)]
  have e1 : (solP w1).2.2 = 0 := by decide +kernel
  have e2 : (solP w2).2.2 = 1 := by decide +kernel
  have e3 : (solP w1).1.length = 2 := by decide +kernel
  have e4 : (solP w1).2.1 = [0, 1] := by decide +kernel
  have e5 : eqTRat (tAt (solP w1).1 0).f1 ⟨-1, 2⟩ = true := by decide +kernel
  have e6 : eqTRat (tAt (solP w1).1 1).f1 ⟨-1, 2⟩ = true := by decide +kernel
  simp only [some_bind']
  rw [e1, e2, e4, show ((0 : Int)) = ((0 : Nat) : Int) from rfl, show ((1 : Int)) = ((1 : Nat) : Int) from rfl, t_gi (show 0 < (solP w1).1.length by omega), t_gi (show 1 < (solP w1).1.length by omega), e3, freeE (by decide)]
  simp only [some_bind']
  rw [show ((1 : Nat) : Int) = 1 from rfl, show ((0 : Nat) : Int) = 0 from rfl]
  show ifB (eqTRat (tAt (solP w1).1 0).f1 ⟨-1, 2⟩) (ifB (eqTRat (tAt (solP w1).1 1).f1 ⟨-1, 2⟩) _ _) _ = some true
  rw [e5, e6]
  decide +kernel
theorem sol_len {l : List TTerm} (hl : l.length ≤ 12) : (solP l).1.length ≤ 8 ∧ (solP l).2.1.length = (solP l).1.length := by
  unfold solP
  split
  · exact ⟨Nat.zero_le _, rfl⟩
  · split
    · exact ⟨Nat.zero_le _, rfl⟩
    · rename_i r _
      unfold endP
      split
      · exact ⟨Nat.zero_le _, rfl⟩
      · have := pairs_len (rows := r) (v := 8)
        dsimp only
        unfold usedR
        refine ⟨by rw [List.length_map, List.length_map]; exact this, by simp⟩
theorem used_in {r : List Row} (h : goodL r) : inL ((usedR r).map fun x => x.f0) := by
  intro t ht
  obtain ⟨x, hx, rfl⟩ := List.mem_map.1 ht
  unfold usedR at hx
  obtain ⟨p, _, rfl⟩ := List.mem_map.1 hx
  exact h p.1
theorem sol_in {l : List TTerm} (h : inL l) : inL (solP l).1 := by
  unfold solP
  split
  · exact fun _ h => by cases h
  · split
    · exact fun _ h => by cases h
    · rename_i r hr
      rw [List.range_eq_range'] at hr
      have hw := (run_W 8 0 _ _ (start_W h) hr).1
      unfold endP
      split
      · exact fun _ h => by cases h
      · exact used_in hw.g
theorem P_GaussSolves (a0 : List TTerm) (h : a0.length * 40 ≤ 140737488351232 ∧ ∀ z ∈ a0, okTTerm z) : m_law03_GaussSolves a0 = some true := by
  unfold m_law03_GaussSolves
  rw [awakeE, smallP h.1]
  simp only [some_bind', Bool.not_true, ifB_false]
  cases hs : sm a0 with
  | false => rfl
  | true =>
    obtain ⟨hi, hl⟩ := small_in h hs
    have sl := sol_len hl
    simp only [Bool.not_true, ifB_false, solveE hi hl, solveF hi hl, some_bind', decide_true, ifB_true, same_self (sol_in hi) (by omega), ints_self (l := (solP a0).2.1) (by omega)]
def qv (r : TRat) : Rat := BallQ.q r.f0 r.f1
theorem rr_right {r : TRat} (h : rr r = true) : BallQ.Right r.f0 r.f1 := of_decide_eq_true h
theorem qv_inj {a b : TRat} (ha : in64R a) (hb : in64R b) (ra : rr a = true) (rb : rr b = true) (e : qv a = qv b) : a = b := by
  obtain ⟨h1, h2⟩ := BallQ.right_inj (rr_right ra) ha.1 ha.2 (rr_right rb) hb.1 hb.2 e
  cases a; cases b; cases h1; cases h2; rfl
theorem qv_zero {r : TRat} (h : rr r = true) : r.f0 = 0 ↔ qv r = 0 := by
  unfold qv BallQ.q
  obtain ⟨h0, _, _⟩ := rr_right h
  rw [Rat.mkRat_eq_zero (by omega)]
theorem qv_n : qv ⟨0, 1⟩ = 0 := by decide +kernel
theorem qv_1 : qv ⟨1, 1⟩ = 1 := by decide +kernel
theorem out_q {x : Rat} (h : (toR (BallQ.out x)).2 = 0) : qv (toR (BallQ.out x)).1 = x := by
  by_cases hf : BallQ.fits x
  · rw [out_ok hf]; exact BallQ.q_self x
  · rw [out_over hf] at h; cases h
theorem addR_q {a b : TRat} (h : (addR a b).2 = 0) : rr a = true ∧ rr b = true ∧ qv (addR a b).1 = qv a + qv b := by
  unfold addR addS at h ⊢
  split at h
  · rename_i hc
    rw [if_pos hc]
    exact ⟨decide_eq_true hc.1, decide_eq_true hc.2, out_q h⟩
  · cases h
theorem mulR_q {a b : TRat} (h : (mulR a b).2 = 0) : rr a = true ∧ rr b = true ∧ qv (mulR a b).1 = qv a * qv b := by
  unfold mulR mulS at h ⊢
  split at h
  · rename_i hc
    rw [if_pos hc]
    exact ⟨decide_eq_true hc.1, decide_eq_true hc.2, out_q h⟩
  · cases h
theorem inv_q {n d : Int} (h : BallQ.Right n d) (hz : n ≠ 0) : BallQ.q (invN n d) (n.natAbs : Int) = (BallQ.q n d)⁻¹ := by
  obtain ⟨h0, _, _⟩ := h
  unfold BallQ.q
  rw [BallQ.q_div, BallQ.q_div]
  obtain ⟨D, rfl⟩ : ∃ D : Nat, d = (D : Int) := ⟨d.toNat, by omega⟩
  have hD : (D : Rat) ≠ 0 := BallQ.cast_ne (by omega)
  rw [Int.toNat_natCast, Int.toNat_natCast]
  unfold invN
  by_cases hn : n < 0
  · rw [if_pos hn]
    obtain ⟨N, rfl⟩ : ∃ N : Nat, n = -(N : Int) := ⟨n.natAbs, by omega⟩
    have hN : (N : Rat) ≠ 0 := BallQ.cast_ne (by omega)
    rw [Int.natAbs_neg, Int.natAbs_natCast]
    simp only [Rat.intCast_neg, Rat.intCast_natCast]
    grind
  · rw [if_neg hn]
    obtain ⟨N, rfl⟩ : ∃ N : Nat, n = (N : Int) := ⟨n.natAbs, by omega⟩
    have hN : (N : Rat) ≠ 0 := BallQ.cast_ne (by omega)
    rw [Int.natAbs_natCast]
    simp only [Rat.intCast_natCast]
    grind
theorem divR_q {a b : TRat} (hb : in64R b) (h : (divR a b).2 = 0) : rr a = true ∧ rr b = true ∧ qv b ≠ 0 ∧ qv (divR a b).1 = qv a * (qv b)⁻¹ := by
  unfold divR divS at h ⊢
  split at h
  · rename_i hc
    rw [if_pos hc]
    unfold mulS at h ⊢
    split at h
    · rename_i hc2
      rw [if_pos hc2]
      refine ⟨decide_eq_true hc.1, decide_eq_true hc.2.1, fun e => hc.2.2 ((qv_zero (decide_eq_true hc.2.1)).2 e), ?_⟩
      rw [out_q h, inv_q hc.2.1 hc.2.2]; rfl
    · cases h
  · cases h
theorem neg_q {c : TRat} (hc : in64R c) (h : rr c = true) : rr (neg c) = true ∧ qv (neg c) = -qv c := by
  have hr := rr_right h
  have e : neg c = ⟨-c.f0, c.f1⟩ := by
    unfold neg
    obtain ⟨⟨n1, n2⟩, _⟩ := hc
    have := hr.2.1
    rw [wrap_i64 (by omega) (by omega)]; simp
  rw [e]
  have := right_neg hr hc.1
  exact ⟨decide_eq_true this.1, this.2.2⟩
def V (t : TTerm) (i : Nat) : Rat := qv (atT t i)
def K (t : TTerm) : Rat := qv t.f1
def Cn (t : TTerm) : Prop := ∀ n, t.f0.length = n + 1 → (atT t n).f0 ≠ 0
structure Ok (t : TTerm) : Prop where
  i : in64T t
  r : rt t = true
  c : Cn t
theorem cut_zero {l : List TRat} : ∀ {n : Nat}, n ≤ l.length → ∀ i (h : i < l.length), i < n → cutN l n ≤ i → (l[i]).f0 = 0 := by
  intro n
  induction n with
  | zero => intro _ i _ hi; omega
  | succ n ih =>
    intro hn i h hi hc
    rw [cutN_succ (by omega)] at hc
    by_cases hz : (l[n]).f0 = 0
    · rw [if_pos hz] at hc
      by_cases e : i = n
      · subst e; exact hz
      · exact ih (by omega) i h (by omega) hc
    · rw [if_neg hz] at hc; omega
theorem cut_last {l : List TRat} : ∀ {n : Nat}, n ≤ l.length → ∀ m, cutN l n = m + 1 → ∃ h : m < l.length, (l[m]).f0 ≠ 0 := by
  intro n
  induction n with
  | zero => intro _ m h; cases h
  | succ n ih =>
    intro hn m h
    rw [cutN_succ (by omega)] at h
    by_cases hz : (l[n]).f0 = 0
    · rw [if_pos hz] at h; exact ih (by omega) m h
    · rw [if_neg hz] at h
      obtain rfl : n = m := by omega
      exact ⟨by omega, hz⟩
theorem trim_at {t : TTerm} {i : Nat} : atT (trimT t) i = if i < cutN t.f0 t.f0.length then atT t i else ⟨0, 1⟩ := by
  unfold atT trimT
  dsimp only
  rw [List.getElem?_take]
  split <;> rfl
theorem trim_V {t : TTerm} (h : rt t = true) (i : Nat) : V (trimT t) i = V t i := by
  unfold V
  rw [trim_at]
  split
  · rfl
  · rename_i hc
    by_cases hi : i < t.f0.length
    · have hz := cut_zero (Nat.le_refl _) i hi hi (by omega)
      have ha := at_rr h i
      have e : atT t i = t.f0[i] := by unfold atT; rw [List.getElem?_eq_getElem hi]; rfl
      rw [e] at ha ⊢
      rw [qv_n, (qv_zero ha).1 hz]
    · unfold atT; rw [List.getElem?_eq_none (by omega)]; rfl
theorem trim_cn {t : TTerm} : Cn (trimT t) := by
  intro n h
  have hc := cutN_le t.f0 t.f0.length
  unfold trimT at h
  dsimp only at h
  rw [List.length_take] at h
  obtain ⟨h1, h2⟩ := cut_last (Nat.le_refl _) n (show cutN t.f0 t.f0.length = n + 1 by omega)
  rw [trim_at, if_pos (by omega)]
  unfold atT
  rw [List.getElem?_eq_getElem h1]; exact h2
theorem lst_at {f : Nat → TRat × Int} {k : TRat} {n i : Nat} : atT ⟨lst f n, k⟩ i = if i < n then (f i).1 else ⟨0, 1⟩ := by
  unfold atT lst
  dsimp only
  rw [List.getElem?_map]
  by_cases h : i < n
  · rw [List.getElem?_range h, if_pos h]; rfl
  · rw [List.getElem?_eq_none (by rw [List.length_range]; omega), if_neg h]; rfl
theorem each_ok {k : TRat × Int} {f : Nat → TRat × Int} {n : Nat} (h : n ≤ 8) (hk : in64R k.1 ∧ (k.2 = 0 → rr k.1 = true)) (hf : ∀ i, in64R (f i).1 ∧ ((f i).2 = 0 → rr (f i).1 = true)) (e : (eachT k f n).2 = 0) :
    Ok (eachT k f n).1 ∧ k.2 = 0 ∧ (∀ i, i < n → (f i).2 = 0) ∧ K (eachT k f n).1 = qv k.1 ∧ ∀ i, V (eachT k f n).1 i = if i < n then qv (f i).1 else 0 := by
  have g := each_good h hk hf
  unfold eachT at e g ⊢
  by_cases hz : k.2 = 0
  · rw [if_pos hz] at e g ⊢
    cases hq : fst n (bad f) with
    | some i =>
      rw [hq] at e
      have := (fst_some hq).2
      unfold bad at this
      simp at this
      exact absurd e this
    | none =>
      have hb0 := fst_none.1 hq
      have hz2 : ∀ i, i < n → (f i).2 = 0 := fun i hi => by have := hb0 i hi; unfold bad at this; simpa using this
      rw [hq] at g
      have hr := lst_rt (f := f) h (hk.2 hz) fun i hi => (hf i).2 (hz2 i hi)
      refine ⟨⟨g.1, g.2 rfl, trim_cn⟩, hz, hz2, rfl, fun i => ?_⟩
      dsimp only
      rw [trim_V hr]
      unfold V
      rw [lst_at]
      split
      · rfl
      · exact qv_n
  · rw [if_neg hz] at e; exact absurd e hz
theorem at_far {t : TTerm} {i : Nat} (h : t.f0.length ≤ i) : V t i = 0 := by
  unfold V atT; rw [List.getElem?_eq_none h]; exact qv_n
theorem addT_q {a b : TTerm} (h : (addT a b).2 = 0) : Ok (addT a b).1 ∧ K (addT a b).1 = K a + K b ∧ ∀ i, V (addT a b).1 i = V a i + V b i := by
  unfold addT at h ⊢
  split at h
  · rename_i hc
    rw [if_pos hc]
    simp only [Bool.and_eq_true] at hc
    have h1 := rt_len hc.1
    have h2 := rt_len hc.2
    obtain ⟨o, k0, f0, kq, vq⟩ := each_ok (by omega) (add_good _ _) (fun i => add_good _ _) h
    refine ⟨o, by rw [kq]; exact (addR_q k0).2.2, fun i => ?_⟩
    rw [vq]
    split
    · rename_i hi; exact (addR_q (f0 i hi)).2.2
    · rw [at_far (by omega), at_far (by omega)]; grind
  · cases h
theorem mulT_q {a : TTerm} {r : TRat} (h : (mulT a r).2 = 0) : rr r = true ∧ Ok (mulT a r).1 ∧ K (mulT a r).1 = K a * qv r ∧ ∀ i, V (mulT a r).1 i = V a i * qv r := by
  unfold mulT at h ⊢
  split at h
  · rename_i hc
    rw [if_pos hc]
    simp only [Bool.and_eq_true] at hc
    have h1 := rt_len hc.1
    obtain ⟨o, k0, f0, kq, vq⟩ := each_ok (by omega) (mul_good _ _) (fun i => mul_good _ _) h
    refine ⟨hc.2, o, by rw [kq]; exact (mulR_q k0).2.2, fun i => ?_⟩
    rw [vq]
    split
    · rename_i hi; exact (mulR_q (f0 i hi)).2.2
    · rw [at_far (by omega)]; grind
  · cases h
theorem lessT_q {a p : TTerm} {c : TRat} (hc : in64R c) (rc : rr c = true) (h : (lessT a p c).2 = 0) : Ok (lessT a p c).1 ∧ K (lessT a p c).1 = K a - qv c * K p ∧ ∀ i, V (lessT a p c).1 i = V a i - qv c * V p i := by
  unfold lessT at h ⊢
  split at h
  · rename_i hm
    rw [if_pos hm]
    obtain ⟨_, _, mk, mv⟩ := mulT_q hm
    obtain ⟨o, ak, av⟩ := addT_q h
    obtain ⟨_, hn⟩ := neg_q hc rc
    refine ⟨o, by rw [ak, mk, hn]; grind, fun i => by rw [av, mv, hn]; grind⟩
  · rename_i hm; exact absurd h hm
theorem ok_eq {a b : TTerm} (ha : Ok a) (hb : Ok b) (hk : K a = K b) (hv : ∀ i, V a i = V b i) : a = b := by
  have hl : a.f0.length = b.f0.length := by
    rcases Nat.lt_trichotomy a.f0.length b.f0.length with h | h | h
    · exfalso
      have h1 := hb.c (b.f0.length - 1) (by omega)
      have h2 := hv (b.f0.length - 1)
      rw [at_far (by omega)] at h2
      exact h1 ((qv_zero (at_rr hb.r _)).2 h2.symm)
    · exact h
    · exfalso
      have h1 := ha.c (a.f0.length - 1) (by omega)
      have h2 := hv (a.f0.length - 1)
      rw [at_far (t := b) (by omega)] at h2
      exact h1 ((qv_zero (at_rr ha.r _)).2 h2)
  have e1 : a.f1 = b.f1 := by
    have r1 := ha.r; have r2 := hb.r
    unfold rt at r1 r2
    simp only [Bool.and_eq_true] at r1 r2
    exact qv_inj ha.i.k hb.i.k r1.1.2 r2.1.2 hk
  have e0 : a.f0 = b.f0 := by
    apply List.ext_getElem hl
    intro i h1 h2
    have e := qv_inj (at_in ha.i i) (at_in hb.i i) (at_rr ha.r i) (at_rr hb.r i) (hv i)
    unfold atT at e
    rw [List.getElem?_eq_getElem h1, List.getElem?_eq_getElem h2] at e
    exact e
  cases a; cases b; cases e0; cases e1; rfl
theorem own_q {t : TTerm} (h : in64T t) (hr : rt t = true) : Ok (ownT t) ∧ K (ownT t) = K t ∧ ∀ i, V (ownT t) i = V t i := by
  unfold ownT
  rw [if_pos hr]
  exact ⟨⟨trim_in h, trim_rt hr, trim_cn⟩, rfl, trim_V hr⟩
theorem own_ok {t : TTerm} (h : Ok t) : ownT t = t := by
  obtain ⟨o, k, v⟩ := own_q h.i h.r
  exact ok_eq o h k v
def Sm : Nat → (Nat → Rat) → Rat
  | 0, _ => 0
  | n + 1, f => Sm n f + f n
theorem Sm_congr {n : Nat} {f g : Nat → Rat} (h : ∀ i, i < n → f i = g i) : Sm n f = Sm n g := by
  induction n with
  | zero => rfl
  | succ n ih => unfold Sm; rw [ih fun i hi => h i (by omega), h n (by omega)]
theorem Sm_sub {n : Nat} {f g : Nat → Rat} {c : Rat} : Sm n (fun i => f i - c * g i) = Sm n f - c * Sm n g := by
  induction n with
  | zero => unfold Sm; grind
  | succ n ih => unfold Sm; rw [ih]; grind
theorem Sm_mul {n : Nat} {f : Nat → Rat} {c : Rat} : Sm n (fun i => f i * c) = Sm n f * c := by
  induction n with
  | zero => unfold Sm; grind
  | succ n ih => unfold Sm; rw [ih]; grind
theorem Sm_zero {n : Nat} {f : Nat → Rat} (h : ∀ i, i < n → f i = 0) : Sm n f = 0 := by
  induction n with
  | zero => rfl
  | succ n ih => unfold Sm; rw [ih fun i hi => h i (by omega), h n (by omega)]; grind
theorem Sm_one {n u : Nat} {f : Nat → Rat} (hu : u < n) (h : ∀ i, i < n → i ≠ u → f i = 0) : Sm n f = f u := by
  induction n with
  | zero => omega
  | succ n ih =>
    unfold Sm
    by_cases e : u = n
    · subst e
      rw [Sm_zero fun i hi => h i (by omega) (by omega)]; grind
    · rw [ih (by omega) fun i hi hne => h i (by omega) hne, h n (by omega) (fun x => e x.symm)]; grind
def ev (t : TTerm) (x : Nat → Rat) : Rat := K t + Sm 8 fun i => V t i * x i
theorem ev_congr {t : TTerm} {x y : Nat → Rat} (h : ∀ i, i < 8 → V t i * x i = V t i * y i) : ev t x = ev t y := by
  unfold ev; rw [Sm_congr h]
theorem ev_less {a p t : TTerm} {c : Rat} {x : Nat → Rat} (hk : K t = K a - c * K p) (hv : ∀ i, V t i = V a i - c * V p i) : ev t x = ev a x - c * ev p x := by
  unfold ev
  rw [hk, Sm_congr (g := fun i => V a i * x i - c * (V p i * x i)) fun i _ => by rw [hv]; grind, Sm_sub]; grind
theorem ev_mul {a t : TTerm} {c : Rat} {x : Nat → Rat} (hk : K t = K a * c) (hv : ∀ i, V t i = V a i * c) : ev t x = ev a x * c := by
  unfold ev
  rw [hk, Sm_congr (g := fun i => V a i * x i * c) fun i _ => by rw [hv]; grind, Sm_mul]; grind
theorem ev_own {t : TTerm} {x : Nat → Rat} (h : in64T t) (hr : rt t = true) : ev (ownT t) x = ev t x := by
  obtain ⟨_, k, v⟩ := own_q h hr
  unfold ev
  rw [k, Sm_congr fun i _ => by rw [v]]
theorem take_q {rows r : List Row} {a v : Nat} (ha : a < rows.length) (hg : goodL rows) (hok : ∀ i, i < rows.length → Ok (rowAt rows i).f0) (e : takeP rows a v = some r) :
    ∃ p, V (rowAt rows a).f0 v ≠ 0 ∧ Ok p ∧ (K p = K (rowAt rows a).f0 * (V (rowAt rows a).f0 v)⁻¹ ∧ ∀ i, V p i = V (rowAt rows a).f0 i * (V (rowAt rows a).f0 v)⁻¹) ∧
      (rowAt r a).f0 = p ∧ ∀ i, i < rows.length → i ≠ a → Ok (rowAt r i).f0 ∧ K (rowAt r i).f0 = K (rowAt rows i).f0 - V (rowAt rows i).f0 v * K p ∧ ∀ j, V (rowAt r i).f0 j = V (rowAt rows i).f0 j - V (rowAt rows i).f0 v * V p j := by
  obtain ⟨hb, hbad, rfl⟩ := take_some e
  obtain ⟨p, hp⟩ : ∃ p, p = (pivT rows a v).1 := ⟨_, rfl⟩
  unfold pivB at hb
  simp only [Bool.and_eq_true, decide_eq_true_eq] at hb
  obtain ⟨h1, h2⟩ := hb
  obtain ⟨_, r1, nz, iq⟩ := divR_q (at_in (hg a) v) h1
  obtain ⟨_, pok, pk, pv⟩ := mulT_q h2
  have iq' : qv (invT rows a v).1 = (V (rowAt rows a).f0 v)⁻¹ := by
    show qv (divR ⟨1, 1⟩ _).1 = _
    rw [iq, qv_1]
    show 1 * (V (rowAt rows a).f0 v)⁻¹ = _
    grind
  refine ⟨p, nz, by rw [hp]; exact pok, ⟨by rw [hp, ← iq']; exact pk, fun i => by rw [hp, ← iq']; exact pv i⟩, ?_, fun i hi hne => ?_⟩
  · rw [row_mk ha]; unfold newR; rw [if_pos rfl, hp]
  · rw [row_mk hi]
    have hb := hbad i hi
    rw [← hp] at hb ⊢
    unfold newR
    rw [if_neg hne]
    by_cases hs : skip rows a v i = true
    · rw [if_pos hs]
      have hz : V (rowAt rows i).f0 v = 0 := by
        unfold skip at hs
        simp [hne] at hs
        exact (qv_zero (at_rr (hok i hi).r v)).1 hs
      rw [hz]
      exact ⟨hok i hi, by grind, fun j => by grind⟩
    · rw [if_neg hs]
      unfold badR at hb
      rw [Bool.not_eq_true] at hs
      rw [hs] at hb
      simp at hb
      exact lessT_q (at_in (hg i) v) (at_rr (hok i hi).r v) hb
structure Rf (rows : List Row) (v : Nat) : Prop where
  w : W rows v
  ok : ∀ i, i < rows.length → Ok (rowAt rows i).f0
  un : ∀ i, i < rows.length → key rows i = -1 → ∀ u, u < v → V (rowAt rows i).f0 u = 0
  pv : ∀ i (u : Nat), i < rows.length → key rows i = (u : Int) → V (rowAt rows i).f0 u = 1 ∧ (∀ w, w < u → V (rowAt rows i).f0 w = 0) ∧ ∀ j, j < rows.length → j ≠ i → V (rowAt rows j).f0 u = 0
def Sat (rows : List Row) (x : Nat → Rat) : Prop := ∀ i, i < rows.length → ev (rowAt rows i).f0 x = 0
theorem take_sat {rows r : List Row} {a v : Nat} {x : Nat → Rat} (h : Rf rows v) (ha : a < rows.length) (e : takeP rows a v = some r) : Sat r x ↔ Sat rows x := by
  obtain ⟨p, nz, pok, ⟨pk, pv⟩, pr, po⟩ := take_q ha h.w.g h.ok e
  have rl := (take_good h.w.g e).2
  have ep := ev_mul (x := x) pk pv
  have hz : ev p x = 0 ↔ ev (rowAt rows a).f0 x = 0 := by rw [ep]; grind
  constructor
  · intro hs i hi
    have hp : ev p x = 0 := by rw [← pr]; exact hs a (by omega)
    by_cases hne : i = a
    · subst hne; exact hz.1 hp
    · obtain ⟨_, k, w⟩ := po i hi hne
      have := ev_less (x := x) k w
      have h2 := hs i (by omega)
      rw [h2, hp] at this
      grind
  · intro hs i hi
    have hp : ev p x = 0 := hz.2 (hs a ha)
    by_cases hne : i = a
    · subst hne; rw [pr]; exact hp
    · obtain ⟨_, k, w⟩ := po i (by omega) hne
      rw [ev_less k w, hs i (by omega), hp]; grind
theorem take_Rf {rows r : List Row} {a v : Nat} (h : Rf rows v) (hp : pick rows v = some a) (e : takeP rows a v = some r) : Rf r (v + 1) := by
  obtain ⟨ha, hk, _⟩ := pick_some hp
  obtain ⟨p, nz, pok, ⟨pk, pv⟩, pr, po⟩ := take_q ha h.w.g h.ok e
  have rl := (take_good h.w.g e).2
  have p1 : V p v = 1 := by rw [pv]; grind
  have p0 : ∀ u, u < v → V p u = 0 := fun u hu => by rw [pv, h.un a ha hk u hu]; grind
  have kv : ∀ k, k < rows.length → key rows k ≠ (v : Int) := fun k hk => by
    rcases h.w.r k hk with h1 | ⟨u, h1, h2⟩ <;> omega
  refine ⟨step_W h.w (by unfold stepP; rw [hp]; exact e), fun i hi => ?_, fun i hi hki u hu => ?_, fun i u hi hki => ?_⟩
  · by_cases hne : i = a
    · subst hne; rw [pr]; exact pok
    · exact (po i (by omega) hne).1
  · rw [take_key e (by omega)] at hki
    have hne : i ≠ a := by intro hne; rw [if_pos hne] at hki; omega
    rw [if_neg hne] at hki
    obtain ⟨_, _, w⟩ := po i (by omega) hne
    rw [w]
    by_cases hu' : u = v
    · subst hu'; rw [p1]; grind
    · rw [h.un i (by omega) hki u (by omega), p0 u (by omega)]; grind
  · rw [take_key e (by omega)] at hki
    by_cases hne : i = a
    · subst hne
      rw [if_pos rfl] at hki
      obtain rfl : v = u := by omega
      rw [pr]
      refine ⟨p1, p0, fun j hj hji => ?_⟩
      obtain ⟨_, _, w⟩ := po j (by omega) hji
      rw [w, p1]; grind
    · rw [if_neg hne] at hki
      have huv : u < v := by
        rcases h.w.r i (by omega) with h1 | ⟨u', h1, h2⟩ <;> omega
      obtain ⟨h1, h2, h3⟩ := h.pv i u (by omega) hki
      obtain ⟨_, _, w⟩ := po i (by omega) hne
      refine ⟨by rw [w, h1, p0 u huv]; grind, fun x hx => by rw [w, h2 x hx, p0 x (by omega)]; grind, fun j hj hji => ?_⟩
      by_cases hja : j = a
      · subst hja; rw [pr]; exact p0 u huv
      · obtain ⟨_, _, w'⟩ := po j (by omega) hja
        rw [w', h3 j (by omega) hji, p0 u huv]; grind
theorem step_Rf {rows r : List Row} {v : Nat} (h : Rf rows v) (e : stepP rows v = some r) : Rf r (v + 1) ∧ ∀ x, Sat r x ↔ Sat rows x := by
  cases hp : pick rows v with
  | none =>
    have e0 := e
    unfold stepP at e
    rw [hp] at e
    cases e
    refine ⟨⟨step_W h.w e0, h.ok, fun i hi hk u hu => ?_, h.pv⟩, fun x => Iff.rfl⟩
    by_cases hu' : u = v
    · subst hu'
      have := fst_none.1 hp i hi
      unfold hit at this
      unfold key at hk
      rw [decide_eq_true hk] at this
      simp at this
      exact (qv_zero (at_rr (h.ok i hi).r u)).1 this
    · exact h.un i hi hk u (by omega)
  | some a =>
    have e0 := e
    unfold stepP at e
    rw [hp] at e
    exact ⟨take_Rf h hp e, fun x => take_sat h (pick_some hp).1 e⟩
theorem run_Rf : ∀ (k i : Nat) (rows r : List Row), Rf rows i → runF rows (List.range' i k) = some r → Rf r (i + k) ∧ ∀ x, Sat r x ↔ Sat rows x := by
  intro k
  induction k with
  | zero => intro i rows r h e; cases e; exact ⟨h, fun x => Iff.rfl⟩
  | succ k ih =>
    intro i rows r h e
    rw [List.range'_succ] at e
    unfold runF at e
    cases hs : stepP rows i with
    | none => rw [hs] at e; cases e
    | some r1 =>
      rw [hs] at e
      obtain ⟨s1, s2⟩ := step_Rf h hs
      obtain ⟨h1, h2⟩ := ih (i + 1) r1 r s1 e
      exact ⟨by rw [show i + (k + 1) = i + 1 + k by omega]; exact h1, fun x => (h2 x).trans (s2 x)⟩
theorem start_Rf {l : List TTerm} (h : inL l) (hr : ∀ t ∈ l, rt t = true) : Rf (startL l) 0 ∧ ∀ x, Sat (startL l) x ↔ ∀ t ∈ l, ev t x = 0 := by
  have sl : (startL l).length = l.length := mk_len
  have hw := start_W h
  have rw0 : ∀ i, i < l.length → rowAt (startL l) i = ⟨ownT (tAt l i), -1⟩ := fun i hi => by unfold startL; rw [row_mk hi]
  have ht : ∀ i, i < l.length → tAt l i ∈ l := fun i hi => by rw [← t_of hi]; exact List.getElem_mem hi
  refine ⟨⟨hw, fun i hi => ?_, fun i hi hk u hu => by omega, fun i u hi hk => ?_⟩, fun x => ⟨fun hs t htl => ?_, fun hs i hi => ?_⟩⟩
  · rw [sl] at hi
    rw [rw0 i hi]
    exact (own_q (t_in h i) (hr _ (ht i hi))).1
  · rcases hw.r i hi with h1 | ⟨u', h1, h2⟩ <;> omega
  · obtain ⟨i, hi, rfl⟩ := List.getElem_of_mem htl
    have := hs i (by omega)
    rw [rw0 i hi, ev_own (t_in h i) (hr _ (ht i hi))] at this
    rw [t_of hi]; exact this
  · rw [sl] at hi
    rw [rw0 i hi, ev_own (t_in h i) (hr _ (ht i hi))]
    exact hs _ (ht i hi)
/-- Rows that are solved. -/
structure Red (U : List Row) : Prop where
  asc : U.Pairwise fun a b => a.f1 < b.f1
  ok : ∀ r ∈ U, Ok r.f0
  pv : ∀ r ∈ U, ∃ u : Nat, u < 8 ∧ r.f1 = (u : Int) ∧ V r.f0 u = 1 ∧ (∀ w, w < u → V r.f0 w = 0) ∧ ∀ s ∈ U, s.f1 ≠ r.f1 → V s.f0 u = 0
theorem used_Red {r : List Row} (h : Rf r 8) : Red (usedR r) := by
  refine ⟨used_asc, fun x hx => ?_, fun x hx => ?_⟩
  · unfold usedR at hx
    obtain ⟨p, hp, rfl⟩ := List.mem_map.1 hx
    exact h.ok _ (pair_mem hp).1
  · unfold usedR at hx
    obtain ⟨p, hp, rfl⟩ := List.mem_map.1 hx
    obtain ⟨p1, p2, p3⟩ := pair_mem hp
    obtain ⟨h1, h2, h3⟩ := h.pv _ _ p1 p3
    refine ⟨p.2, p2, p3, h1, h2, fun s hs hne => ?_⟩
    unfold usedR at hs
    obtain ⟨q, hq, rfl⟩ := List.mem_map.1 hs
    exact h3 _ (pair_mem hq).1 fun e => hne (by rw [e])
/-- What an answer means. -/
theorem sol_sem {l : List TTerm} (h : inL l) : ((solP l).2.2 = 2) ∨ ((∀ t ∈ l, rt t = true) ∧ (((solP l).2.2 = 1 ∧ (solP l).1 = [] ∧ (solP l).2.1 = [] ∧ ∀ x, ¬ ∀ t ∈ l, ev t x = 0) ∨
    ∃ r, W r 8 ∧ solP l = ((usedR r).map (fun x => x.f0), (usedR r).map (fun x => x.f1), 0) ∧ Red (usedR r) ∧ ∀ x, (∀ t ∈ l, ev t x = 0) ↔ ∀ s ∈ usedR r, ev s.f0 x = 0)) := by
  unfold solP
  cases hb : l.any (fun t => !rt t) with
  | true => exact .inl rfl
  | false =>
    have hr : ∀ t ∈ l, rt t = true := fun t ht => by
      have := List.any_eq_false.1 hb t ht
      simpa using this
    obtain ⟨s0, s1⟩ := start_Rf h hr
    rw [if_neg (by decide)]
    cases hq : runF (startL l) (List.range 8) with
    | none => exact .inl rfl
    | some r =>
      right
      refine ⟨hr, ?_⟩
      rw [List.range_eq_range'] at hq
      obtain ⟨f, fs⟩ := run_Rf 8 0 _ _ s0 hq
      have f : Rf r 8 := by simpa using f
      dsimp only
      unfold endP
      cases hc : r.any badC with
      | true =>
        left
        refine ⟨rfl, rfl, rfl, fun x hx => ?_⟩
        obtain ⟨y, hy, hyb⟩ := List.any_eq_true.1 hc
        obtain ⟨i, hi, rfl⟩ := List.getElem_of_mem hy
        rw [row_of hi] at hyb
        unfold badC at hyb
        simp at hyb
        have h1 := (fs x).2 ((s1 x).2 hx) i hi
        unfold ev at h1
        rw [Sm_zero fun j hj => by rw [f.un i hi hyb.1 j hj]; grind] at h1
        have ho := (f.ok i hi).r
        unfold rt at ho
        simp only [Bool.and_eq_true] at ho
        have : K (rowAt r i).f0 = 0 := by grind
        exact hyb.2 ((qv_zero ho.1.2).2 this)
      | false =>
        right
        refine ⟨r, f.w, rfl, used_Red f, fun x => ?_⟩
        rw [← s1 x, ← fs x]
        constructor
        · intro hs s hsu
          have := ((used_mem f.w s).1 hsu).1
          obtain ⟨i, hi, rfl⟩ := List.getElem_of_mem this
          rw [row_of hi]; exact hs i hi
        · intro hs i hi
          by_cases hk : key r i = -1
          · unfold ev
            rw [Sm_zero fun j hj => by rw [f.un i hi hk j hj]; grind]
            have := List.any_eq_false.1 hc _ (List.getElem_mem hi)
            rw [row_of hi] at this
            unfold badC at this
            unfold key at hk
            rw [decide_eq_true hk] at this
            simp at this
            have ho := (f.ok i hi).r
            unfold rt at ho
            simp only [Bool.and_eq_true] at ho
            have := (qv_zero ho.1.2).1 this
            show K (rowAt r i).f0 + 0 = 0
            unfold K; rw [this]; grind
          · exact hs _ ((used_mem f.w _).2 ⟨by rw [← row_of hi]; exact List.getElem_mem hi, hk⟩)
theorem Sm_split {n : Nat} {f g h : Nat → Rat} (e : ∀ i, i < n → f i = g i + h i) : Sm n f = Sm n g + Sm n h := by
  induction n with
  | zero => unfold Sm; grind
  | succ n ih => unfold Sm; rw [ih fun i hi => e i (by omega), e n (by omega)]; grind
def piv (U : List Row) (w : Nat) : Option Row := U.find? fun r => decide (r.f1 = (w : Int))
theorem piv_some {U : List Row} {w : Nat} {r : Row} (h : piv U w = some r) : r ∈ U ∧ r.f1 = (w : Int) := by
  refine ⟨List.mem_of_find?_eq_some h, ?_⟩
  have := List.find?_some h
  simpa using this
theorem piv_none {U : List Row} {w : Nat} (h : piv U w = none) : ∀ r ∈ U, r.f1 ≠ (w : Int) := fun r hr e => by
  have := List.find?_eq_none.1 h r hr
  simp [e] at this
theorem red_one {U : List Row} (h : Red U) {a b : Row} (ha : a ∈ U) (hb : b ∈ U) (e : a.f1 = b.f1) : a = b := by
  obtain ⟨i, hi, rfl⟩ := List.getElem_of_mem ha
  obtain ⟨j, hj, rfl⟩ := List.getElem_of_mem hb
  have hp := List.pairwise_iff_getElem.1 h.asc
  rcases Nat.lt_trichotomy i j with hlt | hlt | hlt
  · have := hp i j hi hj hlt; omega
  · subst hlt; rfl
  · have := hp j i hj hi hlt; omega
theorem piv_mem {U : List Row} (h : Red U) {r : Row} (hr : r ∈ U) {w : Nat} (e : r.f1 = (w : Int)) : piv U w = some r := by
  cases hq : piv U w with
  | none => exact absurd e (piv_none hq r hr)
  | some s =>
    obtain ⟨h1, h2⟩ := piv_some hq
    rw [red_one h h1 hr (by rw [h2, e])]
/-- The free ones of y. -/
def fre (U : List Row) (y : Nat → Rat) (w : Nat) : Rat := if (piv U w).isSome then 0 else y w
/-- The solution whose free ones are y. -/
def sol (U : List Row) (y : Nat → Rat) (w : Nat) : Rat := match piv U w with | some r => -(ev r.f0 (fre U y)) | none => y w
theorem sol_ok {U : List Row} (h : Red U) (y : Nat → Rat) {r : Row} (hr : r ∈ U) : ev r.f0 (sol U y) = 0 := by
  obtain ⟨u, u8, hu, v1, v0, vo⟩ := h.pv r hr
  have pu := piv_mem h hr hu
  have e : Sm 8 (fun i => V r.f0 i * sol U y i) = Sm 8 (fun i => V r.f0 i * fre U y i) + Sm 8 (fun i => if i = u then sol U y u else 0) := by
    refine Sm_split fun i hi => ?_
    by_cases e : i = u
    · subst e
      rw [if_pos rfl, v1]
      have : fre U y i = 0 := by unfold fre; rw [pu]; rfl
      rw [this]; grind
    · rw [if_neg e]
      cases hq : piv U i with
      | none =>
        have : sol U y i = fre U y i := by unfold sol fre; rw [hq]; rfl
        rw [this]; grind
      | some s =>
        obtain ⟨s1, s2⟩ := piv_some hq
        obtain ⟨u', _, hu', _, _, vo'⟩ := h.pv s s1
        obtain rfl : i = u' := by omega
        rw [vo' r hr (by omega)]; grind
  unfold ev
  rw [e, Sm_one u8 (f := fun i => if i = u then sol U y u else 0) fun i _ hne => if_neg hne, if_pos rfl]
  have : sol U y u = -(ev r.f0 (fre U y)) := by unfold sol; rw [pu]
  rw [this]
  unfold ev
  grind
def dlt (f : Nat) (w : Nat) : Rat := if w = f then 1 else 0
theorem sub_zero' {t : TTerm} {x y : Nat → Rat} (h : ev t x = ev t y) : Sm 8 (fun i => V t i * x i) = Sm 8 (fun i => V t i * y i) := by unfold ev at h; grind
/-- What leads in one leads in the other. -/
theorem red_leads {U U' : List Row} (h : Red U) (h' : Red U') (hs : ∀ x, (∀ r ∈ U', ev r.f0 x = 0) → ∀ r ∈ U, ev r.f0 x = 0) {r : Row} (hr : r ∈ U) : ∃ r' ∈ U', r'.f1 = r.f1 := by
  obtain ⟨u, u8, hu, v1, v0, vo⟩ := h.pv r hr
  cases hq : piv U' u with
  | some s => obtain ⟨h1, h2⟩ := piv_some hq; exact ⟨s, h1, by omega⟩
  | none =>
    exfalso
    have a0 := hs _ (fun r' hr' => sol_ok h' (fun _ => 0) hr') r hr
    have a1 := hs _ (fun r' hr' => sol_ok h' (dlt u) hr') r hr
    have e := sub_zero' (a1.trans a0.symm)
    have e2 : Sm 8 (fun i => V r.f0 i * sol U' (dlt u) i) = Sm 8 (fun i => V r.f0 i * sol U' (fun _ => 0) i) + Sm 8 (fun i => if i = u then 1 else 0) := by
      refine Sm_split fun i hi => ?_
      by_cases hlt : i < u
      · rw [v0 i hlt, if_neg (by omega)]; grind
      · by_cases e : i = u
        · subst e
          have x1 : sol U' (dlt i) i = 1 := by unfold sol; rw [hq]; exact if_pos rfl
          have x0 : sol U' (fun _ => 0) i = 0 := by unfold sol; rw [hq]
          rw [x1, x0, v1, if_pos rfl]; grind
        · rw [if_neg e]
          have : sol U' (dlt u) i = sol U' (fun _ => 0) i := by
            unfold sol
            cases hq2 : piv U' i with
            | none => exact if_neg e
            | some s =>
              obtain ⟨s1, s2⟩ := piv_some hq2
              obtain ⟨u', _, hu', _, w0, _⟩ := h'.pv s s1
              dsimp only
              rw [ev_congr fun j hj => ?_]
              by_cases hj2 : j = u
              · subst hj2; rw [w0 j (by omega)]; grind
              · unfold fre dlt
                rw [if_neg hj2]
          rw [this]; grind
    rw [e2, Sm_one u8 (f := fun i => if i = u then (1 : Rat) else 0) fun i _ hne => if_neg hne, if_pos rfl] at e
    grind
theorem red_sub {U U' : List Row} (h : Red U) (h' : Red U') (hs : ∀ x, (∀ r ∈ U, ev r.f0 x = 0) ↔ ∀ r ∈ U', ev r.f0 x = 0) {r : Row} (hr : r ∈ U) : r ∈ U' := by
  obtain ⟨r', hr', e1⟩ := red_leads h h' (fun x => (hs x).2) hr
  have key : ∀ x, (∀ s ∈ U, ev s.f0 x = 0) → K r.f0 - K r'.f0 + Sm 8 (fun i => (V r.f0 i - V r'.f0 i) * x i) = 0 := by
    intro x hx
    have a := hx r hr
    have b := (hs x).1 hx r' hr'
    have : Sm 8 (fun i => (V r.f0 i - V r'.f0 i) * x i) = Sm 8 (fun i => V r.f0 i * x i) - 1 * Sm 8 (fun i => V r'.f0 i * x i) := by
      rw [← Sm_sub]; exact Sm_congr fun i _ => by grind
    rw [this]
    unfold ev at a b
    grind
  obtain ⟨u, u8, hu, v1, v0, vo⟩ := h.pv r hr
  obtain ⟨u', _, hu', v1', v0', vo'⟩ := h'.pv r' hr'
  obtain rfl : u = u' := by omega
  have dz : ∀ w s, piv U w = some s → V r.f0 w - V r'.f0 w = 0 := by
    intro w s hq
    obtain ⟨s1, s2⟩ := piv_some hq
    by_cases e : w = u
    · subst e; rw [v1, v1']; grind
    · obtain ⟨w1, _, k1, _, _, k2⟩ := h.pv s s1
      obtain rfl : w = w1 := by omega
      rw [k2 r hr (by omega)]
      obtain ⟨s', m1, m2⟩ := red_leads h h' (fun x => (hs x).2) s1
      obtain ⟨w2, _, k3, _, _, k4⟩ := h'.pv s' m1
      obtain rfl : w = w2 := by omega
      rw [k4 r' hr' (by omega)]; grind
  have tot : ∀ y : Nat → Rat, K r.f0 - K r'.f0 + Sm 8 (fun i => (V r.f0 i - V r'.f0 i) * fre U y i) = 0 := by
    intro y
    rw [← key (sol U y) fun s hs => sol_ok h y hs]
    congr 1
    refine Sm_congr fun i _ => ?_
    cases hq : piv U i with
    | none =>
      have : sol U y i = fre U y i := by unfold sol fre; rw [hq]; rfl
      rw [this]
    | some s => rw [dz i s hq]; grind
  have k0 : K r.f0 - K r'.f0 = 0 := by
    have := tot fun _ => 0
    rw [Sm_zero fun i _ => by unfold fre; split <;> grind] at this
    grind
  have vz : ∀ i, i < 8 → V r.f0 i = V r'.f0 i := by
    intro i hi
    cases hq : piv U i with
    | some s => have := dz i s hq; grind
    | none =>
      have := tot (dlt i)
      rw [Sm_one hi (f := fun j => (V r.f0 j - V r'.f0 j) * fre U (dlt i) j) fun j _ hne => by
        have : fre U (dlt i) j = 0 := by unfold fre dlt; rw [if_neg hne]; split <;> rfl
        rw [this]; grind] at this
      have f1 : fre U (dlt i) i = 1 := by unfold fre dlt; rw [hq, if_pos rfl]; rfl
      rw [f1] at this
      grind
  have o := h.ok r hr
  have o' := h'.ok r' hr'
  have et : r.f0 = r'.f0 := ok_eq o o' (by grind) fun i => by
    by_cases hi : i < 8
    · exact vz i hi
    · rw [at_far (by have := rt_len o.r; omega), at_far (by have := rt_len o'.r; omega)]
  have : r = r' := by cases r; cases r'; cases et; cases e1; rfl
  rw [this]; exact hr'
theorem red_eq {U U' : List Row} (h : Red U) (h' : Red U') (hs : ∀ x, (∀ r ∈ U, ev r.f0 x = 0) ↔ ∀ r ∈ U', ev r.f0 x = 0) : U = U' :=
  asc_eq h.asc h'.asc fun x => ⟨red_sub h h' hs, red_sub h' h fun x => (hs x).symm⟩
theorem sol_same {l l' : List TTerm} (h : inL l) (h' : inL l') (hm : ∀ t, t ∈ l ↔ t ∈ l') (h2 : (solP l).2.2 ≠ 2) (h3 : (solP l').2.2 ≠ 2) : solP l = solP l' := by
  have sat : ∀ x, (∀ t ∈ l, ev t x = 0) ↔ ∀ t ∈ l', ev t x = 0 := fun x => ⟨fun hx t ht => hx t ((hm t).2 ht), fun hx t ht => hx t ((hm t).1 ht)⟩
  rcases sol_sem h with e | ⟨_, ⟨e1, e2, e3, e4⟩ | ⟨r, _, e, red, hs⟩⟩
  · exact absurd e h2
  · rcases sol_sem h' with e | ⟨_, ⟨k1, k2, k3, k4⟩ | ⟨r', _, k, red', hs'⟩⟩
    · exact absurd e h3
    · have : ∀ p : List TTerm × List Int × Int, p = (p.1, p.2.1, p.2.2) := fun _ => rfl
      rw [this (solP l), this (solP l'), e1, e2, e3, k1, k2, k3]
    · exact absurd ((sat _).2 ((hs' _).2 fun s hs => sol_ok red' (fun _ => 0) hs)) (e4 _)
  · rcases sol_sem h' with e' | ⟨_, ⟨k1, k2, k3, k4⟩ | ⟨r', _, k, red', hs'⟩⟩
    · exact absurd e' h3
    · exact absurd ((sat _).1 ((hs _).2 fun s hs => sol_ok red (fun _ => 0) hs)) (k4 _)
    · rw [e, k, red_eq red red' fun x => (hs x).symm.trans ((sat x).trans (hs' x))]
theorem P_GaussOrder (a0 : List TTerm) (a1 : Int) (h : a0.length * 40 ≤ 140737488351232 ∧ ∀ z ∈ a0, okTTerm z) (h1 : (Lit.int .u8 a1).wf = true) : m_law03_GaussOrder a0 a1 = some true := by
  unfold m_law03_GaussOrder
  rw [awakeE, smallP h.1]
  simp only [some_bind', Bool.not_true, ifB_false]
  cases hs : sm a0 with
  | false => rfl
  | true =>
    obtain ⟨hi, hl⟩ := small_in h hs
    simp only [Bool.not_true, ifB_false, some_bind']
    by_cases hz : a0.length = 0
    · rw [decide_eq_true (show (a0.length : Int) = 0 by omega)]; rfl
    · rw [decide_eq_false (show ¬ (a0.length : Int) = 0 by omega), rq_true (decide_eq_true (show (a0.length : Int) ≠ 0 by omega))]
      simp only [ifB_false, some_bind']
      simp [Lit.wf, IntKind.min, IntKind.max, IntKind.signed, IntKind.bits] at h1
      rw [wrap_i64 (by omega) (by omega)]
      obtain ⟨k, hk⟩ : ∃ k : Nat, Int.tmod a1 (a0.length : Int) = (k : Int) := ⟨_, (Int.toNat_of_nonneg (Int.tmod_nonneg _ h1.1)).symm⟩
      have kl : (k : Int) < (a0.length : Int) := by rw [← hk]; exact Int.tmod_lt_of_pos _ (by omega)
      have s1 : subL a0 (k : Int) (a0.length : Int) = some (a0.drop k) := by
        unfold subL; rw [if_pos ⟨by omega, by omega, by omega⟩]; simp
      have s2 : subL a0 0 (k : Int) = some (a0.take k) := by
        unfold subL; rw [if_pos ⟨by omega, by omega, by omega⟩]; simp
      rw [hk, s1, s2]
      simp only [some_bind']
      rw [rq_true (decide_eq_true (show ([] : List TTerm).length + (a0.drop k).length ≤ 1000000 by simp; omega)), rq_true (decide_eq_true (show (([] : List TTerm) ++ a0.drop k).length + (a0.take k).length ≤ 1000000 by simp; omega))]
      simp only [some_bind', List.nil_append]
      have hm : ∀ t, t ∈ a0 ↔ t ∈ a0.drop k ++ a0.take k := fun t => by
        have := List.take_append_drop k a0
        constructor
        · intro ht
          rw [← this] at ht
          rcases List.mem_append.1 ht with h | h
          · exact List.mem_append.2 (.inr h)
          · exact List.mem_append.2 (.inl h)
        · intro ht
          rw [← this]
          rcases List.mem_append.1 ht with h | h
          · exact List.mem_append.2 (.inr h)
          · exact List.mem_append.2 (.inl h)
      have hi2 : inL (a0.drop k ++ a0.take k) := fun t ht => hi t ((hm t).2 ht)
      have l2 : (a0.drop k ++ a0.take k).length ≤ 12 := by simp; omega
      simp only [solveE hi hl, solveE hi2 l2, some_bind']
      by_cases c1 : (solP a0).2.2 = 2
      · rw [decide_eq_true c1]; rfl
      · rw [decide_eq_false c1]
        by_cases c2 : (solP (a0.drop k ++ a0.take k)).2.2 = 2
        · rw [decide_eq_true c2]; rfl
        · rw [decide_eq_false c2]
          have sl := sol_len hl
          rw [← sol_same hi hi2 hm c1 c2]
          simp only [ifB_false, some_bind', decide_true, ifB_true, same_self (sol_in hi) (by omega), ints_self (l := (solP a0).2.1) (by omega)]
theorem r1_ok : rr ⟨1, 1⟩ = true := by decide +kernel
theorem at_one {t : TTerm} (h : Ok t) {i : Nat} (e : V t i = 1) : atT t i = ⟨1, 1⟩ := qv_inj (at_in h.i i) i1 (at_rr h.r i) r1_ok (by rw [qv_1]; exact e)
theorem at_zero {t : TTerm} (h : Ok t) {i : Nat} (e : V t i = 0) : atT t i = ⟨0, 1⟩ := qv_inj (at_in h.i i) n64 (at_rr h.r i) nR (by rw [qv_n]; exact e)
theorem row_mem {U : List Row} {i : Nat} (h : i < U.length) : rowAt U i ∈ U := by rw [← row_of h]; exact List.getElem_mem h
theorem red_lt {U : List Row} (h : Red U) {i j : Nat} (hj : j < U.length) (hij : i < j) : (rowAt U i).f1 < (rowAt U j).f1 := by
  have := List.pairwise_iff_getElem.1 h.asc i j (by omega) hj hij
  rw [row_of (by omega), row_of hj] at this; exact this
theorem red_idx {U : List Row} (h : Red U) {i j : Nat} (hi : i < U.length) (hj : j < U.length) (e : (rowAt U i).f1 = (rowAt U j).f1) : i = j := by
  rcases Nat.lt_trichotomy i j with hlt | hlt | hlt
  · have := red_lt h hj hlt; omega
  · exact hlt
  · have := red_lt h hi hlt; omega
theorem P_GaussPivots (a0 : List TTerm) (h : a0.length * 40 ≤ 140737488351232 ∧ ∀ z ∈ a0, okTTerm z) : m_law03_GaussPivots a0 = some true := by
  unfold m_law03_GaussPivots
  rw [awakeE, smallP h.1]
  simp only [some_bind', Bool.not_true, ifB_false]
  cases hs : sm a0 with
  | false => rfl
  | true =>
    obtain ⟨hi, hl⟩ := small_in h hs
    simp only [Bool.not_true, ifB_false, some_bind', solveE hi hl]
    have sl := sol_len hl
    rcases sol_sem hi with e | ⟨_, ⟨e1, e2, e3, e4⟩ | ⟨r, _, e, red, _⟩⟩
    · rw [e]; rfl
    · rw [e1]; rfl
    · rw [e] at sl ⊢
      dsimp only at sl
      obtain ⟨U, hU⟩ : ∃ U, U = usedR r := ⟨_, rfl⟩
      rw [← hU] at red sl ⊢
      rw [List.length_map] at sl
      dsimp only
      rw [decide_eq_true (rfl : (0 : Int) = 0), Bool.not_true, ifB_false]
      have gv : ∀ i, i < U.length → gi (U.map fun x => x.f1) (i : Int) = some (rowAt U i).f1 := fun i hi => by
        rw [gi_of (by rw [List.length_map]; exact hi), List.getElem_map, row_of hi]
      have gt : ∀ i, i < U.length → gi (U.map fun x => x.f0) (i : Int) = some (rowAt U i).f0 := fun i hi => by
        rw [gi_of (by rw [List.length_map]; exact hi), List.getElem_map, row_of hi]
      have main := loopO_first (b := m_law03_GaussPivots_L0 (U.map (fun x => x.f0), U.map (fun x => x.f1), 0)) (fun i : Nat => (i : Int)) U.length (fun _ => false) (fun _ => false) () ?_ ?_
      · rw [fst_none.2 fun i _ => rfl] at main
        have m2 : loopO (m_law03_GaussPivots_L0 (U.map (fun x => x.f0), U.map (fun x => x.f1), 0)) 0 = some (.inl ()) := main
        rw [m2]
        simp
      · intro i hi _
        obtain ⟨u, u8, hu, v1, v0, vo⟩ := red.pv _ (row_mem hi)
        unfold m_law03_GaussPivots_L0
        dsimp only
        rw [List.length_map, decide_eq_true (show (i : Int) < (U.length : Int) by omega), ifB_true, gv i hi]
        simp only [some_bind']
        have pre : (ifB (decide ((0 : Int) < (i : Int))) (Option.bind (gi (U.map fun x => x.f1) (IntKind.wrap .i64 ((i : Int) - 1))) fun v20 => ifB (decide ((rowAt U i).f1 ≤ v20)) (some true) (ifB (decide ((rowAt U i).f1 < 0)) (some true) (some (decide (7 < (rowAt U i).f1)))))
            (ifB (decide ((rowAt U i).f1 < 0)) (some true) (some (decide (7 < (rowAt U i).f1)))) : Option Bool) = some false := by
          have e2 : (ifB (decide ((rowAt U i).f1 < 0)) (some true) (some (decide (7 < (rowAt U i).f1))) : Option Bool) = some false := by
            rw [decide_eq_false (show ¬ (rowAt U i).f1 < 0 by omega), decide_eq_false (show ¬ 7 < (rowAt U i).f1 by omega)]; rfl
          rw [e2]
          by_cases hz : i = 0
          · rw [decide_eq_false (by omega)]; rfl
          · have hlt := red_lt red hi (show i - 1 < i by omega)
            rw [decide_eq_true (show (0 : Int) < (i : Int) by omega), ifB_true, show IntKind.wrap .i64 ((i : Int) - 1) = ((i - 1 : Nat) : Int) by rw [wrap_i64 (by omega) (by omega)]; omega, gv (i - 1) (by omega), some_bind', decide_eq_false (by omega)]
            rfl
        rw [pre]
        simp only [some_bind', ifB_false]
        have inner := loopO_first (b := m_law03_GaussPivots_L1 (U.map (fun x => x.f0), U.map (fun x => x.f1), 0) (i : Int)) (fun j : Nat => (j : Int)) U.length (fun _ => false) (fun _ => false) () ?_ ?_
        · rw [fst_none.2 fun i _ => rfl] at inner
          have m2 : loopO (m_law03_GaussPivots_L1 (U.map (fun x => x.f0), U.map (fun x => x.f1), 0) (i : Int)) 0 = some (.inl ()) := inner
          rw [m2, wrap_succ (by omega)]
          rfl
        · intro j hj _
          unfold m_law03_GaussPivots_L1
          dsimp only
          rw [List.length_map, decide_eq_true (show (j : Int) < (U.length : Int) by omega), ifB_true, gv i hi, gt j hj, hu, wrap_succ (by omega)]
          by_cases hij : j = i
          · subst hij
            rw [decide_eq_true rfl]
            simp only [ifB_true, some_bind', atF, at_one (red.ok _ (row_mem hj)) v1]
            rfl
          · have hne : (rowAt U j).f1 ≠ (rowAt U i).f1 := fun e => hij (red_idx red hj hi e)
            rw [decide_eq_false (show ¬ (j : Int) = (i : Int) by omega)]
            simp only [ifB_false, some_bind', atF, at_zero (red.ok _ (row_mem hj)) (vo _ (row_mem hj) hne)]
            rfl
        · intro _
          unfold m_law03_GaussPivots_L1
          dsimp only
          rw [List.length_map, decide_eq_false (by omega)]; rfl
      · intro _
        unfold m_law03_GaussPivots_L0
        dsimp only
        rw [List.length_map, decide_eq_false (by omega)]; rfl
def xOf (l : List TRat) (i : Nat) : Rat := V ⟨l, ⟨0, 1⟩⟩ i
theorem Sm_ext {n m : Nat} {f : Nat → Rat} (h : n ≤ m) (hz : ∀ i, n ≤ i → i < m → f i = 0) : Sm n f = Sm m f := by
  induction m with
  | zero => obtain rfl : n = 0 := by omega
            rfl
  | succ m ih =>
    by_cases e : n = m + 1
    · rw [e]
    · show _ = Sm m f + f m
      rw [hz m (by omega) (by omega), ← ih (by omega) fun i h1 h2 => hz i h1 (by omega)]; grind
theorem valueE {t : TTerm} {l : List TRat} (ht : in64T t) (hl : ∀ r ∈ l, in64R r) (hn : l.length ≤ 12) : ∃ r e, m_ref02_Value t l = some (r, e) ∧ (e = 0 → rr r = true ∧ qv r = ev t (xOf l)) := by
  unfold m_ref02_Value
  rw [tR' ht]
  simp only [some_bind']
  cases hr : rt t with
  | false => exact ⟨_, _, rfl, fun e => by cases e⟩
  | true =>
    simp only [Bool.not_true, ifB_false]
    have l0 := loopO_count (b := m_ref02_Value_L0 l) (min l.length 8) (fun i s => s = (i : Int)) (fun z => z = .inl () ∨ z = .inr (⟨0, 0⟩, 2)) ?_ ?_ (s := 0) rfl
    · obtain ⟨z, hz, hq⟩ := l0
      rw [hz]
      rcases hq with rfl | rfl
      · simp only [some_bind']
        have tl := rt_len hr
        have rk : rr t.f1 = true := by
          unfold rt at hr; simp only [Bool.and_eq_true] at hr; exact hr.1.2
        have l1 := loopO_count (b := m_ref02_Value_L1 t l) (min t.f0.length l.length) (fun i s => s.1 = (i : Int) ∧ in64R ⟨s.2.1, s.2.2⟩ ∧ rr ⟨s.2.1, s.2.2⟩ = true ∧ qv ⟨s.2.1, s.2.2⟩ = K t + Sm i fun j => V t j * xOf l j)
          (fun z => (∃ x y : Int, z = .inl (x, y) ∧ rr ⟨x, y⟩ = true ∧ qv ⟨x, y⟩ = K t + Sm (min t.f0.length l.length) fun j => V t j * xOf l j) ∨ ∃ e : Int, e ≠ 0 ∧ z = .inr (⟨0, 0⟩, e)) ?_ ?_ (s := (0, t.f1.f0, t.f1.f1)) ⟨rfl, ht.k, rk, ?_⟩
        · obtain ⟨z, hz, hq⟩ := l1
          rw [hz]
          rcases hq with ⟨x, y, rfl, q1, q2⟩ | ⟨e, he, rfl⟩
          · refine ⟨_, _, rfl, fun _ => ⟨q1, ?_⟩⟩
            rw [q2]
            unfold ev
            rw [Sm_ext (m := 8) (by omega) fun i h1 h2 => ?_]
            by_cases hi : i < t.f0.length
            · have : xOf l i = 0 := by unfold xOf; exact at_far (by dsimp only; omega)
              rw [this]; grind
            · rw [at_far (by omega)]; grind
          · exact ⟨_, _, rfl, fun h => absurd h he⟩
        · rintro i ⟨_, x, y⟩ hi ⟨rfl, g1, g2, g3⟩
          dsimp only at g1 g2 g3
          have hi1 : i < t.f0.length := by omega
          have hi2 : i < l.length := by omega
          have a1 : t.f0[i] = atT t i := by unfold atT; rw [List.getElem?_eq_getElem hi1]; rfl
          have a2 : xOf l i = qv l[i] := by unfold xOf V atT; dsimp only; rw [List.getElem?_eq_getElem hi2]; rfl
          unfold m_ref02_Value_L1
          dsimp only
          rw [decide_eq_true (show (i : Int) < (t.f0.length : Int) by omega), decide_eq_true (show (i : Int) < (l.length : Int) by omega)]
          simp only [ifB_true, some_bind', gi_of hi1, gi_of hi2, a1, do2 (at_in ht i) (hl _ (List.getElem_mem hi2))]
          rw [wrap_succ (by omega)]
          by_cases c1 : (mulR (atT t i) l[i]).2 = 0
          · rw [decide_eq_true c1]
            simp only [Bool.not_true, ifB_false, do0 g1 (mul_good _ _).1, some_bind']
            by_cases c2 : (addR ⟨x, y⟩ (mulR (atT t i) l[i]).1).2 = 0
            · rw [decide_eq_true c2]
              left
              refine ⟨_, rfl, rfl, (add_good _ _).1, (add_good _ _).2 c2, ?_⟩
              show qv (addR ⟨x, y⟩ (mulR (atT t i) l[i]).1).1 = _
              rw [(addR_q c2).2.2, (mulR_q c1).2.2, g3]
              show _ = K t + (Sm i (fun j => V t j * xOf l j) + V t i * xOf l i)
              rw [a2]
              show _ = K t + (Sm i (fun j => V t j * xOf l j) + qv (atT t i) * qv l[i])
              grind
            · rw [decide_eq_false c2]
              right
              exact ⟨_, rfl, .inr ⟨_, c2, rfl⟩⟩
          · rw [decide_eq_false c1]
            right
            exact ⟨_, rfl, .inr ⟨_, c1, rfl⟩⟩
        · rintro ⟨_, x, y⟩ ⟨rfl, g1, g2, g3⟩
          unfold m_ref02_Value_L1
          dsimp only
          have hc : (ifB (decide (((min t.f0.length l.length : Nat) : Int) < (t.f0.length : Int))) (some (decide (((min t.f0.length l.length : Nat) : Int) < (l.length : Int)))) (some false) : Option Bool) = some false := by
            by_cases h : ((min t.f0.length l.length : Nat) : Int) < (t.f0.length : Int)
            · rw [decide_eq_true h, decide_eq_false (by omega)]; rfl
            · rw [decide_eq_false h]; rfl
          rw [hc]
          exact ⟨_, rfl, .inl ⟨x, y, rfl, g2, g3⟩⟩
        · show qv t.f1 = K t + 0
          unfold K; grind
      · exact ⟨_, _, rfl, fun e => by cases e⟩
    · rintro i _ hi rfl
      unfold m_ref02_Value_L0
      dsimp only
      have h1 : i < l.length := by omega
      rw [decide_eq_true (show (i : Int) < (l.length : Int) by omega), decide_eq_true (show (i : Int) < 8 by omega)]
      simp only [ifB_true, some_bind', gi_of h1, rR' (hl _ (List.getElem_mem h1))]
      rw [wrap_succ (by omega)]
      cases rr l[i] with
      | true => left; exact ⟨_, rfl, rfl⟩
      | false => right; exact ⟨_, rfl, .inr rfl⟩
    · rintro _ rfl
      unfold m_ref02_Value_L0
      dsimp only
      have hc : (ifB (decide (((min l.length 8 : Nat) : Int) < (l.length : Int))) (some (decide (((min l.length 8 : Nat) : Int) < 8))) (some false) : Option Bool) = some false := by
        by_cases h : ((min l.length 8 : Nat) : Int) < (l.length : Int)
        · rw [decide_eq_true h, decide_eq_false (by omega)]; rfl
        · rw [decide_eq_false h]; rfl
      rw [hc]
      exact ⟨_, rfl, .inl rfl⟩
theorem zerosE {l : List TTerm} {x : List TRat} (hl : inL l) (hn : l.length ≤ 1000) (hx : ∀ r ∈ x, in64R r) (hxn : x.length ≤ 12) :
    ∃ b o, m_law03_zeros l x = some (b, o) ∧ (o = true → (b = true ↔ ∀ t ∈ l, ev t (xOf x) = 0)) := by
  unfold m_law03_zeros
  have main := loopO_count (b := m_law03_zeros_L0 l x) l.length (fun i s => s.2 = (i : Int) ∧ (s.1 = true ↔ ∀ j, j < i → ev (tAt l j) (xOf x) = 0)) (fun z => (∃ b, z = .inl b ∧ (b = true ↔ ∀ j, j < l.length → ev (tAt l j) (xOf x) = 0)) ∨ z = .inr (false, false)) ?_ ?_ (s := (true, 0)) ⟨rfl, by simp⟩
  · obtain ⟨z, hz, hq⟩ := main
    rw [hz]
    rcases hq with ⟨b, rfl, hb⟩ | rfl
    · refine ⟨_, _, rfl, fun _ => hb.trans ⟨fun h t ht => ?_, fun h j hj => h _ (by rw [← t_of hj]; exact List.getElem_mem hj)⟩⟩
      obtain ⟨i, hi, rfl⟩ := List.getElem_of_mem ht
      rw [t_of hi]; exact h i hi
    · exact ⟨_, _, rfl, fun e => by cases e⟩
  · rintro i ⟨b, _⟩ hi ⟨rfl, hb⟩
    dsimp only at hb
    obtain ⟨r, e, hv, hq⟩ := valueE (t_in hl i) hx hxn
    unfold m_law03_zeros_L0
    dsimp only
    rw [decide_eq_true (show (i : Int) < (l.length : Int) by omega), ifB_true, t_gi hi, some_bind', hv, some_bind', wrap_succ (by omega)]
    by_cases he : e = 0
    · obtain ⟨q1, q2⟩ := hq he
      rw [decide_eq_true he]
      left
      have hzero : r.f0 = 0 ↔ ev (tAt l i) (xOf x) = 0 := by rw [qv_zero q1, q2]
      have h2 : (b && decide (r.f0 = 0)) = true ↔ ∀ j, j < i + 1 → ev (tAt l j) (xOf x) = 0 := by
        rw [Bool.and_eq_true, hb, decide_eq_true_eq, hzero]
        constructor
        · rintro ⟨h1, h2⟩ j hj
          by_cases e : j = i
          · rw [e]; exact h2
          · exact h1 j (by omega)
        · intro h
          exact ⟨fun j hj => h j (by omega), h i (by omega)⟩
      refine ⟨(b && decide (r.f0 = 0), ((i + 1 : Nat) : Int)), ?_, rfl, h2⟩
      cases b <;> rfl
    · rw [decide_eq_false he]
      right
      exact ⟨_, rfl, .inr rfl⟩
  · rintro ⟨b, _⟩ ⟨rfl, hb⟩
    unfold m_law03_zeros_L0
    dsimp only
    rw [decide_eq_false (by omega)]
    exact ⟨_, rfl, .inl ⟨b, rfl, hb⟩⟩
theorem free_cnt {r : List Row} : ∀ n, n ≤ 8 → (freeP (varI r 8) n).length + (pairs r n).length = n := by
  intro n
  induction n with
  | zero => intro _; rfl
  | succ n ih =>
    intro hn
    have := ih (by omega)
    have e : freeP (varI r 8) (n + 1) = freeP (varI r 8) n ++ (if ((varI r 8).any fun y => decide ((n : Int) = y)) then [] else [(n : Int)]) := by
      unfold freeP
      rw [List.range_succ, List.filter_append, List.map_append]
      congr 1
      cases hq : ((varI r 8).any fun y => decide ((n : Int) = y)) <;> simp [List.filter_cons, hq]
    rw [e, pairs_succ, List.length_append, List.length_append]
    have hiff : ((varI r 8).any fun y => decide ((n : Int) = y)) = (idxV r n).isSome := by
      rw [Bool.eq_iff_iff, List.any_eq_true]
      constructor
      · rintro ⟨y, hy, he⟩
        unfold varI pairs at hy
        obtain ⟨p, hp, rfl⟩ := List.mem_map.1 hy
        obtain ⟨u, hu, hp⟩ := List.mem_filterMap.1 hp
        obtain ⟨i, hi, rfl⟩ := Option.map_eq_some_iff.1 hp
        simp at he
        obtain rfl : n = u := by omega
        rw [hi]; rfl
      · intro h
        obtain ⟨i, hi⟩ := Option.isSome_iff_exists.1 h
        refine ⟨(n : Int), ?_, by simp⟩
        unfold varI pairs
        exact List.mem_map.2 ⟨(i, n), List.mem_filterMap.2 ⟨n, List.mem_range.2 (by omega), by rw [hi]; rfl⟩, rfl⟩
    rw [hiff]
    cases idxV r n <;> simp <;> omega
theorem P_GaussKeeps (a0 : List TTerm) (a1 : List TRat) (h : a0.length * 40 ≤ 140737488351232 ∧ ∀ z ∈ a0, okTTerm z) (h1 : a1.length * 16 ≤ 140737488351232 ∧ ∀ z ∈ a1, okTRat z) : m_law03_GaussKeeps a0 a1 = some true := by
  unfold m_law03_GaussKeeps
  rw [awakeE, smallP h.1]
  simp only [some_bind', Bool.not_true, ifB_false]
  cases hs : sm a0 with
  | false => rfl
  | true =>
    obtain ⟨hi, hl⟩ := small_in h hs
    simp only [Bool.not_true, ifB_false, some_bind']
    by_cases h12 : 12 < (a1.length : Int)
    · rw [decide_eq_true h12]; rfl
    · rw [decide_eq_false h12]
      have hx : ∀ r ∈ a1, in64R r := fun r hr => okR (h1.2 r hr)
      have sl := sol_len hl
      simp only [ifB_false, some_bind', solveE hi hl]
      obtain ⟨b, o, z1, z2⟩ := zerosE (x := a1) hi (by omega) hx (by omega)
      obtain ⟨b', o', z1', z2'⟩ := zerosE (x := a1) (sol_in hi) (by omega) hx (by omega)
      by_cases c2 : (solP a0).2.2 = 2
      · rw [decide_eq_true c2]; rfl
      · rw [decide_eq_false c2, z1, z1']
        simp only [ifB_false, some_bind']
        cases o with
        | false => rfl
        | true =>
          cases o' with
          | false => rfl
          | true =>
            simp only [Bool.not_true, ifB_false, some_bind']
            have z2 := z2 rfl
            have z2' := z2' rfl
            rcases sol_sem hi with e | ⟨_, ⟨e1, e2, e3, e4⟩ | ⟨r, _, e, red, hs⟩⟩
            · exact absurd e c2
            · rw [e1, decide_eq_true rfl]
              have : b = false := by
                cases b with
                | false => rfl
                | true => exact absurd (z2.1 rfl) (e4 _)
              rw [this]; rfl
            · have hbb : b = b' := by
                rw [Bool.eq_iff_iff, z2, z2', hs, e]
                constructor
                · intro hh t ht
                  obtain ⟨s, hs, rfl⟩ := List.mem_map.1 ht
                  exact hh s hs
                · intro hh s hs
                  exact hh _ (List.mem_map.2 ⟨s, hs, rfl⟩)
              subst hbb
              rw [e] at sl ⊢
              dsimp only at sl ⊢
              rw [decide_eq_false (show ¬ (0 : Int) = 1 by decide), freeE (by omega), ← vars_used]
              have cnt := free_cnt (r := r) 8 (Nat.le_refl _)
              have pl := pairs_len (rows := r) (v := 8)
              have vl : (varI r 8).length = (pairs r 8).length := by unfold varI; rw [List.length_map]
              simp only [ifB_false, some_bind', beq_self_eq_true, ifB_true]
              rw [wrap_i64 (by omega) (by omega), decide_eq_true (by omega)]
theorem mulR_one {r : TRat} (hr : in64R r) (h : rr r = true) : (mulR r ⟨1, 1⟩).2 = 0 := by
  unfold mulR mulS
  have hq := (BallQ.q_right (rr_right h) hr.1 hr.2).2.2
  rw [if_pos ⟨rr_right h, rr_right r1_ok⟩]
  have e : BallQ.q r.f0 r.f1 * BallQ.q 1 1 = BallQ.q r.f0 r.f1 := by
    have : BallQ.q 1 1 = 1 := qv_1
    rw [this]; grind
  show (toR (BallQ.out (BallQ.q r.f0 r.f1 * BallQ.q 1 1))).2 = 0
  rw [e, out_ok hq]; rfl
theorem mulT_one {t : TTerm} (h : Ok t) : mulT t ⟨1, 1⟩ = (t, 0) := by
  have rk : rr t.f1 = true := by
    have := h.r; unfold rt at this; simp only [Bool.and_eq_true] at this; exact this.1.2
  have e2 : (mulT t ⟨1, 1⟩).2 = 0 := by
    unfold mulT
    rw [h.r, r1_ok, Bool.and_self, if_pos rfl]
    unfold eachT
    rw [if_pos (mulR_one h.i.k rk)]
    have : fst t.f0.length (bad fun i => mulR (atT t i) ⟨1, 1⟩) = none := fst_none.2 fun i hi => by
      unfold bad
      rw [mulR_one (at_in h.i i) (at_rr h.r i)]; rfl
    rw [this]
  obtain ⟨_, o, k, v⟩ := mulT_q e2
  have e1 : (mulT t ⟨1, 1⟩).1 = t := ok_eq o h (by rw [k, qv_1]; grind) fun i => by rw [v, qv_1]; grind
  exact Prod.ext e1 e2
theorem div_one : divR ⟨1, 1⟩ ⟨1, 1⟩ = (⟨1, 1⟩, 0) := by
  have h2 : (divR ⟨1, 1⟩ ⟨1, 1⟩).2 = 0 := by decide +kernel
  have h0 : (divR ⟨1, 1⟩ ⟨1, 1⟩).1.f0 = 1 := by decide +kernel
  have h1 : (divR ⟨1, 1⟩ ⟨1, 1⟩).1.f1 = 1 := by decide +kernel
  refine Prod.ext ?_ h2
  cases hq : (divR ⟨1, 1⟩ ⟨1, 1⟩).1
  rw [hq] at h0 h1
  dsimp only at h0 h1
  rw [h0, h1]
def stage (U : List Row) (v : Nat) : List Row := mkL U.length fun i => ⟨(rowAt U i).f0, if (rowAt U i).f1 < (v : Int) then (rowAt U i).f1 else -1⟩
theorem stage_same {U : List Row} {v : Nat} (h : ∀ i, i < U.length → (rowAt U i).f1 ≠ (v : Int)) : stage U (v + 1) = stage U v := by
  unfold stage
  refine mk_congr fun i hi => ?_
  have := h i hi
  by_cases hlt : (rowAt U i).f1 < (v : Int)
  · rw [if_pos hlt, if_pos (by omega)]
  · rw [if_neg hlt, if_neg (by omega)]
theorem stage_step {U : List Row} (h : Red U) {v : Nat} (hv : v < 8) : stepP (stage U v) v = some (stage U (v + 1)) := by
  have sl : (stage U v).length = U.length := mk_len
  have sr : ∀ i, i < U.length → rowAt (stage U v) i = ⟨(rowAt U i).f0, if (rowAt U i).f1 < (v : Int) then (rowAt U i).f1 else -1⟩ := fun i hi => by unfold stage; rw [row_mk hi]
  have hitv : ∀ i, i < U.length → (hit (stage U v) v i = true ↔ (rowAt U i).f1 = (v : Int)) := by
    intro i hi
    obtain ⟨u, u8, hu, v1, v0, vo⟩ := h.pv _ (row_mem hi)
    have o := h.ok _ (row_mem hi)
    unfold hit
    rw [sr i hi]
    dsimp only
    constructor
    · intro hh
      simp only [Bool.and_eq_true, decide_eq_true_eq, Bool.not_eq_true', decide_eq_false_iff_not] at hh
      have hge : ¬ (rowAt U i).f1 < (v : Int) := fun hlt => by rw [if_pos hlt] at hh; omega
      by_cases e : (rowAt U i).f1 = (v : Int)
      · exact e
      · exact absurd ((qv_zero (at_rr o.r v)).2 (v0 v (by omega))) hh.2
    · intro e
      have : u = v := by omega
      subst this
      rw [if_neg (by omega), at_one o v1]; rfl
  unfold stepP
  cases hp : pick (stage U v) v with
  | none =>
    have hn := fst_none.1 hp
    rw [stage_same fun i hi e => by
      have := (hitv i hi).2 e
      rw [hn i (by omega)] at this; cases this]
  | some a =>
    obtain ⟨ha, hh⟩ := fst_some hp
    rw [sl] at ha
    have ea := (hitv a ha).1 hh
    have oa := h.ok _ (row_mem ha)
    obtain ⟨u, u8, hu, v1, v0, vo⟩ := h.pv _ (row_mem ha)
    obtain rfl : u = v := by omega
    have i1e : invT (stage U u) a u = (⟨1, 1⟩, 0) := by
      unfold invT; rw [sr a ha, at_one oa v1, div_one]
    have pe : pivT (stage U u) a u = ((rowAt U a).f0, 0) := by
      unfold pivT; rw [i1e, sr a ha]; exact mulT_one oa
    have sk : ∀ i, i < U.length → skip (stage U u) a u i = true := by
      intro i hi
      unfold skip
      by_cases e : i = a
      · rw [decide_eq_true e]; rfl
      · rw [sr i hi]
        have hne : (rowAt U i).f1 ≠ (rowAt U a).f1 := fun e' => e (red_idx h hi ha e')
        rw [at_zero (h.ok _ (row_mem hi)) (vo _ (row_mem hi) hne)]
        simp
    dsimp only
    unfold takeP pivB
    rw [i1e, pe, sl, fst_none.2 fun i hi => by unfold badR; rw [sk i hi]; rfl]
    simp only [decide_true, Bool.and_self, if_true]
    congr 1
    unfold stage
    refine mk_congr fun i hi => ?_
    unfold newR
    by_cases e : i = a
    · subst e
      rw [if_pos rfl, if_pos (by omega), ea]
    · have hne : (rowAt U i).f1 ≠ (rowAt U a).f1 := fun e' => e (red_idx h hi ha e')
      have ss := sk i hi
      unfold stage at ss
      rw [if_neg e, if_pos ss, row_mk hi]
      by_cases hlt : (rowAt U i).f1 < (u : Int)
      · rw [if_pos hlt, if_pos (by omega)]
      · rw [if_neg hlt, if_neg (by omega)]
theorem stage_run {U : List Row} (h : Red U) : ∀ k i, i + k = 8 → runF (stage U i) (List.range' i k) = some (stage U 8) := by
  intro k
  induction k with
  | zero => intro i hi; obtain rfl : i = 8 := by omega
            rfl
  | succ k ih =>
    intro i hi
    rw [List.range'_succ]
    unfold runF
    rw [stage_step h (by omega)]
    exact ih (i + 1) (by omega)
theorem solve_red {U : List Row} (h : Red U) (hl : U.length ≤ 12) : solP (U.map fun x => x.f0) = (U.map (fun x => x.f0), U.map (fun x => x.f1), 0) := by
  have hin : inL (U.map fun x => x.f0) := fun t ht => by
    obtain ⟨s, hs, rfl⟩ := List.mem_map.1 ht
    exact (h.ok s hs).i
  unfold solP
  have h0 : (U.map fun x => x.f0).any (fun t => !rt t) = false := List.any_eq_false.2 fun t ht => by
    obtain ⟨s, hs, rfl⟩ := List.mem_map.1 ht
    rw [(h.ok s hs).r]; decide
  rw [h0, if_neg (by decide)]
  have st : startL (U.map fun x => x.f0) = stage U 0 := by
    unfold startL stage
    rw [List.length_map]
    refine mk_congr fun i hi => ?_
    have e : tAt (U.map fun x => x.f0) i = (rowAt U i).f0 := by
      rw [← t_of (by rw [List.length_map]; exact hi), List.getElem_map, row_of hi]
    obtain ⟨u, _, hu, _⟩ := h.pv _ (row_mem hi)
    rw [e, own_ok (h.ok _ (row_mem hi)), if_neg (by omega)]
  have s8 : stage U 8 = U := by
    unfold stage
    conv => rhs; rw [← mk_self (l := U)]
    refine mk_congr fun i hi => ?_
    obtain ⟨u, u8, hu, _⟩ := h.pv _ (row_mem hi)
    rw [if_pos (by omega)]
  have hw := start_W hin
  have hr := stage_run h 8 0 (by omega)
  rw [← st] at hr
  have w8 := (run_W 8 0 _ _ hw hr).1
  rw [s8] at hr w8
  rw [List.range_eq_range', hr]
  have w8 : W U 8 := by simpa using w8
  unfold endP
  have nk : ∀ x ∈ U, x.f1 ≠ -1 := fun x hx e => by
    obtain ⟨u, u8, hu, _⟩ := h.pv _ hx
    omega
  have hb : U.any badC = false := List.any_eq_false.2 fun x hx => by
    unfold badC; simp [nk x hx]
  have hu : usedR U = U := asc_eq used_asc h.asc fun x => by
    rw [used_mem w8]
    exact ⟨fun a => a.1, fun a => ⟨a, nk x a⟩⟩
  dsimp only
  rw [hb, hu]; rfl
theorem sol_none {l : List TTerm} (h : (solP l).2.2 ≠ 0) : (solP l).1 = [] ∧ (solP l).2.1 = [] := by
  unfold solP at h ⊢
  by_cases hc : (l.any fun t => !rt t) = true
  · rw [if_pos hc]; exact ⟨rfl, rfl⟩
  · rw [if_neg hc] at h ⊢
    cases hr : runF (startL l) (List.range 8) with
    | none => exact ⟨rfl, rfl⟩
    | some r =>
      rw [hr] at h
      dsimp only at h ⊢
      unfold endP at h ⊢
      by_cases hb : r.any badC = true
      · rw [if_pos hb]; exact ⟨rfl, rfl⟩
      · rw [if_neg hb] at h
        exact absurd rfl h
theorem P_GaussTwice (a0 : List TTerm) (h : a0.length * 40 ≤ 140737488351232 ∧ ∀ z ∈ a0, okTTerm z) : m_law03_GaussTwice a0 = some true := by
  unfold m_law03_GaussTwice
  rw [awakeE, smallP h.1]
  simp only [some_bind', Bool.not_true, ifB_false]
  cases hs : sm a0 with
  | false => rfl
  | true =>
    obtain ⟨hi, hl⟩ := small_in h hs
    have sl := sol_len hl
    simp only [Bool.not_true, ifB_false, some_bind', solveE hi hl]
    by_cases c : (solP a0).2.2 = 0
    · rw [decide_eq_true c]
      simp only [Bool.not_true, ifB_false, solveE (sol_in hi) (show (solP a0).1.length ≤ 12 by omega), some_bind']
      rcases sol_sem hi with e | ⟨_, ⟨e1, e2, e3, e4⟩ | ⟨r, _, e, red, hs⟩⟩
      · omega
      · omega
      · have e2 : solP (solP a0).1 = solP a0 := by
          rw [e]
          refine solve_red red ?_
          rw [e] at sl
          dsimp only at sl
          rw [List.length_map] at sl; omega
        rw [e2, decide_eq_true c]
        simp only [ifB_true, same_self (sol_in hi) (show (solP a0).1.length ≤ 1000 by omega), some_bind', ints_self (l := (solP a0).2.1) (by omega)]
    · rw [decide_eq_false c]
      obtain ⟨e1, e2⟩ := sol_none c
      rw [e1, e2]; rfl
end Go.E
