import Derived.Test.YtnahfkmdojbpkaaMD
import Derived.Test.YtnahfkmdojbpkaaEPl
/-! Plain laws. -/
set_option linter.all false
set_option maxRecDepth 10000
namespace Go.E
open Go Go.Proofs Go.Eng
def rr (r : TRat) : Bool := decide (BallQ.Right r.f0 r.f1)
def addR (a b : TRat) : TRat × Int := toR (addS a.f0 a.f1 b.f0 b.f1)
def mulR (a b : TRat) : TRat × Int := toR (mulS a.f0 a.f1 b.f0 b.f1)
def divR (a b : TRat) : TRat × Int := toR (divS a.f0 a.f1 b.f0 b.f1)
theorem rR {r : TRat} (h : in64R r) : m_rat_Right r = some (rr r) := by unfold m_rat_Right; rw [rq_true (decide_eq_true h)]; rfl
theorem rR' {r : TRat} (h : in64R r) : m_ref01_Right r = some (rr r) := by unfold m_ref01_Right; rw [rq_true (decide_eq_true h)]; rfl
theorem aR {a b : TRat} (h : in64R a) (h' : in64R b) : m_rat_Add a b = some (addR a b) := by unfold m_rat_Add; rw [rq_true (decide_eq_true ⟨h, h'⟩)]; rfl
theorem mR {a b : TRat} (h : in64R a) (h' : in64R b) : m_rat_Mul a b = some (mulR a b) := by unfold m_rat_Mul; rw [rq_true (decide_eq_true ⟨h, h'⟩)]; rfl
theorem do0 {a b : TRat} (h : in64R a) (h' : in64R b) : m_ref01_Do 0 a b = some (addR a b) := by unfold m_ref01_Do; rw [rq_true (decide_eq_true ⟨h, h'⟩)]; rfl
theorem do2 {a b : TRat} (h : in64R a) (h' : in64R b) : m_ref01_Do 2 a b = some (mulR a b) := by unfold m_ref01_Do; rw [rq_true (decide_eq_true ⟨h, h'⟩)]; rfl
theorem do3 {a b : TRat} (h : in64R a) (h' : in64R b) : m_ref01_Do 3 a b = some (divR a b) := by unfold m_ref01_Do; rw [rq_true (decide_eq_true ⟨h, h'⟩)]; rfl
theorem z64 : in64R ⟨0, 0⟩ := by decide
theorem n64 : in64R ⟨0, 1⟩ := by decide
theorem nR : rr ⟨0, 1⟩ = true := by decide +kernel
theorem out_good (x : Rat) : in64R (toR (BallQ.out x)).1 ∧ ((toR (BallQ.out x)).2 = 0 → rr (toR (BallQ.out x)).1 = true) ∧ ((toR (BallQ.out x)).2 = 0 ∨ (toR (BallQ.out x)).2 = 3) := by
  by_cases h : BallQ.fits x
  · rw [out_ok h]
    obtain ⟨h1, h2, h3⟩ := BallQ.right_fits h
    exact ⟨⟨h2, h3⟩, fun _ => decide_eq_true h1, .inl rfl⟩
  · rw [out_over h]
    exact ⟨z64, (fun e => by cases e), .inr rfl⟩
theorem err_good : in64R (toR (0, 0, 2)).1 ∧ ((toR (0, 0, 2)).2 = 0 → rr (toR (0, 0, 2)).1 = true) := ⟨z64, fun e => by cases e⟩
theorem add_good (a b : TRat) : in64R (addR a b).1 ∧ ((addR a b).2 = 0 → rr (addR a b).1 = true) := by
  unfold addR addS
  split
  · exact ⟨(out_good _).1, (out_good _).2.1⟩
  · exact err_good
theorem mul_good (a b : TRat) : in64R (mulR a b).1 ∧ ((mulR a b).2 = 0 → rr (mulR a b).1 = true) := by
  unfold mulR mulS
  split
  · exact ⟨(out_good _).1, (out_good _).2.1⟩
  · exact err_good
theorem div_good (a b : TRat) : in64R (divR a b).1 ∧ ((divR a b).2 = 0 → rr (divR a b).1 = true) := by
  unfold divR divS
  split
  · unfold mulS
    split
    · exact ⟨(out_good _).1, (out_good _).2.1⟩
    · exact err_good
  · exact err_good
theorem dR {a b : TRat} (h : in64R a) (h' : in64R b) : m_rat_Div a b = some (divR a b) := by
  unfold m_rat_Div
  rw [rR h, rR h']
  simp only [some_bind']
  unfold divR divS
  by_cases ha : BallQ.Right a.f0 a.f1
  · have ra : rr a = true := decide_eq_true ha
    by_cases hb : BallQ.Right b.f0 b.f1
    · have rb : rr b = true := decide_eq_true hb
      by_cases hz : b.f0 = 0
      · rw [if_neg (fun x => x.2.2 hz), ra, rb, decide_eq_true hz]; rfl
      · rw [if_pos ⟨ha, hb, hz⟩, ra, rb, decide_eq_false hz]
        obtain ⟨i0, i1, i2, _⟩ := inv_right hb h'.1 h'.2 hz
        obtain ⟨⟨n1, n2⟩, d1, d2⟩ := h'
        obtain ⟨b1, b2, _⟩ := hb
        simp only [Bool.not_true, ifB_false, some_bind']
        by_cases hneg : b.f0 < 0
        · rw [decide_eq_true hneg]
          have e1 : IntKind.wrap .i64 (0 - b.f1) = invN b.f0 b.f1 := by unfold invN; rw [if_pos hneg, wrap_i64 (by omega) (by omega)]; omega
          have e2 : IntKind.wrap .i64 (0 - b.f0) = (b.f0.natAbs : Int) := by rw [wrap_i64 (by omega) (by omega)]; omega
          simp only [ifB_true, some_bind']
          rw [e1, e2, mR h (b := ⟨invN b.f0 b.f1, (b.f0.natAbs : Int)⟩) ⟨i1, i2⟩]
          rfl
        · rw [decide_eq_false hneg]
          have e1 : b.f1 = invN b.f0 b.f1 := by unfold invN; rw [if_neg hneg]
          have e2 : b.f0 = (b.f0.natAbs : Int) := by omega
          simp only [ifB_false, some_bind']
          have := mR h (b := ⟨invN b.f0 b.f1, (b.f0.natAbs : Int)⟩) ⟨i1, i2⟩
          rw [← e1, ← e2] at this
          rw [this]
          simp only [some_bind']
          unfold mulR
          rw [← e1, ← e2]
    · have rb : rr b = false := decide_eq_false hb
      rw [if_neg (fun x => hb x.2.1), ra, rb]; rfl
  · have ra : rr a = false := decide_eq_false ha
    rw [if_neg (fun x => ha x.1), ra]; rfl
structure in64T (t : TTerm) : Prop where
  k : in64R t.f1
  c : ∀ r ∈ t.f0, in64R r
  len : t.f0.length ≤ 1000
def rt (t : TTerm) : Bool := decide (t.f0.length ≤ 8) && rr t.f1 && t.f0.all rr
theorem len8 {n : Nat} : decide ((n : Int) ≤ 8) = decide (n ≤ 8) := decide_eq_decide.2 (by omega)
theorem idxR {l : List TRat} {f : TRat → Option Bool} {g : TRat → Bool} (h : l.length ≤ 1000) (hf : ∀ o ∈ l, f o = some (g o)) : m_slices_ContainsFunc_api_Rat l f = some (l.any g) := by
  unfold m_slices_ContainsFunc_api_Rat m_slices_IndexFunc_api_Rat
  rw [show ((0 : Int)) = ((0 : Nat) : Int) from rfl, loopO_first (b := m_slices_IndexFunc_api_Rat_L0 l f) (fun i : Nat => (i : Int)) l.length (fun i => match l[i]? with | some o => g o | none => false) (fun i => (i : Int)) () ?_ ?_]
  · cases hq : fst l.length (fun i => match l[i]? with | some o => g o | none => false) with
    | none =>
      rw [fst_none] at hq
      have : l.any g = false := by
        rw [List.any_eq_false]
        intro x hx
        obtain ⟨i, hi, rfl⟩ := List.getElem_of_mem hx
        have := hq i hi
        rw [List.getElem?_eq_getElem hi] at this
        simpa using this
      rw [this]; rfl
    | some i =>
      obtain ⟨h1, h2⟩ := fst_some hq
      rw [List.getElem?_eq_getElem h1] at h2
      have : l.any g = true := List.any_eq_true.2 ⟨_, List.getElem_mem h1, h2⟩
      rw [this]
      simp only [some_bind']
      rw [decide_eq_true (show ((0 : Nat) : Int) ≤ (i : Int) by omega)]
  · intro i hi _
    unfold m_slices_IndexFunc_api_Rat_L0
    simp only [lt_cast, decide_eq_true hi, ifB_true, gi_of hi, some_bind', hf _ (List.getElem_mem hi), List.getElem?_eq_getElem hi]
    rw [wrap_succ (by omega)]
    cases g l[i] <;> rfl
  · intro _
    unfold m_slices_IndexFunc_api_Rat_L0
    simp only [lt_cast, Nat.lt_irrefl, decide_false, ifB_false]
theorem any_not {l : List TRat} : (!(l.any fun r => !rr r)) = l.all rr := by
  induction l with
  | nil => rfl
  | cons a l ih => simp only [List.any_cons, List.all_cons, Bool.not_or, Bool.not_not, ih]
theorem tR {t : TTerm} (h : in64T t) : m_term_Right t = some (rt t) := by
  unfold m_term_Right rt
  rw [len8, rR h.k]
  have hl := h.len
  rw [idxR (g := fun r => !rr r) hl fun r hr => by unfold m_term_Right_1; rw [rR (h.c r hr)]; rfl]
  simp only [some_bind', any_not]
  cases decide (t.f0.length ≤ 8) <;> cases rr t.f1 <;> rfl
theorem tR' {t : TTerm} (h : in64T t) : m_ref02_Right t = some (rt t) := by
  unfold m_ref02_Right
  have hl := h.len
  rw [show ((0 : Int)) = ((0 : Nat) : Int) from rfl, loopO_first (b := m_ref02_Right_L0 t) (fun i : Nat => (i : Int)) t.f0.length (fun i => match t.f0[i]? with | some o => !rr o | none => false) (fun _ => false) () ?_ ?_]
  · unfold rt
    cases hq : fst t.f0.length (fun i => match t.f0[i]? with | some o => !rr o | none => false) with
    | none =>
      rw [fst_none] at hq
      have : t.f0.all rr = true := by
        rw [List.all_eq_true]
        intro x hx
        obtain ⟨i, hi, rfl⟩ := List.getElem_of_mem hx
        have := hq i hi
        rw [List.getElem?_eq_getElem hi] at this
        simpa using this
      rw [this, len8, Bool.and_true]
      simp only [some_bind', rR' h.k]
      cases decide (t.f0.length ≤ 8) <;> rfl
    | some i =>
      obtain ⟨h1, h2⟩ := fst_some hq
      rw [List.getElem?_eq_getElem h1] at h2
      have : t.f0.all rr = false := by
        rw [List.all_eq_false]
        exact ⟨_, List.getElem_mem h1, by simpa using h2⟩
      rw [this, Bool.and_false]; rfl
  · intro i hi _
    unfold m_ref02_Right_L0
    simp only [lt_cast, decide_eq_true hi, ifB_true, gi_of hi, some_bind', rR' (h.c _ (List.getElem_mem hi)), List.getElem?_eq_getElem hi]
    rw [wrap_succ (by omega)]
    cases rr t.f0[i] <;> rfl
  · intro _
    unfold m_ref02_Right_L0
    simp only [lt_cast, Nat.lt_irrefl, decide_false, ifB_false]
def atT (t : TTerm) (i : Nat) : TRat := (t.f0[i]?).getD ⟨0, 1⟩
theorem at_in {t : TTerm} (h : in64T t) (i : Nat) : in64R (atT t i) := by
  unfold atT
  cases hq : t.f0[i]? with
  | none => exact n64
  | some r => exact h.c r (List.mem_of_getElem? hq)
theorem at_rr {t : TTerm} (h : rt t = true) (i : Nat) : rr (atT t i) = true := by
  unfold atT
  cases hq : t.f0[i]? with
  | none => exact nR
  | some r =>
    unfold rt at h
    simp only [Bool.and_eq_true] at h
    exact List.all_eq_true.1 h.2 r (List.mem_of_getElem? hq)
theorem atP {t : TTerm} {i : Nat} : m_term_At t (i : Int) = some (atT t i) := by
  unfold m_term_At m_term_nought atT
  rw [decide_eq_false (show ¬ (i : Int) < 0 by omega)]
  by_cases h : i < t.f0.length
  · rw [decide_eq_false (show ¬ (t.f0.length : Int) ≤ (i : Int) by omega), gi_of h, List.getElem?_eq_getElem h]; rfl
  · rw [decide_eq_true (show (t.f0.length : Int) ≤ (i : Int) by omega), List.getElem?_eq_none (by omega)]; rfl
theorem atF {t : TTerm} {i : Nat} : m_ref02_At t (i : Int) = some (atT t i) := by
  unfold m_ref02_At m_ref02_zero atT
  rw [decide_eq_false (show ¬ (i : Int) < 0 by omega)]
  by_cases h : i < t.f0.length
  · rw [decide_eq_false (show ¬ (t.f0.length : Int) ≤ (i : Int) by omega), gi_of h, List.getElem?_eq_getElem h]; rfl
  · rw [decide_eq_true (show (t.f0.length : Int) ≤ (i : Int) by omega), List.getElem?_eq_none (by omega)]; rfl
/-- How many of the first n are kept: up to the last that isn't nought. -/
def cutN (l : List TRat) : Nat → Nat
  | 0 => 0
  | n + 1 => match l[n]? with
    | some r => if r.f0 = 0 then cutN l n else n + 1
    | none => cutN l n
theorem cutN_le (l : List TRat) : ∀ n, cutN l n ≤ n
  | 0 => Nat.le_refl _
  | n + 1 => by
    unfold cutN
    have := cutN_le l n
    split
    · split <;> omega
    · omega
theorem cutN_succ {l : List TRat} {n : Nat} (h : n < l.length) : cutN l (n + 1) = if (l[n]).f0 = 0 then cutN l n else n + 1 := by
  show (match l[n]? with | some r => if r.f0 = 0 then cutN l n else n + 1 | none => cutN l n) = _
  rw [List.getElem?_eq_getElem h]
def trimT (t : TTerm) : TTerm := ⟨t.f0.take (cutN t.f0 t.f0.length), t.f1⟩
theorem subL_take {l : List TRat} {n : Nat} (h : n ≤ l.length) : subL l 0 (n : Int) = some (l.take n) := by
  unfold subL
  simp [h]
theorem trimP {t : TTerm} (h : t.f0.length ≤ 1000) : m_term_trim t = some (trimT t) := by
  unfold m_term_trim
  have main : ∀ n, n ≤ t.f0.length → loopO (m_term_trim_L0 t) (n : Int) = some ((cutN t.f0 n : Nat) : Int) := by
    intro n
    induction n with
    | zero =>
      intro _
      refine loopO_inr ?_
      rfl
    | succ n ih =>
      intro hn
      have hlt : n < t.f0.length := by omega
      have e1 : IntKind.wrap .i64 (((n + 1 : Nat) : Int) - 1) = (n : Int) := by rw [wrap_i64 (by omega) (by omega)]; omega
      have hb : m_term_trim_L0 t ((n + 1 : Nat) : Int) = if (t.f0[n]).f0 = 0 then some (.inl (n : Int)) else some (.inr ((n + 1 : Nat) : Int)) := by
        unfold m_term_trim_L0
        dsimp only
        rw [decide_eq_true (show (0 : Int) < ((n + 1 : Nat) : Int) by omega), ifB_true, e1, gi_of hlt]
        simp only [some_bind']
        by_cases hz : (t.f0[n]).f0 = 0
        · rw [if_pos hz, decide_eq_true hz]; rfl
        · rw [if_neg hz, decide_eq_false hz]; rfl
      rw [cutN_succ hlt]
      by_cases hz : (t.f0[n]).f0 = 0
      · rw [if_pos hz]
        rw [if_pos hz] at hb
        rw [loopO_inl hb]
        exact ih (by omega)
      · rw [if_neg hz]
        rw [if_neg hz] at hb
        exact loopO_inr hb
  rw [main _ (Nat.le_refl _)]
  have hc := cutN_le t.f0 t.f0.length
  simp only [some_bind', subL_take hc]
  unfold m_slices_Clone_api_Rat
  rw [rq_true (decide_eq_true (by rw [List.length_take]; omega))]
  rfl
def ownT (t : TTerm) : TTerm := if rt t then trimT t else ⟨[], ⟨0, 1⟩⟩
theorem ownP {t : TTerm} (h : in64T t) : m_term_Own t = some (ownT t) := by
  unfold m_term_Own m_term_nought ownT
  rw [tR h]
  simp only [some_bind']
  cases rt t with
  | false => rfl
  | true =>
    simp only [Bool.not_true, ifB_false, trimP h.len, some_bind']
    rfl
theorem ownF {t : TTerm} (h : in64T t) : m_ref02_Own t = some (ownT t) := by
  unfold m_ref02_Own m_ref02_zero ownT
  rw [tR' h]
  simp only [some_bind']
  have hl := h.len
  cases rt t with
  | false => rfl
  | true =>
    simp only [Bool.not_true, ifB_false]
    have key : ∃ r, loopO (m_ref02_Own_L0 t) (0, 0) = some r ∧ r = ((cutN t.f0 t.f0.length : Nat) : Int) := by
      refine loopO_count t.f0.length (fun n st => st.2 = (n : Int) ∧ st.1 = ((cutN t.f0 n : Nat) : Int)) _ ?_ ?_ ⟨rfl, rfl⟩
      · rintro n ⟨v, w⟩ hn ⟨rfl, rfl⟩
        left
        unfold m_ref02_Own_L0
        simp only [lt_cast, decide_eq_true hn, ifB_true, gi_of hn, some_bind']
        rw [wrap_succ (by omega)]
        rw [cutN_succ hn]
        by_cases hz : (t.f0[n]).f0 = 0
        · rw [decide_eq_true hz, if_pos hz]; exact ⟨_, rfl, rfl, rfl⟩
        · rw [decide_eq_false hz, if_neg hz]; exact ⟨_, rfl, rfl, rfl⟩
      · rintro ⟨v, w⟩ ⟨rfl, rfl⟩
        unfold m_ref02_Own_L0
        simp only [lt_cast, Nat.lt_irrefl, decide_false, ifB_false]
        exact ⟨_, rfl, rfl⟩
    obtain ⟨_, hr, rfl⟩ := key
    rw [hr]
    have hc := cutN_le t.f0 t.f0.length
    simp only [some_bind', subL_take hc]
    rw [rq_true (decide_eq_true (by simp only [List.length_nil, List.length_take]; omega))]
    rfl
abbrev zT : TTerm := ⟨[], ⟨0, 0⟩⟩
def lst (f : Nat → TRat × Int) (n : Nat) : List TRat := (List.range n).map fun i => (f i).1
theorem lst_succ {f : Nat → TRat × Int} {n : Nat} : lst f (n + 1) = lst f n ++ [(f n).1] := by
  unfold lst; rw [List.range_succ, List.map_append]; rfl
theorem lst_len {f : Nat → TRat × Int} {n : Nat} : (lst f n).length = n := by unfold lst; simp
def bad (f : Nat → TRat × Int) (i : Nat) : Bool := !decide ((f i).2 = 0)
/-- A term of fractions that are reckoned: the first error counts. -/
def eachT (k : TRat × Int) (f : Nat → TRat × Int) (n : Nat) : TTerm × Int := if k.2 = 0 then (match fst n (bad f) with | some i => (zT, (f i).2) | none => (trimT ⟨lst f n, k.1⟩, 0)) else (zT, k.2)
theorem eachP {n : Nat} {g : Int → Option (TRat × Int)} {k : TRat × Int} {f : Nat → TRat × Int} (h : n ≤ 1000) (hk : g (-1) = some k) (hf : ∀ i : Nat, i < n → g (i : Int) = some (f i)) : m_term_each (n : Int) g = some (eachT k f n) := by
  unfold m_term_each
  have en : IntKind.wrap .i64 ((n : Int) + 1) = ((n + 1 : Nat) : Int) := wrap_succ (by omega)
  have first : m_term_each_L0 (n : Int) g (0, [], 0, 0) = if k.2 = 0 then some (.inl (1, [], k.1.f0, k.1.f1)) else some (.inr (.inr (zT, k.2))) := by
    unfold m_term_each_L0
    dsimp only
    rw [en, decide_eq_true (show (0 : Int) < ((n + 1 : Nat) : Int) by omega), ifB_true, show IntKind.wrap .i64 ((0 : Int) - 1) = -1 from rfl, hk]
    simp only [some_bind']
    by_cases hz : k.2 = 0
    · rw [if_pos hz, decide_eq_true hz]; rfl
    · rw [if_neg hz, decide_eq_false hz]; rfl
  unfold eachT
  by_cases hz : k.2 = 0
  · rw [if_pos hz] at first ⊢
    rw [loopO_inl first]
    have key : loopO (m_term_each_L0 (n : Int) g) (1, [], k.1.f0, k.1.f1) = some (match fst n (bad f) with | some i => .inr (zT, (f i).2) | none => .inl (lst f n, k.1.f0, k.1.f1)) := by
      have := loopO_first (b := m_term_each_L0 (n : Int) g) (fun i : Nat => (((i + 1 : Nat) : Int), lst f i, k.1.f0, k.1.f1)) n (bad f) (fun i => (zT, (f i).2)) (lst f n, k.1.f0, k.1.f1) ?_ ?_
      · exact this
      · intro i hi _
        unfold m_term_each_L0
        dsimp only
        have e1 : IntKind.wrap .i64 (((i + 1 : Nat) : Int) - 1) = (i : Int) := by rw [wrap_i64 (by omega) (by omega)]; omega
        rw [en, decide_eq_true (show ((i + 1 : Nat) : Int) < ((n + 1 : Nat) : Int) by omega), ifB_true, e1, hf i hi]
        simp only [some_bind']
        unfold bad
        by_cases hz : (f i).2 = 0
        · rw [decide_eq_true hz, decide_eq_false (show ¬ ((i + 1 : Nat) : Int) = 0 by omega)]
          simp only [Bool.not_true, ifB_false]
          rw [rq_true (decide_eq_true (by rw [lst_len]; simp; omega)), wrap_succ (by omega), ← lst_succ]
          rfl
        · rw [decide_eq_false hz]; rfl
      · intro _
        unfold m_term_each_L0
        dsimp only
        rw [en, decide_eq_false (show ¬ ((n + 1 : Nat) : Int) < ((n + 1 : Nat) : Int) by omega)]
        rfl
    rw [key]
    cases fst n (bad f) with
    | some i => rfl
    | none =>
      simp only [some_bind']
      rw [trimP (t := ⟨lst f n, ⟨k.1.f0, k.1.f1⟩⟩) (by dsimp only; rw [lst_len]; omega)]
      rfl
  · rw [if_neg hz] at first ⊢
    rw [loopO_inr first]
    rfl
theorem rr_in {r : TRat} : True := trivial
def addT (a b : TTerm) : TTerm × Int := if rt a && rt b then eachT (addR a.f1 b.f1) (fun i => addR (atT a i) (atT b i)) (max a.f0.length b.f0.length) else (zT, 2)
def mulT (a : TTerm) (r : TRat) : TTerm × Int := if rt a && rr r then eachT (mulR a.f1 r) (fun i => mulR (atT a i) r) a.f0.length else (zT, 2)
theorem oneP {t : TTerm} {i : Nat} : m_term_one t (i : Int) = some (atT t i) := by
  unfold m_term_one
  rw [decide_eq_false (show ¬ (i : Int) < 0 by omega), atP]; rfl
theorem one1 {t : TTerm} : m_term_one t (-1) = some t.f1 := rfl
theorem addP {a b : TTerm} (ha : in64T a) (hb : in64T b) : m_term_Add a b = some (addT a b) := by
  unfold m_term_Add addT
  rw [tR ha, tR hb]
  simp only [some_bind']
  cases h1 : rt a with
  | false => rfl
  | true =>
    cases h2 : rt b with
    | false => rfl
    | true =>
      simp only [Bool.not_true, ifB_false, some_bind', Bool.and_self, if_true]
      have em : (if (a.f0.length : Int) < (b.f0.length : Int) then (b.f0.length : Int) else (a.f0.length : Int)) = ((max a.f0.length b.f0.length : Nat) : Int) := by split <;> omega
      have la := ha.len
      have lb := hb.len
      rw [em, eachP (k := addR a.f1 b.f1) (f := fun i => addR (atT a i) (atT b i)) (by omega) ?_ ?_]
      · rfl
      · unfold m_term_Add_1
        rw [one1, one1]
        simp only [some_bind', aR ha.k hb.k]
      · intro i _
        unfold m_term_Add_1
        rw [oneP, oneP]
        simp only [some_bind', aR (at_in ha i) (at_in hb i)]
theorem scaleP {a : TTerm} {r : TRat} (ha : in64T a) (hr : in64R r) : m_term_Scale a r = some (mulT a r) := by
  unfold m_term_Scale mulT
  rw [tR ha, rR hr]
  simp only [some_bind']
  cases h1 : rt a with
  | false => rfl
  | true =>
    cases h2 : rr r with
    | false => rfl
    | true =>
      simp only [Bool.not_true, ifB_false, some_bind', Bool.and_self, if_true]
      have la := ha.len
      rw [eachP (k := mulR a.f1 r) (f := fun i => mulR (atT a i) r) (by omega) ?_ ?_]
      · rfl
      · unfold m_term_Scale_1
        rw [one1]
        simp only [some_bind', mR ha.k hr]
      · intro i _
        unfold m_term_Scale_1
        rw [oneP]
        simp only [some_bind', mR (at_in ha i) hr]
theorem lst_in {f : Nat → TRat × Int} {k : TRat} {n : Nat} (h : n ≤ 1000) (hk : in64R k) (hf : ∀ i, in64R (f i).1) : in64T ⟨lst f n, k⟩ :=
  ⟨hk, fun r hr => by unfold lst at hr; obtain ⟨i, _, rfl⟩ := List.mem_map.1 hr; exact hf i, by dsimp only; rw [lst_len]; exact h⟩
theorem lst_rt {f : Nat → TRat × Int} {k : TRat} {n : Nat} (h : n ≤ 8) (hk : rr k = true) (hf : ∀ i, i < n → rr (f i).1 = true) : rt ⟨lst f n, k⟩ = true := by
  unfold rt
  dsimp only
  rw [lst_len, decide_eq_true h, hk]
  simp only [Bool.and_self, Bool.true_and]
  rw [List.all_eq_true]
  intro r hr
  unfold lst at hr
  obtain ⟨i, hi, rfl⟩ := List.mem_map.1 hr
  exact hf i (List.mem_range.1 hi)
theorem rt_len {t : TTerm} (h : rt t = true) : t.f0.length ≤ 8 := by
  unfold rt at h
  simp only [Bool.and_eq_true, decide_eq_true_eq] at h
  exact h.1.1
theorem doF {op : Int} {opR : TRat → TRat → TRat × Int} {a b : TTerm} {y : Nat → TRat} (ha : in64T a) (hb : in64T b) (hop : ∀ x z, in64R x → in64R z → m_ref01_Do op x z = some (opR x z))
    (hg : ∀ x z, in64R (opR x z).1 ∧ ((opR x z).2 = 0 → rr (opR x z).1 = true)) (hy : ∀ i, y i = if op = 2 then b.f1 else atT b i) :
    m_ref02_Do op a b = some (if rt a && rt b then eachT (opR a.f1 b.f1) (fun i => opR (atT a i) (y i)) (max a.f0.length b.f0.length) else (zT, 2)) := by
  unfold m_ref02_Do
  rw [tR' ha, tR' hb]
  simp only [some_bind']
  cases h1 : rt a with
  | false => rfl
  | true =>
    cases h2 : rt b with
    | false => rfl
    | true =>
      simp only [Bool.not_true, ifB_false, some_bind', Bool.and_self, if_true, hop _ _ ha.k hb.k]
      have hyi : ∀ i, in64R (y i) := fun i => by
        rw [hy]; split
        · exact hb.k
        · exact at_in hb i
      have la := rt_len h1
      have lb := rt_len h2
      obtain ⟨n, hn⟩ : ∃ n, n = max a.f0.length b.f0.length := ⟨_, rfl⟩
      have n8 : n ≤ 8 := by omega
      rw [← hn]
      obtain ⟨f, hf⟩ : ∃ f : Nat → TRat × Int, f = fun i => opR (atT a i) (y i) := ⟨_, rfl⟩
      rw [← hf]
      have hfg : ∀ i, in64R (f i).1 ∧ ((f i).2 = 0 → rr (f i).1 = true) := fun i => by rw [hf]; exact hg _ _
      unfold eachT
      by_cases hz : (opR a.f1 b.f1).2 = 0
      · rw [if_pos hz, decide_eq_true hz]
        simp only [Bool.not_true, ifB_false]
        have key : loopO (m_ref02_Do_L0 a b op) (0, []) = some (match fst n (bad f) with | some i => .inr (zT, (f i).2) | none => .inl (lst f n)) := by
          have := loopO_first (b := m_ref02_Do_L0 a b op) (fun i : Nat => ((i : Int), lst f i)) n (bad f) (fun i => (zT, (f i).2)) (lst f n) ?_ ?_
          · exact this
          · intro i hi _
            unfold m_ref02_Do_L0
            dsimp only
            have hc : (ifB (decide ((i : Int) < (a.f0.length : Int))) (some true) (some (decide ((i : Int) < (b.f0.length : Int)))) : Option Bool) = some true := by
              by_cases h : (i : Int) < (a.f0.length : Int)
              · rw [decide_eq_true h]; rfl
              · rw [decide_eq_false h, decide_eq_true (by omega)]; rfl
            rw [hc]
            simp only [some_bind', ifB_true, atF]
            have hyy : (ifB (decide (op = 2)) (some (b.f1.f0, b.f1.f1)) (some ((atT b i).f0, (atT b i).f1)) : Option (Int × Int)) = some ((y i).f0, (y i).f1) := by
              rw [hy]
              by_cases h : op = 2
              · rw [decide_eq_true h, if_pos h]; rfl
              · rw [decide_eq_false h, if_neg h]; rfl
            rw [hyy]
            simp only [some_bind', hop _ _ (at_in ha i) (hyi i)]
            have ef : opR (atT a i) (y i) = f i := by rw [hf]
            rw [ef]
            unfold bad
            by_cases hz : (f i).2 = 0
            · rw [decide_eq_true hz]
              simp only [Bool.not_true, ifB_false]
              rw [rq_true (decide_eq_true (by rw [lst_len]; simp; omega)), wrap_succ (by omega), ← lst_succ]
              rfl
            · rw [decide_eq_false hz]; rfl
          · intro _
            unfold m_ref02_Do_L0
            dsimp only
            rw [decide_eq_false (show ¬ (n : Int) < (a.f0.length : Int) by omega), decide_eq_false (show ¬ (n : Int) < (b.f0.length : Int) by omega)]
            rfl
        rw [key]
        cases hq : fst n (bad f) with
        | some i => rfl
        | none =>
          simp only [some_bind']
          have hb0 := fst_none.1 hq
          rw [ownF (lst_in (by omega) (hg _ _).1 fun i => (hfg i).1)]
          unfold ownT
          rw [lst_rt n8 ((hg _ _).2 hz) fun i hi => (hfg i).2 (by have := hb0 i hi; unfold bad at this; simpa using this)]
          rfl
      · rw [if_neg hz, decide_eq_false hz]; rfl
theorem do0T {a b : TTerm} (ha : in64T a) (hb : in64T b) : m_ref02_Do 0 a b = some (addT a b) :=
  doF (opR := addR) (y := fun i => atT b i) ha hb (fun _ _ h h' => do0 h h') add_good fun i => by rw [if_neg (by decide)]
theorem timesF {a : TTerm} {r : TRat} (ha : in64T a) (hr : in64R r) : m_ref03_times a r = some (mulT a r) := by
  unfold m_ref03_times
  have hb : in64T ⟨[], r⟩ := ⟨hr, (fun _ h => by cases h), Nat.zero_le _⟩
  rw [doF (opR := mulR) (y := fun _ => r) ha hb (fun _ _ h h' => do2 h h') mul_good fun i => by rw [if_pos rfl]]
  simp only [some_bind']
  have e1 : rt ⟨[], r⟩ = rr r := by unfold rt; simp
  rw [e1]
  unfold mulT
  simp only [List.length_nil, Nat.max_zero]
theorem trim_in {t : TTerm} (h : in64T t) : in64T (trimT t) := by
  refine ⟨h.k, fun r hr => h.c r (List.mem_of_mem_take hr), ?_⟩
  have := h.len
  unfold trimT
  dsimp only
  rw [List.length_take]; omega
theorem trim_rt {t : TTerm} (h : rt t = true) : rt (trimT t) = true := by
  unfold rt at h ⊢
  simp only [Bool.and_eq_true, decide_eq_true_eq, List.all_eq_true] at h ⊢
  refine ⟨⟨?_, h.1.2⟩, fun r hr => h.2 r (List.mem_of_mem_take hr)⟩
  unfold trimT
  dsimp only
  rw [List.length_take]; omega
theorem z_in : in64T zT := ⟨z64, (fun _ h => by cases h), Nat.zero_le _⟩
theorem each_good {k : TRat × Int} {f : Nat → TRat × Int} {n : Nat} (h : n ≤ 8) (hk : in64R k.1 ∧ (k.2 = 0 → rr k.1 = true)) (hf : ∀ i, in64R (f i).1 ∧ ((f i).2 = 0 → rr (f i).1 = true)) :
    in64T (eachT k f n).1 ∧ ((eachT k f n).2 = 0 → rt (eachT k f n).1 = true) := by
  unfold eachT
  by_cases hz : k.2 = 0
  · rw [if_pos hz]
    cases hq : fst n (bad f) with
    | some i =>
      have := (fst_some hq).2
      unfold bad at this
      simp at this
      exact ⟨z_in, fun e => absurd e this⟩
    | none =>
      have hb0 := fst_none.1 hq
      exact ⟨trim_in (lst_in (by omega) hk.1 fun i => (hf i).1), fun _ => trim_rt (lst_rt h (hk.2 hz) fun i hi => (hf i).2 (by have := hb0 i hi; unfold bad at this; simpa using this))⟩
  · rw [if_neg hz]
    exact ⟨z_in, fun e => absurd e hz⟩
theorem addT_good {a b : TTerm} : in64T (addT a b).1 ∧ ((addT a b).2 = 0 → rt (addT a b).1 = true) := by
  unfold addT
  split
  · rename_i h
    simp only [Bool.and_eq_true] at h
    have := rt_len h.1
    have := rt_len h.2
    exact each_good (by omega) (add_good _ _) fun i => add_good _ _
  · exact ⟨z_in, fun e => by cases e⟩
theorem mulT_good {a : TTerm} {r : TRat} : in64T (mulT a r).1 ∧ ((mulT a r).2 = 0 → rt (mulT a r).1 = true) := by
  unfold mulT
  split
  · rename_i h
    simp only [Bool.and_eq_true] at h
    have := rt_len h.1
    exact each_good (by omega) (mul_good _ _) fun i => mul_good _ _
  · exact ⟨z_in, fun e => by cases e⟩
def mkL {α : Type} (n : Nat) (f : Nat → α) : List α := (List.range n).map f
theorem mk_len {α : Type} {n : Nat} {f : Nat → α} : (mkL n f).length = n := by unfold mkL; simp
theorem mk_at {α : Type} {n i : Nat} {f : Nat → α} (h : i < n) : (mkL n f)[i]? = some (f i) := by unfold mkL; simp [h]
theorem mk_gi {α : Type} {n i : Nat} {f : Nat → α} (h : i < n) : gi (mkL n f) (i : Int) = some (f i) := by rw [gi_nat, mk_at h]
theorem mk_congr {α : Type} {n : Nat} {f g : Nat → α} (h : ∀ i, i < n → f i = g i) : mkL n f = mkL n g := by
  unfold mkL
  exact List.map_congr_left fun i hi => h i (List.mem_range.1 hi)
theorem mk_set {α : Type} {n i : Nat} {f : Nat → α} {x : α} : (mkL n f).set i x = mkL n fun j => if j = i then x else f j := by
  apply List.ext_getElem?
  intro j
  by_cases hj : j < n
  · rw [mk_at hj, List.getElem?_set, mk_at hj, mk_len]
    by_cases h : i = j
    · subst h; simp [hj]
    · have : ¬ j = i := fun e => h e.symm
      simp [h, this]
  · rw [List.getElem?_eq_none (by rw [List.length_set, mk_len]; omega), List.getElem?_eq_none (by rw [mk_len]; omega)]
theorem mk_mem {α : Type} {n : Nat} {f : Nat → α} {x : α} : x ∈ mkL n f ↔ ∃ i, i < n ∧ f i = x := by unfold mkL; simp
abbrev Row := TGauss_row
def rowAt (l : List Row) (i : Nat) : Row := (l[i]?).getD ⟨zT, -1⟩
theorem row_of {l : List Row} {i : Nat} (h : i < l.length) : l[i] = rowAt l i := by unfold rowAt; rw [List.getElem?_eq_getElem h]; rfl
theorem row_gi {l : List Row} {i : Nat} (h : i < l.length) : gi l (i : Int) = some (rowAt l i) := by rw [gi_of h, row_of h]
theorem row_mk {n i : Nat} {f : Nat → Row} (h : i < n) : rowAt (mkL n f) i = f i := by unfold rowAt; rw [mk_at h]; rfl
theorem mk_self {l : List Row} : mkL l.length (rowAt l) = l := by
  apply List.ext_getElem?
  intro j
  by_cases hj : j < l.length
  · rw [mk_at hj, List.getElem?_eq_getElem hj, row_of hj]
  · rw [List.getElem?_eq_none (by rw [mk_len]; omega), List.getElem?_eq_none (by omega)]
def goodL (l : List Row) : Prop := ∀ i, in64T (rowAt l i).f0
def neg (c : TRat) : TRat := ⟨IntKind.wrap .i64 (0 - c.f0), c.f1⟩
theorem neg_in {c : TRat} (h : in64R c) : in64R (neg c) := by
  refine ⟨?_, h.2⟩
  unfold neg
  constructor
  · dsimp only; rw [IntKind.wrap_i64]; omega
  · dsimp only; rw [IntKind.wrap_i64]; omega
def lessT (a p : TTerm) (c : TRat) : TTerm × Int := if (mulT p (neg c)).2 = 0 then addT a (mulT p (neg c)).1 else (zT, (mulT p (neg c)).2)
theorem lessT_in {a p : TTerm} {c : TRat} : in64T (lessT a p c).1 := by
  unfold lessT; split
  · exact addT_good.1
  · exact z_in
def skip (rows : List Row) (a v i : Nat) : Bool := decide (i = a) || decide ((atT (rowAt rows i).f0 v).f0 = 0)
def lessAt (rows : List Row) (p : TTerm) (v i : Nat) : TTerm × Int := lessT (rowAt rows i).f0 p (atT (rowAt rows i).f0 v)
def newR (rows : List Row) (p : TTerm) (a v i : Nat) : Row := if i = a then ⟨p, (v : Int)⟩ else if skip rows a v i then rowAt rows i else ⟨(lessAt rows p v i).1, (rowAt rows i).f1⟩
def badR (rows : List Row) (p : TTerm) (a v i : Nat) : Bool := !skip rows a v i && !decide ((lessAt rows p v i).2 = 0)
def invT (rows : List Row) (a v : Nat) : TRat × Int := divR ⟨1, 1⟩ (atT (rowAt rows a).f0 v)
def pivT (rows : List Row) (a v : Nat) : TTerm × Int := mulT (rowAt rows a).f0 (invT rows a v).1
def pivB (rows : List Row) (a v : Nat) : Bool := decide ((invT rows a v).2 = 0) && decide ((pivT rows a v).2 = 0)
def takeP (rows : List Row) (a v : Nat) : Option (List Row) :=
  if pivB rows a v then (match fst rows.length (badR rows (pivT rows a v).1 a v) with | some _ => none | none => some (mkL rows.length (newR rows (pivT rows a v).1 a v))) else none
theorem new_good {rows : List Row} {a v : Nat} (h : goodL rows) {i : Nat} : in64T (newR rows (pivT rows a v).1 a v i).f0 := by
  unfold newR
  split
  · exact mulT_good.1
  · split
    · exact h i
    · exact lessT_in
theorem mkL_good {n : Nat} {f : Nat → Row} (h : ∀ i, in64T (f i).f0) : goodL (mkL n f) := by
  intro i
  by_cases hi : i < n
  · rw [row_mk hi]; exact h i
  · unfold rowAt; rw [List.getElem?_eq_none (by rw [mk_len]; omega)]; exact z_in
theorem take_good {rows r : List Row} {a v : Nat} (h : goodL rows) (e : takeP rows a v = some r) : goodL r ∧ r.length = rows.length := by
  unfold takeP at e
  split at e
  · split at e
    · cases e
    · cases e; exact ⟨mkL_good fun i => new_good h, mk_len⟩
  · cases e
theorem keepP {s : TGauss_system} {t : TTerm} {e : Int} : m_gauss_system_keep s t e = some (t, ⟨s.f0, s.f1 || !decide (e = 0)⟩) := by
  unfold m_gauss_system_keep
  cases s.f1 <;> rfl
theorem timesP {s : TGauss_system} {t : TTerm} {r : TRat} (ht : in64T t) (hr : in64R r) : m_gauss_system_times s t r = some ((mulT t r).1, ⟨s.f0, s.f1 || !decide ((mulT t r).2 = 0)⟩) := by
  unfold m_gauss_system_times
  rw [scaleP ht hr]
  simp only [some_bind', keepP]
theorem over_loop {s : TGauss_system} {a2 a1 : Nat} {r : TTerm × TGauss_system} {l : List Row} (hl : l.length = s.f0.length) (hb : s.f0.length ≤ 1000) : ∀ k i : Nat, i + k = s.f0.length → loopO (m_gauss_system_take_L0 s a2 a1 r) ((i : Int), true, l) = some (true, l) := by
  intro k
  induction k with
  | zero =>
    intro i hi
    refine loopO_inr ?_
    unfold m_gauss_system_take_L0
    dsimp only
    rw [decide_eq_false (by omega)]; rfl
  | succ k ih =>
    intro i hi
    have hb : m_gauss_system_take_L0 s a2 a1 r ((i : Int), true, l) = some (.inl (((i + 1 : Nat) : Int), true, l)) := by
      unfold m_gauss_system_take_L0
      dsimp only
      rw [decide_eq_true (show (i : Int) < (s.f0.length : Int) by omega), ifB_true, rq_true (decide_eq_true (by omega)), rq_true (decide_eq_true (by omega)), row_gi (by omega)]
      simp only [some_bind', atP]
      have : (ifB (decide ((i : Int) = (a1 : Int))) (some true) (ifB (decide ((atT (rowAt l i).f0 a2).f0 = 0)) (some true) (some true)) : Option Bool) = some true := by
        cases decide ((i : Int) = (a1 : Int)) <;> cases decide ((atT (rowAt l i).f0 a2).f0 = 0) <;> rfl
      rw [this]
      simp only [some_bind', ifB_true]
      rw [wrap_succ (by omega)]
    rw [loopO_inl hb]
    exact ih (i + 1) (by omega)
theorem take_loop {rows : List Row} {a v : Nat} (ha : a < rows.length) (hg : goodL rows) (hb : rows.length ≤ 1000) {p : TTerm} (hp : in64T p) {sy : TGauss_system} :
    ∀ k i : Nat, i + k = rows.length → (∃ l', loopO (m_gauss_system_take_L0 ⟨rows, false⟩ (v : Int) (a : Int) (p, sy)) ((i : Int), false, mkL rows.length fun j => if j < i then newR rows p a v j else if j = a then ⟨p, (v : Int)⟩ else rowAt rows j) =
      some (!(List.range' i k).all (fun j => !badR rows p a v j), l') ∧ l'.length = rows.length ∧ ((List.range' i k).all (fun j => !badR rows p a v j) = true → l' = mkL rows.length (newR rows p a v))) := by
  intro k
  induction k with
  | zero =>
    intro i hi
    refine ⟨_, loopO_inr (x := (false, mkL rows.length fun j => if j < i then newR rows p a v j else if j = a then ⟨p, (v : Int)⟩ else rowAt rows j)) ?_, mk_len, fun _ => mk_congr fun j hj => if_pos (by omega)⟩
    unfold m_gauss_system_take_L0
    dsimp only
    rw [decide_eq_false (by omega)]; rfl
  | succ k ih =>
    intro i hi
    obtain ⟨cur, hcur⟩ : ∃ cur, cur = mkL rows.length fun j => if j < i then newR rows p a v j else if j = a then ⟨p, (v : Int)⟩ else rowAt rows j := ⟨_, rfl⟩
    have hil : i < rows.length := by omega
    have hc : gi cur (i : Int) = some (if i = a then ⟨p, (v : Int)⟩ else rowAt rows i) := by rw [hcur, mk_gi hil, if_neg (Nat.lt_irrefl i)]
    have cl : cur.length = rows.length := by rw [hcur, mk_len]
    rw [← hcur, List.range'_succ, List.all_cons]
    have next : ∀ {x : Row}, newR rows p a v i = x → mkL rows.length (fun j => if j < i + 1 then newR rows p a v j else if j = a then ⟨p, (v : Int)⟩ else rowAt rows j) = cur.set i x := by
      intro x hx
      rw [hcur, mk_set]
      refine mk_congr fun j hj => ?_
      by_cases h1 : j = i
      · subst h1; rw [if_pos (by omega), if_pos rfl, hx]
      · rw [if_neg h1]
        by_cases h2 : j < i
        · rw [if_pos (by omega), if_pos h2]
        · rw [if_neg (by omega), if_neg h2]
    have nsk : skip rows a v i = true → cur.set i (newR rows p a v i) = cur := by
      intro h
      rw [hcur, mk_set]
      refine mk_congr fun j hj => ?_
      by_cases h1 : j = i
      · subst h1
        rw [if_pos rfl, if_neg (Nat.lt_irrefl _)]
        unfold newR
        by_cases h2 : j = a
        · rw [if_pos h2, if_pos h2]
        · rw [if_neg h2, if_neg h2, if_pos h]
      · rw [if_neg h1]
    have start : m_gauss_system_take_L0 ⟨rows, false⟩ (v : Int) (a : Int) (p, sy) ((i : Int), false, cur) = (if skip rows a v i then some (.inl (((i + 1 : Nat) : Int), false, cur)) else
        (if (mulT p (neg (atT (rowAt rows i).f0 v))).2 = 0 then some (.inl (((i + 1 : Nat) : Int), !decide ((lessAt rows p v i).2 = 0), cur.set i ⟨(lessAt rows p v i).1, (rowAt rows i).f1⟩)) else some (.inl (((i + 1 : Nat) : Int), true, cur)))) := by
      unfold m_gauss_system_take_L0
      dsimp only
      rw [decide_eq_true (show (i : Int) < (rows.length : Int) by omega), ifB_true, rq_true (decide_eq_true (by omega)), rq_true (decide_eq_true (by omega)), hc]
      simp only [some_bind', atP]
      unfold skip
      by_cases h1 : i = a
      · rw [decide_eq_true (show (i : Int) = (a : Int) by omega), decide_eq_true h1]
        simp only [ifB_true, some_bind', Bool.true_or, if_true]
        rw [wrap_succ (by omega)]
      · rw [decide_eq_false (show ¬ (i : Int) = (a : Int) by omega), decide_eq_false h1, if_neg h1]
        simp only [ifB_false, Bool.false_or]
        by_cases h2 : (atT (rowAt rows i).f0 v).f0 = 0
        · rw [decide_eq_true h2]
          simp only [ifB_true, some_bind', if_true]
          rw [wrap_succ (by omega)]
        · rw [decide_eq_false h2]
          have hn : in64R (⟨IntKind.wrap .i64 (0 - (atT (rowAt rows i).f0 v).f0), (atT (rowAt rows i).f0 v).f1⟩ : TRat) := neg_in (at_in (hg i) v)
          simp only [ifB_false, some_bind', Bool.false_eq_true, if_false, timesP hp hn, Bool.false_or]
          show _ = (if (mulT p (neg (atT (rowAt rows i).f0 v))).2 = 0 then _ else _)
          have e0 : (⟨IntKind.wrap .i64 (0 - (atT (rowAt rows i).f0 v).f0), (atT (rowAt rows i).f0 v).f1⟩ : TRat) = neg (atT (rowAt rows i).f0 v) := rfl
          rw [e0]
          by_cases h3 : (mulT p (neg (atT (rowAt rows i).f0 v))).2 = 0
          · rw [decide_eq_true h3, if_pos h3]
            simp only [Bool.not_true, Bool.not_false, ifB_true, addP (hg i) mulT_good.1, some_bind', keepP, Bool.false_or, hc, if_neg h1]
            rw [wrap_succ (by omega)]
            unfold lessAt lessT
            rw [if_pos h3]
            rfl
          · rw [decide_eq_false h3, if_neg h3]
            simp only [Bool.not_false, Bool.not_true, ifB_false, some_bind']
            rw [wrap_succ (by omega)]
    have bad0 : badR rows p a v i = (!skip rows a v i && !decide ((lessAt rows p v i).2 = 0)) := rfl
    cases hs : skip rows a v i with
    | true =>
      rw [hs, if_pos rfl] at start
      rw [loopO_inl start]
      have e1 := next (x := newR rows p a v i) rfl
      rw [nsk hs] at e1
      rw [hs] at bad0
      rw [bad0, ← e1]
      exact ih (i + 1) (by omega)
    | false =>
      rw [hs, if_neg (by decide)] at start
      rw [hs] at bad0
      by_cases h3 : (mulT p (neg (atT (rowAt rows i).f0 v))).2 = 0
      · rw [if_pos h3] at start
        rw [loopO_inl start]
        by_cases h4 : (lessAt rows p v i).2 = 0
        · rw [decide_eq_true h4] at bad0 ⊢
          have e1 := next (x := ⟨(lessAt rows p v i).1, (rowAt rows i).f1⟩) (by
            unfold newR
            have : ¬ i = a := by intro e; unfold skip at hs; simp [e] at hs
            rw [if_neg this, hs]; rfl)
          rw [bad0, ← e1]
          exact ih (i + 1) (by omega)
        · rw [decide_eq_false h4] at bad0 ⊢
          rw [bad0]
          refine ⟨cur.set i ⟨(lessAt rows p v i).1, (rowAt rows i).f1⟩, over_loop (s := ⟨rows, false⟩) (by rw [List.length_set, cl]) hb k (i + 1) (by dsimp only; omega), by rw [List.length_set, cl], fun h => by simp at h⟩
      · rw [if_neg h3] at start
        rw [loopO_inl start]
        have h4 : ¬ (lessAt rows p v i).2 = 0 := by unfold lessAt lessT; rw [if_neg h3]; exact h3
        rw [decide_eq_false h4] at bad0
        rw [bad0]
        exact ⟨cur, over_loop (s := ⟨rows, false⟩) cl hb k (i + 1) (by dsimp only; omega), cl, fun h => by simp at h⟩
theorem i1 : in64R ⟨1, 1⟩ := by decide
theorem takeE {rows : List Row} {a v : Nat} (ha : a < rows.length) (hg : goodL rows) (hb : rows.length ≤ 1000) :
    ∃ s, m_gauss_system_take ⟨rows, false⟩ (a : Int) (v : Int) = some s ∧ s.f0.length = rows.length ∧ (match takeP rows a v with | some r => s = ⟨r, false⟩ | none => s.f1 = true) := by
  unfold m_gauss_system_take
  dsimp only
  rw [rq_true (decide_eq_true (by omega)), rq_true (decide_eq_true (by omega)), row_gi ha]
  simp only [some_bind', atP, dR i1 (at_in (hg a) v), ifB_false]
  rw [timesP (hg a) (div_good _ _).1]
  simp only [some_bind', row_gi ha]
  have hset : rows.set a ⟨(pivT rows a v).1, (v : Int)⟩ = mkL rows.length fun j => if j < 0 then newR rows (pivT rows a v).1 a v j else if j = a then ⟨(pivT rows a v).1, (v : Int)⟩ else rowAt rows j := by
    have := mk_self (l := rows)
    rw [← this, mk_set, mk_len]
    refine mk_congr fun j hj => ?_
    rw [if_neg (Nat.not_lt_zero j), this]
  show ∃ s, (Option.bind (loopO (m_gauss_system_take_L0 ⟨rows, false⟩ (v : Int) (a : Int) ((pivT rows a v).1, ⟨rows, (!decide ((invT rows a v).2 = 0)) || !decide ((pivT rows a v).2 = 0)⟩)) (((0 : Nat) : Int), ((!decide ((invT rows a v).2 = 0)) || !decide ((pivT rows a v).2 = 0)), rows.set a ⟨(pivT rows a v).1, (v : Int)⟩)) _) = some s ∧ _
  have eb : ((!decide ((invT rows a v).2 = 0)) || !decide ((pivT rows a v).2 = 0)) = !pivB rows a v := by unfold pivB; rw [Bool.not_and]
  rw [eb]
  unfold takeP
  cases hq : pivB rows a v with
  | false =>
    rw [show (!false) = true from rfl, over_loop (s := ⟨rows, false⟩) (by rw [List.length_set]) hb rows.length 0 (by dsimp only; omega)]
    exact ⟨_, rfl, by dsimp only; rw [List.length_set], rfl⟩
  | true =>
    rw [hset]
    obtain ⟨l', h1, h2, h3⟩ := take_loop ha hg hb (p := (pivT rows a v).1) (v := v) (sy := ⟨rows, false⟩) mulT_good.1 rows.length 0 (by omega)
    rw [show (!true) = false from rfl, h1]
    rw [← List.range_eq_range'] at h3 ⊢
    refine ⟨_, rfl, h2, ?_⟩
    rw [if_pos rfl]
    cases hf : fst rows.length (badR rows (pivT rows a v).1 a v) with
    | some i =>
      have := fst_some hf
      show (!_) = true
      rw [Bool.not_eq_true']
      rw [List.all_eq_false]
      exact ⟨i, List.mem_range.2 this.1, by rw [this.2]; decide⟩
    | none =>
      have hall : (List.range rows.length).all (fun j => !badR rows (pivT rows a v).1 a v j) = true := List.all_eq_true.2 fun j hj => by rw [fst_none.1 hf j (List.mem_range.1 hj)]; rfl
      rw [h3 hall, hall]
      rfl
def hit (rows : List Row) (v i : Nat) : Bool := decide ((rowAt rows i).f1 = -1) && !decide ((atT (rowAt rows i).f0 v).f0 = 0)
def pick (rows : List Row) (v : Nat) : Option Nat := fst rows.length (hit rows v)
def stepP (rows : List Row) (v : Nat) : Option (List Row) := match pick rows v with | none => some rows | some a => takeP rows a v
def runF (rows : List Row) : List Nat → Option (List Row)
  | [] => some rows
  | v :: vs => match stepP rows v with | none => none | some r => runF r vs
theorem hit1P {r : Row} {v : Nat} : m_gauss_system_solve_1 r (v : Int) = some (decide (r.f1 = -1) && !decide ((atT r.f0 v).f0 = 0)) := by
  unfold m_gauss_system_solve_1
  rw [atP]
  cases decide (r.f1 = -1) <;> rfl
theorem pickP {rows : List Row} {v : Nat} (hb : rows.length ≤ 1000) : m_slices_IndexFunc_gauss_row rows (fun x0 => m_gauss_system_solve_1 x0 (v : Int)) = some (match pick rows v with | some i => (i : Int) | none => -1) := by
  unfold m_slices_IndexFunc_gauss_row
  rw [show ((0 : Int)) = ((0 : Nat) : Int) from rfl, loopO_first (b := m_slices_IndexFunc_gauss_row_L0 rows _) (fun i : Nat => (i : Int)) rows.length (hit rows v) (fun i => (i : Int)) () ?_ ?_]
  · unfold pick
    cases fst rows.length (hit rows v) <;> rfl
  · intro i hi _
    unfold m_slices_IndexFunc_gauss_row_L0
    dsimp only
    rw [decide_eq_true (show (i : Int) < (rows.length : Int) by omega), ifB_true, row_gi hi]
    simp only [some_bind', hit1P]
    rw [wrap_succ (by omega)]
    show ifB (hit rows v i) _ _ = _
    cases hit rows v i <;> rfl
  · intro _
    unfold m_slices_IndexFunc_gauss_row_L0
    dsimp only
    rw [decide_eq_false (show ¬ (rows.length : Int) < (rows.length : Int) by omega)]
    rfl
theorem over_steps {l : List Row} (hb : l.length ≤ 1000) : ∀ k i : Nat, i + k = 8 → loopO m_gauss_system_solve_L0 ((i : Int), true, l) = some (true, l) := by
  intro k
  induction k with
  | zero =>
    intro i hi
    refine loopO_inr ?_
    unfold m_gauss_system_solve_L0
    dsimp only
    rw [decide_eq_false (by omega)]; rfl
  | succ k ih =>
    intro i hi
    have hb : m_gauss_system_solve_L0 ((i : Int), true, l) = some (.inl (((i + 1 : Nat) : Int), true, l)) := by
      unfold m_gauss_system_solve_L0
      dsimp only
      rw [decide_eq_true (show (i : Int) < 8 by omega), ifB_true, pickP hb, wrap_succ (by omega)]
      simp only [some_bind']
      cases pick l i with
      | none => rfl
      | some a =>
        dsimp only
        rw [decide_eq_true (show (0 : Int) ≤ (a : Int) by omega)]; rfl
    rw [loopO_inl hb]
    exact ih (i + 1) (by omega)
theorem step_good {rows r : List Row} {v : Nat} (h : goodL rows) (e : stepP rows v = some r) : goodL r ∧ r.length = rows.length := by
  unfold stepP at e
  split at e
  · cases e; exact ⟨h, rfl⟩
  · exact take_good h e
theorem steps_loop : ∀ (k i : Nat) (rows : List Row), i + k = 8 → goodL rows → rows.length ≤ 1000 → ∃ b l, loopO m_gauss_system_solve_L0 ((i : Int), false, rows) = some (b, l) ∧ (match runF rows (List.range' i k) with | some r => b = false ∧ l = r | none => b = true) := by
  intro k
  induction k with
  | zero =>
    intro i rows hi hg hb
    refine ⟨_, _, loopO_inr (x := (false, rows)) ?_, rfl, rfl⟩
    unfold m_gauss_system_solve_L0
    dsimp only
    rw [decide_eq_false (by omega)]; rfl
  | succ k ih =>
    intro i rows hi hg hb
    rw [List.range'_succ]
    show ∃ b l, _ ∧ (match (match stepP rows i with | none => none | some r => runF r (List.range' (i + 1) k)) with | some r => b = false ∧ l = r | none => b = true)
    cases hp : pick rows i with
    | none =>
      have hb' : m_gauss_system_solve_L0 ((i : Int), false, rows) = some (.inl (((i + 1 : Nat) : Int), false, rows)) := by
        unfold m_gauss_system_solve_L0
        dsimp only
        rw [decide_eq_true (show (i : Int) < 8 by omega), ifB_true, pickP hb, hp, wrap_succ (by omega)]
        rfl
      rw [loopO_inl hb', show stepP rows i = some rows by unfold stepP; rw [hp]]
      exact ih (i + 1) rows (by omega) hg hb
    | some a =>
      have ha : a < rows.length := (fst_some hp).1
      obtain ⟨s, hs, hsl, hm⟩ := takeE (v := i) ha hg hb
      have hb' : m_gauss_system_solve_L0 ((i : Int), false, rows) = some (.inl (((i + 1 : Nat) : Int), s.f1, s.f0)) := by
        unfold m_gauss_system_solve_L0
        dsimp only
        rw [decide_eq_true (show (i : Int) < 8 by omega), ifB_true, pickP hb, hp, wrap_succ (by omega)]
        simp only [some_bind']
        rw [decide_eq_true (show (0 : Int) ≤ (a : Int) by omega)]
        simp only [ifB_true, Bool.not_false, some_bind', hs]
      rw [loopO_inl hb', show stepP rows i = takeP rows a i by unfold stepP; rw [hp]]
      cases ht : takeP rows a i with
      | none =>
        rw [ht] at hm
        rw [hm]
        exact ⟨true, s.f0, over_steps (by omega) k (i + 1) (by omega), rfl⟩
      | some r =>
        rw [ht] at hm
        subst hm
        have hg' := take_good hg ht
        exact ih (i + 1) r (by omega) hg'.1 (by omega)
def key (l : List Row) (i : Nat) : Int := (rowAt l i).f1
def inKeys (l : List Row) : Prop := ∀ i, -1 ≤ key l i ∧ key l i < 8
theorem keys_perm {l l' : List Row} (h : l'.Perm l) (hk : inKeys l) : inKeys l' := by
  intro i
  unfold key
  by_cases hi : i < l'.length
  · have hm : l'[i] ∈ l := h.mem_iff.1 (List.getElem_mem hi)
    obtain ⟨j, hj, e⟩ := List.getElem_of_mem hm
    have := hk j
    unfold key at this
    rw [← row_of hi, ← e, row_of hj]; exact this
  · unfold rowAt; rw [List.getElem?_eq_none (by omega)]; exact ⟨by decide, by decide⟩
theorem cmpP {a b : Row} (ha : -1 ≤ a.f1 ∧ a.f1 < 8) (hb : -1 ≤ b.f1 ∧ b.f1 < 8) : m_gauss_Solve_2 a b = some (a.f1 - b.f1) := by
  unfold m_gauss_Solve_2
  rw [wrap_i64 (by omega) (by omega)]
noncomputable abbrev cmpF : Row → Row → Option Int := fun x0 x1 => m_gauss_Solve_2 x0 x1
structure Ins (rows : List Row) (i : Nat) (s : Int × List Row) (j : Nat) : Prop where
  a : s.1 = (j : Int)
  le : j ≤ i
  p : s.2.Perm rows
  o : ∀ x y, x < y → y ≤ i → x ≠ j → y ≠ j → key s.2 x ≤ key s.2 y
  u : ∀ y, j < y → y ≤ i → key s.2 j ≤ key s.2 y
theorem ins_loop {rows : List Row} {i : Nat} (hi : i < rows.length) (hb : rows.length ≤ 1000) (hk : inKeys rows) {l : List Row} (h : Ins rows i ((i : Int), l) i) :
    ∃ r, loopO (m_slices_insertionSortCmpFunc__gauss_row_L1 0 cmpF) ((i : Int), l) = some r ∧ (r.Perm rows ∧ ∀ x y, x < y → y ≤ i → key r x ≤ key r y) := by
  refine loopO_total (fun s => ∃ j, Ins rows i s j) (fun s => s.1.toNat) _ ?_ _ ⟨i, h⟩
  rintro ⟨_, l⟩ ⟨j, ⟨rfl, hle, hp, ho, hu⟩⟩
  dsimp only at hp ho hu
  have hl := hp.length_eq
  have kk := keys_perm hp hk
  by_cases hz : j = 0
  · right
    refine ⟨l, ?_, hp, fun x y h1 h2 => ?_⟩
    · unfold m_slices_insertionSortCmpFunc__gauss_row_L1
      dsimp only
      rw [decide_eq_false (show ¬ (0 : Int) < (j : Int) by omega)]
      rfl
    · by_cases e : x = j
      · subst e; exact hu y (by omega) h2
      · exact ho x y h1 h2 e (by omega)
  · have e1 : IntKind.wrap .i64 ((j : Int) - 1) = ((j - 1 : Nat) : Int) := by rw [wrap_i64 (by omega) (by omega)]; omega
    have g1 : gi l (j : Int) = some (rowAt l j) := row_gi (by omega)
    have g2 : gi l ((j - 1 : Nat) : Int) = some (rowAt l (j - 1)) := row_gi (by omega)
    have c1 := cmpP (a := rowAt l j) (b := rowAt l (j - 1)) (kk j) (kk (j - 1))
    by_cases hlt : key l j < key l (j - 1)
    · left
      obtain ⟨l2, hl2⟩ : ∃ l2, l2 = (l.set j (rowAt l (j - 1))).set (j - 1) (rowAt l j) := ⟨_, rfl⟩
      have kl : ∀ x, key l2 x = if x = j - 1 then key l j else if x = j then key l (j - 1) else key l x := by
        intro x
        have hc : l2[x]? = if x = j - 1 then some (rowAt l j) else if x = j then some (rowAt l (j - 1)) else l[x]? := by
          rw [hl2, List.getElem?_set]
          by_cases h1 : j - 1 = x
          · rw [if_pos h1, if_pos (by rw [List.length_set]; omega), if_pos h1.symm]
          · rw [if_neg h1, if_neg (fun e => h1 e.symm), List.getElem?_set]
            by_cases h2 : j = x
            · rw [if_pos h2, if_pos (by omega), if_pos h2.symm]
            · rw [if_neg h2, if_neg (fun e => h2 e.symm)]
        unfold key
        unfold rowAt at hc ⊢
        rw [hc]
        split
        · rfl
        · split <;> rfl
      have hp2 : l2.Perm l := by
        have := List.set_set_perm («as» := l) (i := j) (j := j - 1) (by omega) (by omega)
        rw [row_of (by omega), row_of (by omega)] at this
        rw [hl2]; exact this
      refine ⟨(((j - 1 : Nat) : Int), l2), ?_, ⟨j - 1, rfl, by omega, hp2.trans hp, ?_, ?_⟩, by dsimp only; omega⟩
      · unfold m_slices_insertionSortCmpFunc__gauss_row_L1
        dsimp only
        rw [decide_eq_true (show (0 : Int) < (j : Int) by omega), e1, rq_true (decide_eq_true (show (0 : Int) ≤ (j : Int) by omega)), rq_true (decide_eq_true (show (j : Int) < (l.length : Int) by omega)), rq_true (decide_eq_true (show (0 : Int) ≤ ((j - 1 : Nat) : Int) by omega)), rq_true (decide_eq_true (show ((j - 1 : Nat) : Int) < (l.length : Int) by omega)), g1, g2]
        simp only [ifB_true, some_bind', c1]
        have : decide ((rowAt l j).f1 - (rowAt l (j - 1)).f1 < 0) = true := decide_eq_true (by unfold key at hlt; omega)
        rw [this]
        simp only [ifB_true, Int.toNat_natCast]
        have g3 : gi (l.set j (rowAt l (j - 1))) ((j - 1 : Nat) : Int) = some (rowAt (l.set j (rowAt l (j - 1))) (j - 1)) := row_gi (by rw [List.length_set]; omega)
        rw [g3, some_bind', ← hl2]
      · intro x y h1 h2 h3 h4
        dsimp only
        rw [kl, kl, if_neg h3, if_neg h4]
        by_cases hx : x = j
        · rw [if_pos hx, if_neg (by omega)]
          exact ho (j - 1) y (by omega) h2 (by omega) (by omega)
        · rw [if_neg hx]
          by_cases hy : y = j
          · rw [if_pos hy]
            exact ho x (j - 1) (by omega) (by omega) hx (by omega)
          · rw [if_neg hy]
            exact ho x y h1 h2 hx hy
      · intro y h1 h2
        dsimp only
        rw [kl, kl, if_pos rfl, if_neg (by omega)]
        by_cases hy : y = j
        · rw [if_pos hy]; omega
        · rw [if_neg hy]; exact hu y (by omega) h2
    · right
      refine ⟨l, ?_, hp, fun x y h1 h2 => ?_⟩
      · unfold m_slices_insertionSortCmpFunc__gauss_row_L1
        dsimp only
        rw [decide_eq_true (show (0 : Int) < (j : Int) by omega), e1, rq_true (decide_eq_true (show (0 : Int) ≤ (j : Int) by omega)), rq_true (decide_eq_true (show (j : Int) < (l.length : Int) by omega)), rq_true (decide_eq_true (show (0 : Int) ≤ ((j - 1 : Nat) : Int) by omega)), rq_true (decide_eq_true (show ((j - 1 : Nat) : Int) < (l.length : Int) by omega)), g1, g2]
        simp only [ifB_true, some_bind', c1]
        have : decide ((rowAt l j).f1 - (rowAt l (j - 1)).f1 < 0) = false := decide_eq_false (by unfold key at hlt; omega)
        rw [this]
        rfl
      · by_cases hx : x = j
        · subst hx; exact hu y h1 h2
        · by_cases hy : y = j
          · subst hy
            by_cases e : x = y - 1
            · subst e; omega
            · have := ho x (y - 1) (by omega) (by omega) hx (by omega)
              omega
          · exact ho x y h1 h2 hx hy
theorem sortP {rows : List Row} (hb : rows.length ≤ 12) (hk : inKeys rows) : ∃ s, m_slices_SortStableFunc_gauss_row rows cmpF = some s ∧ s.Perm rows ∧ ∀ x y, x < y → y < rows.length → key s x ≤ key s y := by
  have ins : ∃ s, m_slices_insertionSortCmpFunc__gauss_row rows 0 (rows.length : Int) cmpF = some s ∧ s.Perm rows ∧ ∀ x y, x < y → y < rows.length → key s x ≤ key s y := by
    unfold m_slices_insertionSortCmpFunc__gauss_row
    have main : ∀ (k i : Nat) (l : List Row), i + k = rows.length → 1 ≤ i → l.Perm rows → (∀ x y, x < y → y < i → key l x ≤ key l y) → ∃ s, loopO (m_slices_insertionSortCmpFunc__gauss_row_L0 (rows.length : Int) 0 cmpF) ((i : Int), l) = some s ∧ s.Perm rows ∧ ∀ x y, x < y → y < rows.length → key s x ≤ key s y := by
      intro k
      induction k with
      | zero =>
        intro i l hi _ hp ho
        refine ⟨l, loopO_inr ?_, hp, fun x y h1 h2 => ho x y h1 (by omega)⟩
        unfold m_slices_insertionSortCmpFunc__gauss_row_L0
        dsimp only
        rw [decide_eq_false (by omega)]; rfl
      | succ k ih =>
        intro i l hi h1 hp ho
        obtain ⟨r, hr, hrp, hro⟩ := ins_loop (i := i) (rows := rows) (by omega) (by omega) hk (l := l) ⟨rfl, Nat.le_refl _, hp, fun x y a b c d => ho x y a (by omega), fun y a b => by omega⟩
        have hb : m_slices_insertionSortCmpFunc__gauss_row_L0 (rows.length : Int) 0 cmpF ((i : Int), l) = some (.inl (((i + 1 : Nat) : Int), r)) := by
          unfold m_slices_insertionSortCmpFunc__gauss_row_L0
          dsimp only
          rw [decide_eq_true (show (i : Int) < (rows.length : Int) by omega), ifB_true, hr, wrap_succ (by omega)]
          rfl
        rw [loopO_inl hb]
        exact ih (i + 1) r (by omega) (by omega) hrp fun x y a b => hro x y a (by omega)
    rw [show IntKind.wrap .i64 ((0 : Int) + 1) = ((1 : Nat) : Int) from rfl]
    by_cases h0 : rows.length = 0
    · refine ⟨rows, ?_, .refl _, fun x y h1 h2 => by omega⟩
      rw [loopO_inr (x := rows)]
      · rfl
      · unfold m_slices_insertionSortCmpFunc__gauss_row_L0
        dsimp only
        rw [decide_eq_false (by omega)]; rfl
    · obtain ⟨s, hs, h⟩ := main (rows.length - 1) 1 rows (by omega) (by omega) (.refl _) fun x y h1 h2 => by omega
      exact ⟨s, by rw [hs]; rfl, h⟩
  obtain ⟨s, hs, h⟩ := ins
  refine ⟨s, ?_, h⟩
  unfold m_slices_SortStableFunc_gauss_row m_slices_stableCmpFunc__gauss_row
  rw [loopO_inr (x := ((0 : Int), rows))]
  · simp only [some_bind', hs]
    rw [loopO_inr (x := ())]
    · rfl
    · unfold m_slices_stableCmpFunc__gauss_row_L1
      dsimp only
      rw [decide_eq_false (by omega)]; rfl
  · unfold m_slices_stableCmpFunc__gauss_row_L0
    dsimp only
    rw [decide_eq_false (by omega)]; rfl
theorem mk_succ {α : Type} {n : Nat} {f : Nat → α} : mkL (n + 1) f = mkL n f ++ [f n] := by unfold mkL; rw [List.range_succ, List.map_append]; rfl
def tAt (l : List TTerm) (i : Nat) : TTerm := (l[i]?).getD zT
theorem t_gi {l : List TTerm} {i : Nat} (h : i < l.length) : gi l (i : Int) = some (tAt l i) := by rw [gi_of h]; unfold tAt; rw [List.getElem?_eq_getElem h]; rfl
theorem t_of {l : List TTerm} {i : Nat} (h : i < l.length) : l[i] = tAt l i := by unfold tAt; rw [List.getElem?_eq_getElem h]; rfl
def inL (l : List TTerm) : Prop := ∀ t ∈ l, in64T t
theorem t_in {l : List TTerm} (h : inL l) (i : Nat) : in64T (tAt l i) := by
  unfold tAt
  cases hq : l[i]? with
  | none => exact z_in
  | some t => exact h t (List.mem_of_getElem? hq)
def startL (l : List TTerm) : List Row := mkL l.length fun i => ⟨ownT (tAt l i), -1⟩
theorem own_in {t : TTerm} (h : in64T t) : in64T (ownT t) := by
  unfold ownT; split
  · exact trim_in h
  · exact ⟨n64, (fun _ h => by cases h), Nat.zero_le _⟩
structure W (rows : List Row) (v : Nat) : Prop where
  g : goodL rows
  r : ∀ i, i < rows.length → key rows i = -1 ∨ ∃ u : Nat, u < v ∧ key rows i = (u : Int)
  d : ∀ i j, i < rows.length → j < rows.length → key rows i ≠ -1 → key rows i = key rows j → i = j
theorem start_W {l : List TTerm} (h : inL l) : W (startL l) 0 := by
  have hk : ∀ i, i < (startL l).length → key (startL l) i = -1 := fun i hi => by
    unfold key startL; rw [row_mk (by unfold startL at hi; rwa [mk_len] at hi)]
  exact ⟨mkL_good fun i => own_in (t_in h i), fun i hi => .inl (hk i hi), fun i j hi hj hn => absurd (hk i hi) hn⟩
theorem take_some {rows r : List Row} {a v : Nat} (e : takeP rows a v = some r) : pivB rows a v = true ∧ (∀ i, i < rows.length → badR rows (pivT rows a v).1 a v i = false) ∧ r = mkL rows.length (newR rows (pivT rows a v).1 a v) := by
  unfold takeP at e
  split at e
  · rename_i h
    split at e
    · cases e
    · rename_i h2
      cases e
      exact ⟨h, fst_none.1 h2, rfl⟩
  · cases e
theorem take_key {rows r : List Row} {a v : Nat} (e : takeP rows a v = some r) {i : Nat} (hi : i < rows.length) : key r i = if i = a then (v : Int) else key rows i := by
  obtain ⟨_, _, rfl⟩ := take_some e
  unfold key
  rw [row_mk hi]
  unfold newR
  by_cases h : i = a
  · rw [if_pos h, if_pos h]
  · rw [if_neg h, if_neg h]
    split <;> rfl
theorem pick_some {rows : List Row} {v a : Nat} (h : pick rows v = some a) : a < rows.length ∧ key rows a = -1 ∧ (atT (rowAt rows a).f0 v).f0 ≠ 0 := by
  obtain ⟨h1, h2⟩ := fst_some h
  unfold hit at h2
  simp at h2
  exact ⟨h1, h2.1, h2.2⟩
theorem step_W {rows r : List Row} {v : Nat} (h : W rows v) (e : stepP rows v = some r) : W r (v + 1) := by
  unfold stepP at e
  cases hp : pick rows v with
  | none =>
    rw [hp] at e
    cases e
    exact ⟨h.g, fun i hi => (h.r i hi).imp id fun ⟨u, h1, h2⟩ => ⟨u, by omega, h2⟩, h.d⟩
  | some a =>
    rw [hp] at e
    dsimp only at e
    obtain ⟨ha, _, _⟩ := pick_some hp
    obtain ⟨hg, hl⟩ := take_good h.g e
    refine ⟨hg, fun i hi => ?_, fun i j hi hj hn he => ?_⟩
    · rw [take_key e (by omega)]
      split
      · exact .inr ⟨v, by omega, rfl⟩
      · exact (h.r i (by omega)).imp id fun ⟨u, h1, h2⟩ => ⟨u, by omega, h2⟩
    · rw [take_key e (by omega)] at hn he
      rw [take_key e (by omega)] at he
      have hv : ∀ k, k < rows.length → key rows k ≠ (v : Int) := fun k hk => by
        rcases h.r k hk with h1 | ⟨u, h1, h2⟩ <;> omega
      by_cases h1 : i = a
      · rw [if_pos h1] at he
        by_cases h2 : j = a
        · omega
        · rw [if_neg h2] at he
          exact absurd he.symm (hv j (by omega))
      · rw [if_neg h1] at he hn
        by_cases h2 : j = a
        · rw [if_pos h2] at he
          exact absurd he (hv i (by omega))
        · rw [if_neg h2] at he
          exact h.d i j (by omega) (by omega) hn he
theorem run_W : ∀ (k i : Nat) (rows r : List Row), W rows i → runF rows (List.range' i k) = some r → W r (i + k) ∧ r.length = rows.length := by
  intro k
  induction k with
  | zero => intro i rows r h e; cases e; exact ⟨h, rfl⟩
  | succ k ih =>
    intro i rows r h e
    rw [List.range'_succ] at e
    unfold runF at e
    cases hs : stepP rows i with
    | none => rw [hs] at e; cases e
    | some r1 =>
      rw [hs] at e
      obtain ⟨h1, h2⟩ := ih (i + 1) r1 r (step_W h hs) e
      exact ⟨by rw [show i + (k + 1) = i + 1 + k by omega]; exact h1, by rw [h2, (step_good h.g hs).2]⟩
def idxV (rows : List Row) (u : Nat) : Option Nat := fst rows.length fun i => decide (key rows i = (u : Int))
def pairs (rows : List Row) (v : Nat) : List (Nat × Nat) := (List.range v).filterMap fun u => (idxV rows u).map fun i => (i, u)
def usedR (rows : List Row) : List Row := (pairs rows 8).map fun p => rowAt rows p.1
theorem pair_mem {rows : List Row} {v : Nat} {p : Nat × Nat} (h : p ∈ pairs rows v) : p.1 < rows.length ∧ p.2 < v ∧ key rows p.1 = (p.2 : Int) := by
  unfold pairs at h
  obtain ⟨u, hu, h⟩ := List.mem_filterMap.1 h
  obtain ⟨i, hi, rfl⟩ := Option.map_eq_some_iff.1 h
  have := fst_some hi
  simp at this
  exact ⟨this.1, List.mem_range.1 hu, this.2⟩
def badC (r : Row) : Bool := decide (r.f1 = -1) && !decide (r.f0.f1.f0 = 0)
def endP (r : List Row) : List TTerm × List Int × Int := if r.any badC then ([], [], 1) else ((usedR r).map fun x => x.f0, (usedR r).map fun x => x.f1, 0)
def solP (l : List TTerm) : List TTerm × List Int × Int :=
  if l.any (fun t => !rt t) then ([], [], 2) else match runF (startL l) (List.range 8) with | none => ([], [], 2) | some r => endP r
theorem asc_eq : ∀ {l l' : List Row}, l.Pairwise (fun a b => a.f1 < b.f1) → l'.Pairwise (fun a b => a.f1 < b.f1) → (∀ x, x ∈ l ↔ x ∈ l') → l = l'
  | [], [], _, _, _ => rfl
  | [], a :: l', _, _, h => by have := (h a).2 List.mem_cons_self; cases this
  | a :: l, [], _, _, h => by have := (h a).1 List.mem_cons_self; cases this
  | a :: l, b :: l', h1, h2, h => by
    obtain ⟨ha, k1⟩ := List.pairwise_cons.1 h1
    obtain ⟨hb, k2⟩ := List.pairwise_cons.1 h2
    have e : a = b := by
      rcases List.mem_cons.1 ((h a).1 List.mem_cons_self) with e | e
      · exact e
      · rcases List.mem_cons.1 ((h b).2 List.mem_cons_self) with e' | e'
        · exact e'.symm
        · have := ha b e'; have := hb a e; omega
    subst e
    refine congrArg (List.cons a) (asc_eq k1 k2 fun x => ⟨fun hx => ?_, fun hx => ?_⟩)
    · rcases List.mem_cons.1 ((h x).1 (List.mem_cons_of_mem _ hx)) with e | e
      · subst e; have := ha x hx; omega
      · exact e
    · rcases List.mem_cons.1 ((h x).2 (List.mem_cons_of_mem _ hx)) with e | e
      · subst e; have := hb x hx; omega
      · exact e
theorem used_asc {rows : List Row} : (usedR rows).Pairwise fun a b => a.f1 < b.f1 := by
  unfold usedR
  rw [List.pairwise_map]
  have : (pairs rows 8).Pairwise fun p q => p.2 < q.2 := by
    unfold pairs
    refine List.Pairwise.filterMap _ (fun a a' h b hb b' hb' => ?_) List.pairwise_lt_range
    obtain ⟨i, _, rfl⟩ := Option.map_eq_some_iff.1 hb
    obtain ⟨i', _, rfl⟩ := Option.map_eq_some_iff.1 hb'
    exact h
  refine List.Pairwise.imp_of_mem (fun {p q} hp hq h => ?_) this
  have h1 := (pair_mem hp).2.2
  have h2 := (pair_mem hq).2.2
  unfold key at h1 h2
  omega
theorem used_mem {rows : List Row} (h : W rows 8) (x : Row) : x ∈ usedR rows ↔ x ∈ rows ∧ x.f1 ≠ -1 := by
  constructor
  · intro hx
    unfold usedR at hx
    obtain ⟨p, hp, rfl⟩ := List.mem_map.1 hx
    obtain ⟨h1, h2, h3⟩ := pair_mem hp
    refine ⟨by rw [← row_of h1]; exact List.getElem_mem h1, ?_⟩
    unfold key at h3; omega
  · rintro ⟨hx, hn⟩
    obtain ⟨i, hi, rfl⟩ := List.getElem_of_mem hx
    rw [row_of hi] at hn ⊢
    rcases h.r i hi with h1 | ⟨u, h1, h2⟩
    · exact absurd h1 hn
    · unfold usedR
      refine List.mem_map.2 ⟨(i, u), ?_, rfl⟩
      unfold pairs
      refine List.mem_filterMap.2 ⟨u, List.mem_range.2 h1, ?_⟩
      cases hq : idxV rows u with
      | none =>
        have := fst_none.1 hq i hi
        simp [h2] at this
      | some j =>
        have hj := fst_some hq
        simp at hj
        rw [h.d i j hi hj.1 hn (by rw [h2, hj.2])]; rfl
theorem idxT {l : List TTerm} {f : TTerm → Option Bool} {g : TTerm → Bool} (h : l.length ≤ 1000) (hf : ∀ o ∈ l, f o = some (g o)) : m_slices_ContainsFunc_api_Term l f = some (l.any g) := by
  unfold m_slices_ContainsFunc_api_Term m_slices_IndexFunc_api_Term
  rw [show ((0 : Int)) = ((0 : Nat) : Int) from rfl, loopO_first (b := m_slices_IndexFunc_api_Term_L0 l f) (fun i : Nat => (i : Int)) l.length (fun i => match l[i]? with | some o => g o | none => false) (fun i => (i : Int)) () ?_ ?_]
  · cases hq : fst l.length (fun i => match l[i]? with | some o => g o | none => false) with
    | none =>
      rw [fst_none] at hq
      have : l.any g = false := by
        rw [List.any_eq_false]
        intro x hx
        obtain ⟨i, hi, rfl⟩ := List.getElem_of_mem hx
        have := hq i hi
        rw [List.getElem?_eq_getElem hi] at this
        simpa using this
      rw [this]; rfl
    | some i =>
      obtain ⟨h1, h2⟩ := fst_some hq
      rw [List.getElem?_eq_getElem h1] at h2
      have : l.any g = true := List.any_eq_true.2 ⟨_, List.getElem_mem h1, h2⟩
      rw [this]
      simp only [some_bind']
      rw [decide_eq_true (show ((0 : Nat) : Int) ≤ (i : Int) by omega)]
  · intro i hi _
    unfold m_slices_IndexFunc_api_Term_L0
    simp only [lt_cast, decide_eq_true hi, ifB_true, gi_of hi, some_bind', hf _ (List.getElem_mem hi), List.getElem?_eq_getElem hi]
    rw [wrap_succ (by omega)]
    cases g l[i] <;> rfl
  · intro _
    unfold m_slices_IndexFunc_api_Term_L0
    simp only [lt_cast, Nat.lt_irrefl, decide_false, ifB_false]
theorem start_loop {l : List TTerm} (h : inL l) (hl : l.length ≤ 12) : loopO (m_gauss_Solve_L0 l) (0, []) = some (startL l) := by
  have main := loopO_count (b := m_gauss_Solve_L0 l) l.length (fun i s => s = ((i : Int), mkL i fun i => (⟨ownT (tAt l i), -1⟩ : Row))) (fun r => r = startL l) ?_ ?_ (s := (0, [])) rfl
  · obtain ⟨r, hr, rfl⟩ := main
    exact hr
  · rintro i _ hi rfl
    left
    unfold m_gauss_Solve_L0
    dsimp only
    rw [decide_eq_true (show (i : Int) < (l.length : Int) by omega), ifB_true, t_gi hi]
    simp only [some_bind', ownP (t_in h i)]
    rw [rq_true (decide_eq_true (by rw [mk_len]; simp; omega)), wrap_succ (by omega)]
    exact ⟨_, rfl, by rw [mk_succ]⟩
  · rintro _ rfl
    unfold m_gauss_Solve_L0
    dsimp only
    rw [decide_eq_false (by omega)]
    exact ⟨_, rfl, rfl⟩
theorem end_loop {r s : List Row} {sy : TGauss_system} (hs : s.Perm r) (hw : W r 8) (hl : r.length ≤ 12) (hsy : sy.f0.length = s.length) (ho : ∀ x y, x < y → y < r.length → key s x ≤ key s y) :
    Option.bind (loopO (m_gauss_Solve_L1 sy s) ([], [], 0)) (fun z => (match z with  | .inl (v41, v43) =>  (some ((v41, v43, 0)))  | .inr r => (some r))) = some (endP r) := by
  have sl := hs.length_eq
  have key1 := loopO_first (b := m_gauss_Solve_L1 sy s) (fun i : Nat => (((s.take i).filter fun x => !decide (x.f1 = -1)).map (fun x => x.f0), ((s.take i).filter fun x => !decide (x.f1 = -1)).map (fun x => x.f1), (i : Int))) s.length (fun i => badC (rowAt s i))
    (fun _ => ([], [], 1)) ((s.filter fun x => !decide (x.f1 = -1)).map (fun x => x.f0), (s.filter fun x => !decide (x.f1 = -1)).map (fun x => x.f1)) ?_ ?_
  · rw [show (([], [], 0) : List TTerm × List Int × Int) = (((s.take 0).filter fun x => !decide (x.f1 = -1)).map (fun x => x.f0), ((s.take 0).filter fun x => !decide (x.f1 = -1)).map (fun x => x.f1), ((0 : Nat) : Int)) from rfl, key1]
    unfold endP
    have hm : ∀ x, x ∈ s ↔ x ∈ r := fun x => hs.mem_iff
    cases hq : fst s.length (fun i => badC (rowAt s i)) with
    | some i =>
      obtain ⟨h1, h2⟩ := fst_some hq
      have : r.any badC = true := List.any_eq_true.2 ⟨rowAt s i, (hm _).1 (by rw [← row_of h1]; exact List.getElem_mem h1), h2⟩
      rw [this]; rfl
    | none =>
      have hn := fst_none.1 hq
      have : r.any badC = false := by
        rw [List.any_eq_false]
        intro x hx
        obtain ⟨i, hi, rfl⟩ := List.getElem_of_mem ((hm x).2 hx)
        have := hn i hi
        rw [row_of hi, this]; decide
      rw [this]
      have e : (s.filter fun x => !decide (x.f1 = -1)) = usedR r := by
        refine asc_eq ?_ used_asc fun x => ?_
        · have h1 : s.Pairwise fun a b => a.f1 = -1 ∨ b.f1 = -1 ∨ a.f1 < b.f1 := by
            have hd : s.Pairwise fun a b => a.f1 = -1 ∨ b.f1 = -1 ∨ a.f1 ≠ b.f1 := by
              refine hs.symm.pairwise ?_ fun {x y} h => by
                rcases h with h | h | h
                · exact .inr (.inl h)
                · exact .inl h
                · exact .inr (.inr fun e => h e.symm)
              rw [List.pairwise_iff_getElem]
              intro i j hi hj hij
              by_cases h1 : r[i].f1 = -1
              · exact .inl h1
              · refine .inr (.inr fun e => ?_)
                have := hw.d i j hi hj (by unfold key; rw [← row_of hi]; exact h1) (by unfold key; rw [← row_of hi, ← row_of hj]; exact e)
                omega
            have hle : s.Pairwise fun a b => a.f1 ≤ b.f1 := by
              rw [List.pairwise_iff_getElem]
              intro i j hi hj hij
              have := ho i j hij (by omega)
              unfold key at this
              rw [row_of hi, row_of hj]; exact this
            exact (hd.and hle).imp fun h => by
              rcases h with ⟨h | h | h, h'⟩
              · exact .inl h
              · exact .inr (.inl h)
              · exact .inr (.inr (by omega))
          refine List.Pairwise.imp_of_mem (fun {p q} hp hq h => ?_) (h1.filter _)
          have hp := (List.mem_filter.1 hp).2
          have hq := (List.mem_filter.1 hq).2
          simp at hp hq
          rcases h with h | h | h
          · exact absurd h hp
          · exact absurd h hq
          · exact h
        · rw [used_mem hw, List.mem_filter, hm]
          simp
      rw [e]; rfl
  · intro i hi _
    unfold m_gauss_Solve_L1
    dsimp only
    rw [decide_eq_true (show (i : Int) < (sy.f0.length : Int) by omega), ifB_true, rq_true (decide_eq_true (show (0 : Int) ≤ (i : Int) by omega)), rq_true rfl, row_gi hi]
    simp only [some_bind']
    have e0 : s.take (i + 1) = s.take i ++ [rowAt s i] := by rw [List.take_add_one, List.getElem?_eq_getElem hi, row_of hi]; rfl
    have fl : ((s.take i).filter fun x => !decide (x.f1 = -1)).length ≤ 12 := Nat.le_trans (List.length_filter_le _ _) (by rw [List.length_take]; omega)
    rw [wrap_succ (by omega), e0, List.filter_append, List.map_append, List.map_append]
    unfold badC
    by_cases h1 : (rowAt s i).f1 = -1
    · rw [decide_eq_true h1]
      simp only [Bool.not_true, ifB_false, Bool.true_and]
      have e1 : List.filter (fun x : Row => !decide (x.f1 = -1)) [rowAt s i] = [] := by simp [h1]
      rw [e1]
      by_cases h2 : (rowAt s i).f0.f1.f0 = 0
      · rw [decide_eq_true h2]
        simp only [Bool.not_true, ifB_false, some_bind', List.map_nil, List.append_nil]
        rfl
      · rw [decide_eq_false h2]
        rfl
    · rw [decide_eq_false h1]
      have e1 : List.filter (fun x : Row => !decide (x.f1 = -1)) [rowAt s i] = [rowAt s i] := by simp [h1]
      rw [e1]
      simp only [Bool.not_false, ifB_true]
      rw [rq_true (decide_eq_true (by rw [List.length_map]; simp; omega)), rq_true (decide_eq_true (by rw [List.length_map]; simp; omega))]
      rfl
  · intro _
    unfold m_gauss_Solve_L1
    dsimp only
    rw [decide_eq_false (by omega)]
    rw [List.take_length]; rfl
theorem solveE {l : List TTerm} (h : inL l) (hl : l.length ≤ 12) : m_gauss_Solve l = some (solP l) := by
  unfold m_gauss_Solve solP
  rw [decide_eq_false (show ¬ 400 < (l.length : Int) by omega), idxT (g := fun t => !rt t) (by omega) fun t ht => by unfold m_gauss_Solve_1; rw [tR (h t ht)]; rfl]
  simp only [ifB_false, some_bind']
  cases l.any (fun t => !rt t) with
  | true => rfl
  | false =>
    simp only [ifB_false, start_loop h hl, some_bind', Bool.false_eq_true, if_false]
    have hw := start_W h
    have sl : (startL l).length = l.length := mk_len
    obtain ⟨b, l', h1, h2⟩ := steps_loop 8 0 (startL l) (by omega) hw.g (by omega)
    have h1' : m_gauss_system_solve ⟨startL l, false⟩ = some ⟨l', b⟩ := by
      unfold m_gauss_system_solve
      dsimp only
      rw [show ((0 : Int)) = ((0 : Nat) : Int) from rfl, h1]; rfl
    rw [h1', ← List.range_eq_range'] at *
    simp only [some_bind']
    cases hr : runF (startL l) (List.range 8) with
    | none =>
      rw [hr] at h2
      dsimp only at h2
      rw [h2]; rfl
    | some r =>
      rw [hr] at h2
      obtain ⟨rfl, rfl⟩ := h2
      simp only [ifB_false]
      rw [List.range_eq_range'] at hr
      obtain ⟨w8, rl⟩ := run_W 8 0 _ _ hw hr
      have hk : inKeys l' := fun i => by
        by_cases hi : i < l'.length
        · rcases w8.r i hi with h | ⟨u, h1, h2⟩ <;> omega
        · unfold key rowAt; rw [List.getElem?_eq_none (by omega)]; exact ⟨by decide, by decide⟩
      obtain ⟨s, s1, s2, s3⟩ := sortP (rows := l') (by omega) hk
      have s1' : m_slices_SortStableFunc_gauss_row l' (fun x0 x1 => m_gauss_Solve_2 x0 x1) = some s := s1
      rw [s1']
      simp only [some_bind']
      exact end_loop s2 (by simpa using w8) (by omega) s2.length_eq.symm s3
def tms (rows : List Row) : List TTerm := mkL rows.length fun i => (rowAt rows i).f0
def kys (rows : List Row) : List Int := mkL rows.length (key rows)
theorem lessF {a p : TTerm} {c : TRat} (ha : in64T a) (hp : in64T p) (hc : in64R c) : m_ref03_Less a p c = some (lessT a p c) := by
  unfold m_ref03_Less
  have hn : in64R (⟨IntKind.wrap .i64 (0 - c.f0), c.f1⟩ : TRat) := neg_in hc
  rw [timesF hp hn]
  simp only [some_bind']
  show _ = some (lessT a p c)
  unfold lessT
  have e : (⟨IntKind.wrap .i64 (0 - c.f0), c.f1⟩ : TRat) = neg c := rfl
  rw [e]
  by_cases h : (mulT p (neg c)).2 = 0
  · rw [decide_eq_true h, if_pos h]
    simp only [Bool.not_true, ifB_false, do0T ha mulT_good.1, some_bind']
  · rw [decide_eq_false h, if_neg h]
    rfl
theorem firstF {rows : List Row} {v : Nat} (hw : W rows v) (hb : rows.length ≤ 12) : m_ref03_first (tms rows) (kys rows) (v : Int) = some (match pick rows v with | some i => (i : Int) | none => -1) := by
  unfold m_ref03_first
  have tl : (tms rows).length = rows.length := mk_len
  rw [show ((0 : Int)) = ((0 : Nat) : Int) from rfl, loopO_first (b := m_ref03_first_L0 (tms rows) (kys rows) (v : Int)) (fun i : Nat => (i : Int)) rows.length (hit rows v) (fun i => (i : Int)) () ?_ ?_]
  · unfold pick
    cases fst rows.length (hit rows v) <;> rfl
  · intro i hi _
    unfold m_ref03_first_L0
    dsimp only
    rw [tl, decide_eq_true (show (i : Int) < (rows.length : Int) by omega), ifB_true]
    unfold kys tms
    rw [mk_gi hi, mk_gi hi]
    simp only [some_bind', atF]
    rw [wrap_succ (by omega)]
    unfold hit
    have hk := hw.r i hi
    unfold key at hk ⊢
    by_cases h1 : (rowAt rows i).f1 = -1
    · rw [decide_eq_true (show (rowAt rows i).f1 < 0 by omega), decide_eq_true h1]
      simp only [ifB_true, some_bind', Bool.true_and]
      cases decide ((atT (rowAt rows i).f0 v).f0 = 0) <;> rfl
    · rw [decide_eq_false (show ¬ (rowAt rows i).f1 < 0 by rcases hk with h | ⟨u, _, h⟩ <;> omega), decide_eq_false h1]
      rfl
  · intro _
    unfold m_ref03_first_L0
    dsimp only
    rw [tl, decide_eq_false (by omega)]
    rfl
theorem takeF {rows : List Row} {a v : Nat} (ha : a < rows.length) (hg : goodL rows) (hb : rows.length ≤ 12) : m_ref03_take (tms rows) (a : Int) (v : Int) = some (match takeP rows a v with | some r => (tms r, true) | none => ([], false)) := by
  unfold m_ref03_take
  have tl : (tms rows).length = rows.length := mk_len
  have tg : ∀ i, i < rows.length → gi (tms rows) (i : Int) = some (rowAt rows i).f0 := fun i hi => by unfold tms; rw [mk_gi hi]
  rw [tg a ha]
  simp only [some_bind', atF, do3 i1 (at_in (hg a) v)]
  unfold takeP pivB
  show (ifB (!decide ((invT rows a v).2 = 0)) _ _) = _
  by_cases h1 : (invT rows a v).2 = 0
  · rw [decide_eq_true h1]
    simp only [Bool.not_true, ifB_false, Bool.true_and, timesF (hg a) (div_good _ _).1, some_bind']
    show (ifB (!decide ((pivT rows a v).2 = 0)) _ (Option.bind (loopO (m_ref03_take_L0 (tms rows) (v : Int) (a : Int) (pivT rows a v)) _) _)) = _
    by_cases h2 : (pivT rows a v).2 = 0
    · rw [decide_eq_true h2]
      simp only [Bool.not_true, ifB_false, if_true]
      obtain ⟨p, hp⟩ : ∃ p, p = (pivT rows a v).1 := ⟨_, rfl⟩
      have pin : in64T p := by rw [hp]; exact mulT_good.1
      have pe : pivT rows a v = (p, 0) := by rw [hp, ← h2]
      rw [pe]
      dsimp only
      have main := loopO_first (b := m_ref03_take_L0 (tms rows) (v : Int) (a : Int) (p, 0)) (fun i : Nat => (mkL i (fun j => (newR rows p a v j).f0), (i : Int))) rows.length (badR rows p a v) (fun _ => ([], false)) (mkL rows.length (fun j => (newR rows p a v j).f0)) ?_ ?_
      · rw [show (([], 0) : List TTerm × Int) = (mkL 0 (fun j => (newR rows p a v j).f0), ((0 : Nat) : Int)) from rfl, main]
        cases fst rows.length (badR rows p a v) with
        | some i => rfl
        | none =>
          simp only [some_bind']
          have : tms (mkL rows.length (newR rows p a v)) = mkL rows.length fun j => (newR rows p a v j).f0 := by
            unfold tms
            rw [mk_len]
            exact mk_congr fun i hi => by rw [row_mk hi]
          rw [this]
      · intro i hi _
        unfold m_ref03_take_L0
        dsimp only
        rw [tl, decide_eq_true (show (i : Int) < (rows.length : Int) by omega), ifB_true, tg i hi]
        simp only [some_bind', atF]
        have rqq : ∀ t : TTerm, rq (decide ((mkL i fun j => (newR rows p a v j).f0).length + [t].length ≤ 1000000)) = some () := fun t => rq_true (decide_eq_true (by rw [mk_len]; simp; omega))
        rw [wrap_succ (by omega)]
        unfold badR skip
        by_cases c1 : i = a
        · rw [decide_eq_true (show (i : Int) = (a : Int) by omega), decide_eq_true c1]
          simp only [ifB_true, some_bind', Bool.true_or, Bool.not_true, Bool.false_and, Bool.false_eq_true, if_false]
          rw [rqq, mk_succ]
          have : newR rows p a v i = ⟨p, (v : Int)⟩ := by unfold newR; rw [if_pos c1]
          rw [this]; rfl
        · rw [decide_eq_false (show ¬ (i : Int) = (a : Int) by omega), decide_eq_false c1]
          simp only [ifB_false, Bool.false_or]
          by_cases c2 : (atT (rowAt rows i).f0 v).f0 = 0
          · rw [decide_eq_true c2]
            simp only [Bool.not_true, ifB_false, some_bind', Bool.false_and, Bool.false_eq_true, if_false]
            rw [rqq, mk_succ]
            have : newR rows p a v i = rowAt rows i := by unfold newR; rw [if_neg c1, if_pos (by unfold skip; rw [decide_eq_true c2, Bool.or_true])]
            rw [this]; rfl
          · rw [decide_eq_false c2]
            simp only [Bool.not_false, ifB_true, Bool.true_and, lessF (hg i) pin (at_in (hg i) v), some_bind']
            show Option.bind (Option.bind (ifB (!decide ((lessAt rows p v i).2 = 0)) _ _) _) _ = _
            by_cases c3 : (lessAt rows p v i).2 = 0
            · rw [decide_eq_true c3]
              simp only [Bool.not_true, ifB_false, some_bind', Bool.false_eq_true, if_false]
              rw [rqq, mk_succ]
              have : newR rows p a v i = ⟨(lessAt rows p v i).1, (rowAt rows i).f1⟩ := by unfold newR; rw [if_neg c1, if_neg (by unfold skip; rw [decide_eq_false c2, decide_eq_false c1]; decide)]
              rw [this]; rfl
            · rw [decide_eq_false c3]
              rfl
      · intro _
        unfold m_ref03_take_L0
        dsimp only
        rw [tl, decide_eq_false (by omega)]
        rfl
    · rw [decide_eq_false h2]; rfl
  · rw [decide_eq_false h1]; rfl
def ordI (rows : List Row) (v : Nat) : List Int := (pairs rows v).map fun p => (p.1 : Int)
def varI (rows : List Row) (v : Nat) : List Int := (pairs rows v).map fun p => (p.2 : Int)
theorem pairs_len {rows : List Row} {v : Nat} : (pairs rows v).length ≤ v := by
  unfold pairs
  exact Nat.le_trans (List.length_filterMap_le _ _) (by simp)
theorem pairs_succ {rows : List Row} {v : Nat} : pairs rows (v + 1) = pairs rows v ++ (match idxV rows v with | some i => [(i, v)] | none => []) := by
  unfold pairs
  rw [List.range_succ, List.filterMap_append]
  congr 1
  cases hq : idxV rows v <;> simp [hq]
theorem pairs_congr {rows r : List Row} {v : Nat} (h : ∀ u, u < v → idxV rows u = idxV r u) : pairs rows v = pairs r v := by
  unfold pairs
  have main : ∀ l : List Nat, (∀ u ∈ l, u < v) → l.filterMap (fun u => (idxV rows u).map fun i => (i, u)) = l.filterMap (fun u => (idxV r u).map fun i => (i, u)) := by
    intro l
    induction l with
    | nil => intro _; rfl
    | cons u l ih =>
      intro hl
      rw [List.filterMap_cons, List.filterMap_cons, h u (hl u List.mem_cons_self), ih fun x hx => hl x (List.mem_cons_of_mem _ hx)]
  exact main _ fun u hu => List.mem_range.1 hu
theorem pairs_stay {rows : List Row} {v : Nat} (hw : W rows v) : pairs rows (v + 1) = pairs rows v := by
  rw [pairs_succ]
  have : idxV rows v = none := fst_none.2 fun i hi => decide_eq_false fun e => by
    rcases hw.r i hi with h | ⟨u, h1, h2⟩ <;> omega
  rw [this]; simp
theorem pairs_take {rows r : List Row} {a v : Nat} (hw : W rows v) (ha : a < rows.length) (hn : key rows a = -1) (e : takeP rows a v = some r) : pairs r (v + 1) = pairs rows v ++ [(a, v)] := by
  have hl := (take_good hw.g e).2
  rw [pairs_succ]
  have h1 : idxV r v = some a := by
    cases hq : idxV r v with
    | none =>
      have := fst_none.1 hq a (by omega)
      rw [take_key e ha, if_pos rfl] at this
      simp at this
    | some i =>
      have := fst_some hq
      simp at this
      rw [take_key e (by omega)] at this
      by_cases hi : i = a
      · rw [hi]
      · rw [if_neg hi] at this
        rcases hw.r i (by omega) with h | ⟨u, h1, h2⟩ <;> omega
  rw [h1]
  congr 1
  refine pairs_congr fun u hu => ?_
  unfold idxV
  rw [hl]
  refine fst_congr fun i hi => decide_eq_decide.2 ?_
  rw [take_key e hi]
  split
  · rename_i h; subst h; omega
  · rfl
theorem stepsF : ∀ (k i : Nat) (rows : List Row), i + k = 8 → W rows i → rows.length ≤ 12 → loopO m_ref03_Solve_L1 (tms rows, ordI rows i, varI rows i, (i : Int), kys rows) = some (match runF rows (List.range' i k) with | some r => .inl (tms r, ordI r 8, varI r 8, kys r) | none => .inr ([], [], 2)) := by
  intro k
  induction k with
  | zero =>
    intro i rows hi hw hb
    obtain rfl : i = 8 := by omega
    refine loopO_inr ?_
    unfold m_ref03_Solve_L1
    dsimp only
    rw [decide_eq_false (by omega)]; rfl
  | succ k ih =>
    intro i rows hi hw hb
    rw [List.range'_succ]
    show _ = some (match (match stepP rows i with | none => none | some r => runF r (List.range' (i + 1) k)) with | some r => _ | none => _)
    have fF := firstF hw hb
    cases hp : pick rows i with
    | none =>
      rw [hp] at fF
      have hb' : m_ref03_Solve_L1 (tms rows, ordI rows i, varI rows i, (i : Int), kys rows) = some (.inl (tms rows, ordI rows (i + 1), varI rows (i + 1), ((i + 1 : Nat) : Int), kys rows)) := by
        unfold m_ref03_Solve_L1
        dsimp only
        rw [decide_eq_true (show (i : Int) < 8 by omega), ifB_true, fF, wrap_succ (by omega)]
        unfold ordI varI
        rw [pairs_stay hw]
        rfl
      have hs : stepP rows i = some rows := by unfold stepP; rw [hp]
      rw [loopO_inl hb', hs]
      exact ih (i + 1) rows (by omega) (step_W hw hs) hb
    | some a =>
      rw [hp] at fF
      obtain ⟨ha, hk, _⟩ := pick_some hp
      have hs : stepP rows i = takeP rows a i := by unfold stepP; rw [hp]
      have tF := takeF (v := i) ha hw.g hb
      have kl : (kys rows).length = rows.length := mk_len
      have kg : gi (kys rows) (a : Int) = some (key rows a) := by unfold kys; rw [mk_gi ha]
      rw [hs]
      cases ht : takeP rows a i with
      | none =>
        rw [ht] at tF
        refine loopO_inr ?_
        unfold m_ref03_Solve_L1
        dsimp only
        rw [decide_eq_true (show (i : Int) < 8 by omega), ifB_true, fF]
        simp only [some_bind']
        rw [decide_eq_false (show ¬ (a : Int) < 0 by omega), tF]
        rfl
      | some r =>
        rw [ht] at tF
        have hl := (take_good hw.g ht).2
        have pl := pairs_len (rows := rows) (v := i)
        have hb' : m_ref03_Solve_L1 (tms rows, ordI rows i, varI rows i, (i : Int), kys rows) = some (.inl (tms r, ordI r (i + 1), varI r (i + 1), ((i + 1 : Nat) : Int), kys r)) := by
          unfold m_ref03_Solve_L1
          dsimp only
          rw [decide_eq_true (show (i : Int) < 8 by omega), ifB_true, fF]
          simp only [some_bind']
          rw [decide_eq_false (show ¬ (a : Int) < 0 by omega), tF]
          simp only [ifB_false, some_bind', Bool.not_true]
          rw [rq_true (decide_eq_true (show (0 : Int) ≤ (a : Int) by omega)), rq_true (decide_eq_true (show (a : Int) < ((kys rows).length : Int) by omega)), kg,
            rq_true (decide_eq_true (show (ordI rows i).length + [(a : Int)].length ≤ 1000000 by unfold ordI; rw [List.length_map]; simp; omega)), rq_true (decide_eq_true (show (varI rows i).length + [(i : Int)].length ≤ 1000000 by unfold varI; rw [List.length_map]; simp; omega)), wrap_succ (by omega)]
          simp only [some_bind', Int.toNat_natCast]
          unfold ordI varI
          rw [pairs_take hw ha hk ht, List.map_append, List.map_append]
          have : (kys rows).set a (i : Int) = kys r := by
            unfold kys
            rw [mk_set, hl]
            exact mk_congr fun j hj => by rw [take_key ht hj]
          rw [this]; rfl
        rw [loopO_inl hb']
        exact ih (i + 1) r (by omega) (step_W hw (by rw [hs]; exact ht)) (by omega)
theorem ends1 {r : List Row} (hw : W r 8) (hb : r.length ≤ 12) : loopO (m_ref03_Solve_L2 (tms r) (kys r)) 0 = some (if r.any badC then .inr ([], [], 1) else .inl ()) := by
  have tl : (tms r).length = r.length := mk_len
  have kl : (kys r).length = r.length := mk_len
  have main := loopO_first (b := m_ref03_Solve_L2 (tms r) (kys r)) (fun i : Nat => (i : Int)) r.length (fun i => badC (rowAt r i)) (fun _ => ([], [], 1)) () ?_ ?_
  · rw [show ((0 : Int)) = ((0 : Nat) : Int) from rfl, main]
    cases hq : fst r.length (fun i => badC (rowAt r i)) with
    | some i =>
      obtain ⟨h1, h2⟩ := fst_some hq
      have : r.any badC = true := List.any_eq_true.2 ⟨rowAt r i, by rw [← row_of h1]; exact List.getElem_mem h1, h2⟩
      rw [this]; rfl
    | none =>
      have hn := fst_none.1 hq
      have : r.any badC = false := by
        rw [List.any_eq_false]
        intro x hx
        obtain ⟨i, hi, rfl⟩ := List.getElem_of_mem hx
        have := hn i hi
        rw [row_of hi, this]; decide
      rw [this]; rfl
  · intro i hi _
    unfold m_ref03_Solve_L2
    dsimp only
    rw [tl, kl, decide_eq_true (show (i : Int) < (r.length : Int) by omega), ifB_true, rq_true (decide_eq_true (show (0 : Int) ≤ (i : Int) by omega)), rq_true rfl]
    unfold kys tms
    rw [mk_gi hi, mk_gi hi, wrap_succ (by omega)]
    simp only [some_bind']
    unfold badC
    have hk := hw.r i hi
    unfold key at hk ⊢
    by_cases h1 : (rowAt r i).f1 = -1
    · rw [decide_eq_true (show (rowAt r i).f1 < 0 by omega), decide_eq_true h1]
      cases decide ((rowAt r i).f0.f1.f0 = 0) <;> rfl
    · rw [decide_eq_false (show ¬ (rowAt r i).f1 < 0 by rcases hk with h | ⟨u, _, h⟩ <;> omega), decide_eq_false h1]
      rfl
  · intro _
    unfold m_ref03_Solve_L2
    dsimp only
    rw [tl, decide_eq_false (by omega)]
    rfl
theorem ends2 {r : List Row} (hb : r.length ≤ 12) : loopO (m_ref03_Solve_L3 (ordI r 8) (tms r)) ([], 0) = some ((usedR r).map fun x => x.f0) := by
  have pl := pairs_len (rows := r) (v := 8)
  have ol : (ordI r 8).length = (pairs r 8).length := by unfold ordI; rw [List.length_map]
  have main := loopO_count (b := m_ref03_Solve_L3 (ordI r 8) (tms r)) (pairs r 8).length (fun i s => s = (((pairs r 8).take i).map (fun p => (rowAt r p.1).f0), (i : Int))) (fun x => x = (usedR r).map fun x => x.f0) ?_ ?_ (s := ([], 0)) rfl
  · obtain ⟨_, h, rfl⟩ := main
    exact h
  · rintro i _ hi rfl
    left
    unfold m_ref03_Solve_L3
    dsimp only
    have hm := pair_mem (List.getElem_mem hi)
    have g1 : gi (ordI r 8) (i : Int) = some (((pairs r 8)[i]).1 : Int) := by
      rw [gi_of (by omega)]; unfold ordI; rw [List.getElem_map]
    have g2 : gi (tms r) (((pairs r 8)[i]).1 : Int) = some (rowAt r ((pairs r 8)[i]).1).f0 := by unfold tms; rw [mk_gi hm.1]
    rw [ol, decide_eq_true (show (i : Int) < ((pairs r 8).length : Int) by omega), ifB_true, g1, some_bind', g2, some_bind', rq_true (decide_eq_true (by rw [List.length_map, List.length_take]; simp; omega)), wrap_succ (by omega)]
    refine ⟨_, rfl, ?_⟩
    rw [List.take_add_one, List.getElem?_eq_getElem hi, List.map_append]
    rfl
  · rintro _ rfl
    unfold m_ref03_Solve_L3
    dsimp only
    rw [ol, decide_eq_false (by omega), List.take_length]
    refine ⟨_, rfl, ?_⟩
    unfold usedR
    rw [List.map_map]; rfl
theorem vars_used {r : List Row} : varI r 8 = (usedR r).map fun x => x.f1 := by
  unfold varI usedR
  rw [List.map_map]
  refine List.map_congr_left fun p hp => ?_
  have := (pair_mem hp).2.2
  unfold key at this
  exact this.symm
theorem solveF {l : List TTerm} (h : inL l) (hl : l.length ≤ 12) : m_ref03_Solve l = some (solP l) := by
  unfold m_ref03_Solve solP
  rw [decide_eq_false (show ¬ 400 < (l.length : Int) by omega), ifB_false]
  have main := loopO_first (b := m_ref03_Solve_L0 l) (fun i : Nat => (mkL i (fun j => ownT (tAt l j)), (i : Int), mkL i (fun _ => (-1 : Int)))) l.length (fun i => !rt (tAt l i)) (fun _ => ([], [], 2)) (tms (startL l), kys (startL l)) ?_ ?_
  · rw [show (([], 0, []) : List TTerm × Int × List Int) = (mkL 0 (fun j => ownT (tAt l j)), ((0 : Nat) : Int), mkL 0 (fun _ => (-1 : Int))) from rfl, main]
    cases hq : fst l.length (fun i => !rt (tAt l i)) with
    | some i =>
      obtain ⟨h1, h2⟩ := fst_some hq
      have : l.any (fun t => !rt t) = true := List.any_eq_true.2 ⟨tAt l i, by rw [← t_of h1]; exact List.getElem_mem h1, h2⟩
      rw [this]; rfl
    | none =>
      have hn := fst_none.1 hq
      have : l.any (fun t => !rt t) = false := by
        rw [List.any_eq_false]
        intro x hx
        obtain ⟨i, hi, rfl⟩ := List.getElem_of_mem hx
        have := hn i hi
        rw [t_of hi, this]; decide
      rw [this]
      have hw := start_W h
      have sl : (startL l).length = l.length := mk_len
      have sF := stepsF 8 0 (startL l) (by omega) hw (by omega)
      simp only [some_bind', Bool.false_eq_true, if_false]
      rw [show (tms (startL l), ([] : List Int), ([] : List Int), (0 : Int), kys (startL l)) = (tms (startL l), ordI (startL l) 0, varI (startL l) 0, ((0 : Nat) : Int), kys (startL l)) from rfl, sF, ← List.range_eq_range']
      cases hr : runF (startL l) (List.range 8) with
      | none => rfl
      | some r =>
        rw [List.range_eq_range'] at hr
        obtain ⟨w8, rl⟩ := run_W 8 0 _ _ hw hr
        simp only [some_bind', ends1 (r := r) (by simpa using w8) (by omega)]
        unfold endP
        cases r.any badC with
        | true => rfl
        | false =>
          simp only [Bool.false_eq_true, if_false, some_bind', ends2 (r := r) (by omega), vars_used]
  · intro i hi _
    unfold m_ref03_Solve_L0
    dsimp only
    rw [decide_eq_true (show (i : Int) < (l.length : Int) by omega), ifB_true, t_gi hi]
    simp only [some_bind', tR' (t_in h i)]
    cases rt (tAt l i) with
    | false => rfl
    | true =>
      simp only [Bool.not_true, ifB_false, ownF (t_in h i), some_bind']
      rw [rq_true (decide_eq_true (by rw [mk_len]; simp; omega)), rq_true (decide_eq_true (by rw [mk_len]; simp; omega)), wrap_succ (by omega), mk_succ, mk_succ]
      rfl
  · intro _
    unfold m_ref03_Solve_L0
    dsimp only
    rw [decide_eq_false (by omega)]
    have sl : (startL l).length = l.length := mk_len
    have e1 : mkL l.length (fun j => ownT (tAt l j)) = tms (startL l) := by
      unfold tms; rw [sl]; exact mk_congr fun i hi => by unfold startL; rw [row_mk hi]
    have e2 : mkL l.length (fun _ => (-1 : Int)) = kys (startL l) := by
      unfold kys; rw [sl]; exact mk_congr fun i hi => by unfold key startL; rw [row_mk hi]
    rw [e1, e2]; rfl
end Go.E
