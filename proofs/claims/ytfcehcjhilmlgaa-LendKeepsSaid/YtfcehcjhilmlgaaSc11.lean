import Derived.Test.YtfcehcjhilmlgaaSc10
section
set_option linter.all false
set_option maxRecDepth 10000
namespace Go.E
open Go Go.Proofs Go.Eng
def better (low : Bool) (y best : TRat) : Bool := if low then decide (0 < cmpR y best) else decide (cmpR y best < 0)
def sgnR (low : Bool) (x : TRat) : TRat := if low then neg x else x
def edgeL (at' : List TRat) (low : Bool) : List TRow → Bool → TRat → Option TRat
  | [], _, best => some best
  | r :: rs, first, best => if (valT r.f1 at').2 = 0 then edgeL at' low rs false (if first || better low (sgnR low (valT r.f1 at').1) best then sgnR low (valT r.f1 at').1 else best) else none
def inR (l : List TRat) : Prop := ∀ r ∈ l, in64R r
theorem sgn_in {low : Bool} {x : TRat} (h : in64R x) : in64R (sgnR low x) := by
  unfold sgnR; split
  · exact neg_in h
  · exact h
theorem edge_over {rows : List TRow} {l : List TRat} {low : Bool} (hr : inW rows) (hl : inR l) (hn : l.length ≤ 1000) (best : TRat) (hb : in64R best) : ∃ x c, m_bound_engine_edge ⟨true⟩ rows l low = some (x, c, ⟨true⟩, l) ∧ in64R x := by
  unfold m_bound_engine_edge
  dsimp only
  cases rows with
  | nil =>
    rw [loopO_inr (x := .inl (true, 0, 0))]
    · exact ⟨_, _, rfl, z64⟩
    · unfold m_bound_engine_edge_L0
      dsimp only
      rw [decide_eq_false (by simp)]; rfl
  | cons r rs =>
    rw [loopO_inr (x := .inr (⟨0, 0⟩, true, ⟨true⟩, l))]
    · exact ⟨_, _, rfl, z64⟩
    · unfold m_bound_engine_edge_L0
      dsimp only
      rw [decide_eq_true (by simp), ifB_true, show ((0 : Int)) = ((0 : Nat) : Int) from rfl, gi_of (by simp)]
      have := valE (hr r (by simp)) hl hn
      simp only [some_bind', List.getElem_cons_zero, this, ratE, Bool.true_or, ifB_true]
theorem edge_loop {rows : List TRow} {l : List TRat} {low : Bool} (hr : inW rows) (hl : inR l) (hn : l.length ≤ 1000) (hrl : rows.length ≤ 1000) : ∀ (k i : Nat) (best : TRat), i + k = rows.length → in64R best →
    (match edgeL l low (rows.drop i) (decide (i = 0)) best with
      | some x => in64R x ∧ loopO (m_bound_engine_edge_L0 rows l low) ((i : Int), false, best.f0, best.f1) = some (.inl (false, x.f0, x.f1))
      | none => ∃ x, in64R x ∧ loopO (m_bound_engine_edge_L0 rows l low) ((i : Int), false, best.f0, best.f1) = some (.inr (x, true, ⟨true⟩, l))) := by
  intro k
  induction k with
  | zero =>
    intro i best hi hb
    rw [List.drop_of_length_le (by omega)]
    refine ⟨hb, loopO_inr ?_⟩
    unfold m_bound_engine_edge_L0
    dsimp only
    rw [decide_eq_false (by omega)]; rfl
  | succ k ih =>
    intro i best hi hb
    have hlt : i < rows.length := by omega
    have hin := hr _ (List.getElem_mem hlt)
    have hv := valE hin hl hn
    have hvi : in64R (valT rows[i].f1 l).1 := valT_in hin
    rw [List.drop_eq_getElem_cons hlt]
    have e : m_bound_engine_edge_L0 rows l low ((i : Int), false, best.f0, best.f1) = if (valT rows[i].f1 l).2 = 0 then some (.inl (((i + 1 : Nat) : Int), false, (if decide (i = 0) || better low (sgnR low (valT rows[i].f1 l).1) best then sgnR low (valT rows[i].f1 l).1 else best).f0, (if decide (i = 0) || better low (sgnR low (valT rows[i].f1 l).1) best then sgnR low (valT rows[i].f1 l).1 else best).f1)) else some (.inr (.inr (best, true, ⟨true⟩, l))) := by
      unfold m_bound_engine_edge_L0
      dsimp only
      rw [decide_eq_true (show (i : Int) < (rows.length : Int) by omega), ifB_true, gi_of hlt]
      simp only [some_bind', hv, ratE, Bool.false_or]
      by_cases hz : (valT rows[i].f1 l).2 = 0
      · rw [if_pos hz, decide_eq_true hz]
        simp only [Bool.not_true, ifB_false]
        have es : (ifB low (some (IntKind.wrap .i64 (0 - (valT rows[i].f1 l).1.f0))) (some (valT rows[i].f1 l).1.f0) : Option Int) = some (sgnR low (valT rows[i].f1 l).1).f0 := by
          unfold sgnR; cases low <;> rfl
        have e1 : (sgnR low (valT rows[i].f1 l).1).f1 = (valT rows[i].f1 l).1.f1 := by unfold sgnR; cases low <;> rfl
        rw [es]
        simp only [some_bind']
        rw [← e1]
        have ec := cmpE (a := ⟨(sgnR low (valT rows[i].f1 l).1).f0, (sgnR low (valT rows[i].f1 l).1).f1⟩) (b := ⟨best.f0, best.f1⟩) (sgn_in hvi) hb
        rw [ec]
        simp only [some_bind']
        have ei : decide ((i : Int) = 0) = decide (i = 0) := decide_eq_decide.2 (by omega)
        rw [ei, wrap_succ (by omega)]
        have eb : (ifB (decide (i = 0)) (some true) (ifB low (ifB (decide (0 < cmpR ⟨(sgnR low (valT rows[i].f1 l).1).f0, (sgnR low (valT rows[i].f1 l).1).f1⟩ ⟨best.f0, best.f1⟩)) (some true) (some false)) (some (decide (cmpR ⟨(sgnR low (valT rows[i].f1 l).1).f0, (sgnR low (valT rows[i].f1 l).1).f1⟩ ⟨best.f0, best.f1⟩ < 0)))) : Option Bool) = some (decide (i = 0) || better low (sgnR low (valT rows[i].f1 l).1) best) := by
          unfold better
          show (ifB (decide (i = 0)) (some true) (ifB low (ifB (decide (0 < cmpR (sgnR low (valT rows[i].f1 l).1) best)) (some true) (some false)) (some (decide (cmpR (sgnR low (valT rows[i].f1 l).1) best < 0)))) : Option Bool) = _
          cases decide (i = 0) with
          | true => rfl
          | false =>
            cases low with
            | true => cases decide (0 < cmpR (sgnR true (valT rows[i].f1 l).1) best) <;> rfl
            | false => rfl
        rw [eb]
        simp only [some_bind']
        cases decide (i = 0) || better low (sgnR low (valT rows[i].f1 l).1) best <;> rfl
      · rw [if_neg hz, decide_eq_false hz]; rfl
    unfold edgeL
    by_cases hz : (valT rows[i].f1 l).2 = 0
    · rw [if_pos hz] at e ⊢
      rw [loopO_inl e]
      have := ih (i + 1) (if decide (i = 0) || better low (sgnR low (valT rows[i].f1 l).1) best then sgnR low (valT rows[i].f1 l).1 else best) (by omega) (by split; exact sgn_in hvi; exact hb)
      rw [decide_eq_false (show ¬ i + 1 = 0 by omega)] at this
      exact this
    · rw [if_neg hz] at e ⊢
      rw [loopO_inr e]
      exact ⟨best, hb, rfl⟩
def edgeP (rows : List TRow) (at' : List TRat) (low : Bool) : Option TRat := edgeL at' low rows true ⟨0, 0⟩
theorem edgeE {rows : List TRow} {l : List TRat} {low : Bool} (hr : inW rows) (hl : inR l) (hn : l.length ≤ 1000) (hrl : rows.length ≤ 1000) :
    (match edgeP rows l low with
      | some x => in64R x ∧ m_bound_engine_edge ⟨false⟩ rows l low = some (x, !rows.isEmpty, ⟨false⟩, l)
      | none => ∃ x c, in64R x ∧ m_bound_engine_edge ⟨false⟩ rows l low = some (x, c, ⟨true⟩, l)) := by
  have := edge_loop (low := low) hr hl hn hrl rows.length 0 ⟨0, 0⟩ (by omega) z64
  rw [List.drop_zero, decide_eq_true rfl] at this
  unfold edgeP m_bound_engine_edge
  dsimp only
  have ee : decide (0 < (rows.length : Int)) = !rows.isEmpty := by cases rows <;> simp
  split at this
  · rename_i x hx
    refine ⟨this.1, ?_⟩
    rw [show loopO (m_bound_engine_edge_L0 rows l low) (0, false, 0, 0) = _ from this.2]
    simp only [some_bind']
    rw [ee]
  · rename_i hx
    obtain ⟨x, h1, h2⟩ := this
    refine ⟨x, true, h1, ?_⟩
    rw [show loopO (m_bound_engine_edge_L0 rows l low) (0, false, 0, 0) = _ from h2]; rfl
def ok1 (x : TRat × Int) : Option TRat := if x.2 = 0 then some x.1 else none
def chooseP (s : TBound_stage) (at' : List TRat) : Option TRat :=
  match edgeP s.f0 at' true, edgeP s.f1 at' false with
  | some lo, some hi => if s.f0.isEmpty && s.f1.isEmpty then some ⟨0, 1⟩ else if s.f1.isEmpty then ok1 (addR lo ⟨1, 1⟩) else if s.f0.isEmpty then ok1 (subR hi ⟨1, 1⟩) else (match ok1 (addR lo hi) with | some x => ok1 (mulR x ⟨1, 2⟩) | none => none)
  | _, _ => none
theorem half64 : in64R ⟨1, 2⟩ := by decide
theorem chooseE {s : TBound_stage} {l : List TRat} (h0 : inW s.f0) (h1 : inW s.f1) (hl : inR l) (hn : l.length ≤ 1000) (n0 : s.f0.length ≤ 1000) (n1 : s.f1.length ≤ 1000) :
    ∃ x o, m_bound_engine_choose ⟨false⟩ s l = some (x, ⟨o⟩, l) ∧ in64R x ∧ (match chooseP s l with | some y => o = false ∧ x = y | none => o = true) := by
  unfold m_bound_engine_choose chooseP
  have a := edgeE (low := true) h0 hl hn n0
  have b := edgeE (low := false) h1 hl hn n1
  cases ha : edgeP s.f0 l true with
  | none =>
    rw [ha] at a
    obtain ⟨x, c, i1, e1⟩ := a
    obtain ⟨y, c', e2, i2⟩ := edge_over (low := false) h1 hl hn ⟨0, 0⟩ z64
    rw [e1]
    simp only [some_bind', e2, ifB_true]
    exact ⟨_, _, rfl, n64, rfl⟩
  | some lo =>
    rw [ha] at a
    obtain ⟨i1, e1⟩ := a
    rw [e1]
    simp only [some_bind']
    cases hb : edgeP s.f1 l false with
    | none =>
      rw [hb] at b
      obtain ⟨y, c, i2, e2⟩ := b
      rw [e2]
      simp only [some_bind', ifB_true]
      exact ⟨_, _, rfl, n64, rfl⟩
    | some hi =>
      rw [hb] at b
      obtain ⟨i2, e2⟩ := b
      rw [e2]
      simp only [some_bind', ifB_false]
      have fin : ∀ (x : TRat × Int), in64R x.1 → ∃ y o, (some (x.1, (⟨!decide (x.2 = 0)⟩ : TBound_engine), l) : Option (TRat × TBound_engine × List TRat)) = some (y, ⟨o⟩, l) ∧ in64R y ∧ (match ok1 x with | some z => o = false ∧ y = z | none => o = true) := fun x hx => by
        refine ⟨x.1, !decide (x.2 = 0), rfl, hx, ?_⟩
        unfold ok1
        split
        · rename_i h; split at h
          · rename_i hz; cases h; rw [decide_eq_true hz]; exact ⟨rfl, rfl⟩
          · cases h
        · rename_i h; split at h
          · cases h
          · rename_i hz; rw [decide_eq_false hz]; rfl
      cases f0 : s.f0.isEmpty with
      | true =>
        cases f1 : s.f1.isEmpty with
        | true => exact ⟨_, _, rfl, n64, rfl, rfl⟩
        | false =>
          simp only [Bool.not_true, Bool.not_false, ifB_true, ifB_false, some_bind', subE i2 one64, ratE, Bool.false_or, Bool.and_false, Bool.false_eq_true, if_false, if_true]
          exact fin _ (sub_good _ _).1
      | false =>
        cases f1 : s.f1.isEmpty with
        | true =>
          simp only [Bool.not_true, Bool.not_false, ifB_true, ifB_false, some_bind', aR i1 one64, ratE, Bool.false_or, Bool.and_true, Bool.false_eq_true, if_false, if_true]
          exact fin _ (add_good _ _).1
        | false =>
          simp only [Bool.not_true, Bool.not_false, ifB_true, ifB_false, some_bind', aR i1 i2, ratE, Bool.false_or, Bool.and_self, Bool.false_eq_true, if_false, if_true]
          by_cases hz : (addR lo hi).2 = 0
          · have : ok1 (addR lo hi) = some (addR lo hi).1 := by unfold ok1; rw [if_pos hz]
            rw [this, decide_eq_true hz]
            simp only [Bool.not_true, ifB_false, mR (add_good lo hi).1 half64, some_bind', ratE, Bool.false_or]
            exact fin _ (mul_good _ _).1
          · have : ok1 (addR lo hi) = none := by unfold ok1; rw [if_neg hz]
            rw [this, decide_eq_false hz]
            exact ⟨_, _, rfl, (add_good lo hi).1, rfl⟩
end Go.E
end
section
set_option linter.all false
set_option maxRecDepth 10000
namespace Go.E
open Go Go.Proofs Go.Eng
def stAt (st : List TBound_stage) (k : Nat) : TBound_stage := (st[k]?).getD ⟨[], []⟩
def inSt (st : List TBound_stage) : Prop := ∀ s ∈ st, inW s.f0 ∧ inW s.f1 ∧ s.f0.length ≤ 1000 ∧ s.f1.length ≤ 1000
def witV (piv : List Int) (st : List TBound_stage) : Nat → List TRat → Option (List TRat)
  | 0, l => some l
  | k + 1, l => if piv.any (fun y => decide ((k : Int) = y)) then witV piv st k l else match chooseP (stAt st k) l with
    | some x => witV piv st k (l.set k x)
    | none => none
theorem inR_set {l : List TRat} {k : Nat} {x : TRat} (h : inR l) (hx : in64R x) : inR (l.set k x) := fun r hr => by
  rcases List.mem_or_eq_of_mem_set hr with hr | rfl
  · exact h r hr
  · exact hx
theorem wit_over0 {piv : List Int} {st : List TBound_stage} {i : Int} {l : List TRat} : loopO (m_bound_engine_witness_L0 piv st) (i, true, l) = some (true, l) := by
  refine loopO_inr ?_
  unfold m_bound_engine_witness_L0
  dsimp only
  cases decide (0 ≤ i) <;> rfl
theorem wit_loop0 {piv : List Int} {st : List TBound_stage} (hp : piv.length ≤ 1000) (hst : inSt st) (hs8 : st.length = 8) : ∀ (k : Nat) (l : List TRat), k ≤ 8 → inR l → l.length = 8 →
    ∃ o l', loopO (m_bound_engine_witness_L0 piv st) ((k : Int) - 1, false, l) = some (o, l') ∧ inR l' ∧ l'.length = 8 ∧ (match witV piv st k l with | some l1 => o = false ∧ l' = l1 | none => o = true) := by
  intro k
  induction k with
  | zero =>
    intro l _ hl h8
    refine ⟨false, l, loopO_inr ?_, hl, h8, rfl, rfl⟩
    unfold m_bound_engine_witness_L0
    dsimp only
    rw [decide_eq_false (by omega)]; rfl
  | succ k ih =>
    intro l hk hl h8
    have ek : ((k + 1 : Nat) : Int) - 1 = (k : Int) := by omega
    rw [ek]
    have hks : k < st.length := by omega
    have hmem : stAt st k ∈ st := by unfold stAt; rw [List.getElem?_eq_getElem hks]; exact List.getElem_mem hks
    obtain ⟨s0, s1, s2, s3⟩ := hst _ hmem
    have eg : gi st (k : Int) = some (stAt st k) := by rw [gi_of hks]; unfold stAt; rw [List.getElem?_eq_getElem hks]; rfl
    obtain ⟨x, o, e1, e2, e3⟩ := chooseE (s := stAt st k) s0 s1 hl (by omega) s2 s3
    have ew : IntKind.wrap .i64 ((k : Int) - 1) = (k : Int) - 1 := by rw [wrap_i64 (by omega) (by omega)]
    unfold witV
    cases hc : piv.any fun y => decide ((k : Int) = y) with
    | true =>
      have hb : m_bound_engine_witness_L0 piv st ((k : Int), false, l) = some (.inl ((k : Int) - 1, false, l)) := by
        unfold m_bound_engine_witness_L0
        dsimp only
        rw [decide_eq_true (by omega)]
        simp only [ifB_true, some_bind', idxI hp, hc, Bool.not_false, Bool.not_true, ifB_false, ew]
      rw [loopO_inl hb, if_pos rfl]
      exact ih l (by omega) hl h8
    | false =>
      have hb : m_bound_engine_witness_L0 piv st ((k : Int), false, l) = some (.inl ((k : Int) - 1, o, l.set k x)) := by
        unfold m_bound_engine_witness_L0
        dsimp only
        rw [decide_eq_true (show (0 : Int) ≤ (k : Int) by omega)]
        simp only [ifB_true, some_bind', idxI hp, hc, Bool.not_false, eg, e1]
        rw [rq_true rfl, rq_true (decide_eq_true (show (k : Int) < (l.length : Int) by omega)), gi_of (by omega)]
        simp only [some_bind', ew, Int.toNat_natCast]
      rw [loopO_inl hb, if_neg (by decide)]
      cases hy : chooseP (stAt st k) l with
      | some y =>
        rw [hy] at e3
        obtain ⟨rfl, rfl⟩ := e3
        exact ih (l.set k x) (by omega) (inR_set (k := k) hl e2) (by rw [List.length_set]; exact h8)
      | none =>
        rw [hy] at e3
        subst e3
        exact ⟨true, l.set k x, wit_over0, inR_set (k := k) hl e2, by rw [List.length_set]; exact h8, rfl⟩
def witU : List Row → List TRat → Option (List TRat)
  | [], l => some l
  | r :: U, l => if (valT r.f0 l).2 = 0 then witU U (l.set r.f1.toNat (neg (valT r.f0 l).1)) else none
theorem wit_loop1 {U : List Row} (hU : GoodU U) : ∀ (k i : Nat) (l : List TRat), i + k = U.length → inR l → l.length = 8 →
    ∃ o l', loopO (m_bound_engine_witness_L1 (U.map fun x => x.f0) (U.map fun x => x.f1)) ((i : Int), false, l) = some (o, l') ∧ inR l' ∧ l'.length = 8 ∧ (match witU (U.drop i) l with | some l1 => o = false ∧ l' = l1 | none => o = true) := by
  have hUl := hU.l
  intro k
  induction k with
  | zero =>
    intro i l hi hl h8
    rw [List.drop_of_length_le (by omega)]
    refine ⟨false, l, loopO_inr ?_, hl, h8, rfl, rfl⟩
    unfold m_bound_engine_witness_L1
    dsimp only
    rw [List.length_map, decide_eq_false (by omega)]; rfl
  | succ k ih =>
    intro i l hi hl h8
    have hlt : i < U.length := by omega
    have hin := hU.t _ (List.getElem_mem hlt)
    have hv := hU.v _ (List.getElem_mem hlt)
    have e : U[i].f1 = ((U[i].f1.toNat : Nat) : Int) := by omega
    have hvi : in64R (valT U[i].f0 l).1 := valT_in hin
    rw [List.drop_eq_getElem_cons hlt]
    unfold witU
    have hb : m_bound_engine_witness_L1 (U.map fun x => x.f0) (U.map fun x => x.f1) ((i : Int), false, l) = some (.inl (((i + 1 : Nat) : Int), !decide ((valT U[i].f0 l).2 = 0), l.set U[i].f1.toNat (neg (valT U[i].f0 l).1))) := by
      unfold m_bound_engine_witness_L1
      dsimp only
      rw [List.length_map, decide_eq_true (show (i : Int) < (U.length : Int) by omega), ifB_true, gi_of (by rw [List.length_map]; exact hlt), gi_of (by rw [List.length_map]; exact hlt), List.getElem_map, List.getElem_map]
      simp only [some_bind', ifB_false, valE hin hl (by omega), ratE, Bool.false_or]
      rw [rq_true (decide_eq_true hv.1), rq_true (decide_eq_true (show U[i].f1 < (l.length : Int) by omega)), e, gi_of (by omega), wrap_succ (by omega)]
      rfl
    rw [loopO_inl hb]
    by_cases hz : (valT U[i].f0 l).2 = 0
    · rw [if_pos hz, decide_eq_true hz]
      exact ih (i + 1) _ (by omega) (inR_set (k := U[i].f1.toNat) hl (neg_in hvi)) (by rw [List.length_set]; exact h8)
    · rw [if_neg hz, decide_eq_false hz]
      by_cases hend : i + 1 < U.length
      · refine ⟨true, _, loopO_inr ?_, inR_set (k := U[i].f1.toNat) hl (neg_in hvi), by rw [List.length_set]; exact h8, rfl⟩
        unfold m_bound_engine_witness_L1
        dsimp only
        rw [List.length_map, decide_eq_true (by omega), ifB_true, gi_of (by rw [List.length_map]; exact hend)]
        rfl
      · refine ⟨true, _, loopO_inr ?_, inR_set (k := U[i].f1.toNat) hl (neg_in hvi), by rw [List.length_set]; exact h8, rfl⟩
        unfold m_bound_engine_witness_L1
        dsimp only
        rw [List.length_map, decide_eq_false (by omega)]; rfl
def witB (U : List Row) (st : List TBound_stage) : Option (List TRat) := match witV (U.map fun x => x.f1) st 8 (List.replicate 8 ⟨0, 1⟩) with
  | some l => witU U l
  | none => none
theorem witE {U : List Row} {st : List TBound_stage} (hU : GoodU U) (hst : inSt st) (hs8 : st.length = 8) : ∃ l o, m_bound_engine_witness ⟨false⟩ st (U.map fun x => x.f0) (U.map fun x => x.f1) = some (l, ⟨o⟩) ∧ (match witB U st with | some l1 => o = false ∧ l = l1 | none => o = true) := by
  have hUl := hU.l
  unfold m_bound_engine_witness m_slices_Repeat_api_Rat
  rw [rq_true (decide_eq_true rfl)]
  simp only [some_bind']
  have r0 : inR (List.replicate 8 (⟨0, 1⟩ : TRat)) := fun r hr => by rw [List.eq_of_mem_replicate hr]; exact n64
  obtain ⟨o, l', e1, e2, e3, e4⟩ := wit_loop0 (piv := U.map fun x => x.f1) (by rw [List.length_map]; omega) hst hs8 8 (List.replicate 8 ⟨0, 1⟩) (Nat.le_refl _) r0 (by simp)
  rw [show ((7 : Int)) = ((8 : Nat) : Int) - 1 from rfl, e1]
  simp only [some_bind']
  unfold witB
  cases hw : witV (U.map fun x => x.f1) st 8 (List.replicate 8 ⟨0, 1⟩) with
  | none =>
    rw [hw] at e4
    subst e4
    by_cases h0 : 0 < U.length
    · rw [loopO_inr (x := (true, l'))]
      · exact ⟨_, _, rfl, rfl⟩
      · unfold m_bound_engine_witness_L1
        dsimp only
        rw [List.length_map, decide_eq_true (by omega), ifB_true, show ((0 : Int)) = ((0 : Nat) : Int) from rfl, gi_of (by rw [List.length_map]; exact h0)]
        rfl
    · rw [loopO_inr (x := (true, l'))]
      · exact ⟨_, _, rfl, rfl⟩
      · unfold m_bound_engine_witness_L1
        dsimp only
        rw [List.length_map, decide_eq_false (by omega)]; rfl
  | some l1 =>
    rw [hw] at e4
    obtain ⟨rfl, rfl⟩ := e4
    obtain ⟨o, l'', f1, f2, f3, f4⟩ := wit_loop1 hU U.length 0 l' (by omega) e2 e3
    rw [show ((0 : Int)) = ((0 : Nat) : Int) from rfl, f1]
    rw [List.drop_zero] at f4
    exact ⟨l'', o, rfl, f4⟩
def runD : Nat → Nat → List TRow → Option (List TBound_stage × List TRow)
  | 0, _, rows => some ([], rows)
  | k + 1, v, rows => match dropP rows v with
    | none => none
    | some (s, n) => match runD k (v + 1) n with
      | none => none
      | some (l, r) => some (s :: l, r)
theorem runD_over {rows : List TRow} {acc : List TBound_stage} {v : Int} : loopO m_bound_engine_solve_L2 (rows, acc, v, true) = some (rows, acc, true) := by
  refine loopO_inr ?_
  unfold m_bound_engine_solve_L2
  dsimp only
  cases decide (v < 8) <;> rfl
theorem drop_lens {rows : List TRow} {v : Nat} {s : TBound_stage} {n : List TRow} (h : dropP rows v = some (s, n)) (hl : rows.length ≤ 400) : s.f0.length ≤ 1000 ∧ s.f1.length ≤ 1000 := by
  unfold dropP at h
  split at h
  · cases h
    have h1 : (lowW v rows).length ≤ rows.length := by unfold lowW; rw [List.length_map]; exact List.length_filter_le _ _
    have h2 : (upW v rows).length ≤ rows.length := by unfold upW; rw [List.length_map]; exact List.length_filter_le _ _
    exact ⟨by dsimp only; omega, by dsimp only; omega⟩
  · cases h
theorem runD_loop : ∀ (k v : Nat) (rows : List TRow) (acc : List TBound_stage), v + k = 8 → inW rows → rows.length ≤ 400 → acc.length = v →
    ∃ fin acc' o, loopO m_bound_engine_solve_L2 (rows, acc, (v : Int), false) = some (fin, acc', o) ∧ (match runD k v rows with | some (l, r) => o = false ∧ fin = r ∧ acc' = acc ++ l ∧ inW r ∧ r.length ≤ 400 ∧ inSt l ∧ l.length = k | none => o = true) := by
  intro k
  induction k with
  | zero =>
    intro v rows acc hv hr hl ha
    refine ⟨rows, acc, false, loopO_inr ?_, rfl, rfl, by simp, hr, hl, (fun _ h => by cases h), rfl⟩
    unfold m_bound_engine_solve_L2
    dsimp only
    rw [decide_eq_false (by omega)]; rfl
  | succ k ih =>
    intro v rows acc hv hr hl ha
    obtain ⟨s, n, o, e1, e2⟩ := dropE (v := v) hr hl
    have hb : m_bound_engine_solve_L2 (rows, acc, (v : Int), false) = some (.inl (n, acc ++ [s], ((v + 1 : Nat) : Int), o)) := by
      unfold m_bound_engine_solve_L2
      dsimp only
      rw [decide_eq_true (show (v : Int) < 8 by omega)]
      simp only [ifB_true, some_bind', Bool.not_false, e1]
      rw [rq_true (decide_eq_true (by simp; omega)), wrap_succ (by omega)]
      rfl
    rw [loopO_inl hb]
    unfold runD
    cases hd : dropP rows v with
    | none =>
      rw [hd] at e2
      subst e2
      exact ⟨_, _, _, runD_over, rfl⟩
    | some p =>
      obtain ⟨s', n'⟩ := p
      rw [hd] at e2
      obtain ⟨rfl, rfl, rfl⟩ := e2
      obtain ⟨i1, i2, i3, i4⟩ := drop_in hd hr
      obtain ⟨j1, j2⟩ := drop_lens hd hl
      obtain ⟨fin, acc', o, f1, f2⟩ := ih (v + 1) n (acc ++ [s]) (by omega) i3 i4 (by simp; omega)
      refine ⟨fin, acc', o, f1, ?_⟩
      dsimp only
      cases hq : runD k (v + 1) n with
      | none => rw [hq] at f2; exact f2
      | some q =>
        obtain ⟨l, r⟩ := q
        rw [hq] at f2
        obtain ⟨g1, g2, g3, g4, g5, g6, g7⟩ := f2
        refine ⟨g1, g2, by rw [g3]; simp, g4, g5, fun x hx => ?_, by simp [g7]⟩
        rcases List.mem_cons.1 hx with rfl | hx
        · exact ⟨i1, i2, j1, j2⟩
        · exact g6 x hx
def eqsW (l : List TRow) : List TTerm := (l.filter fun r => decide (r.f0 = 0)).map fun r => r.f1
theorem eqs_loop {l : List TRow} (hl : l.length ≤ 400) : loopO (m_bound_engine_solve_L0 l) ([], 0) = some (eqsW l) := by
  have main := loopO_count (b := m_bound_engine_solve_L0 l) l.length (fun i s => s.2 = (i : Int) ∧ s.1 = eqsW (l.take i)) (fun z => z = eqsW l) ?_ ?_ (s := ([], 0)) ⟨rfl, rfl⟩
  · obtain ⟨z, hz, rfl⟩ := main; exact hz
  · rintro i ⟨acc, _⟩ hi ⟨rfl, rfl⟩
    left
    have hlen : (eqsW (l.take i)).length ≤ i := by
      unfold eqsW; rw [List.length_map]
      exact Nat.le_trans (List.length_filter_le _ _) (by rw [List.length_take]; omega)
    have tk := take_snoc hi
    unfold m_bound_engine_solve_L0
    dsimp only
    rw [decide_eq_true (show (i : Int) < (l.length : Int) by omega), ifB_true, gi_of hi, wrap_succ (by omega)]
    simp only [some_bind']
    by_cases hz : l[i].f0 = 0
    · rw [decide_eq_true hz]
      simp only [ifB_true]
      rw [rq_true (decide_eq_true (by simp; omega))]
      refine ⟨_, rfl, rfl, ?_⟩
      rw [tk]
      unfold eqsW
      rw [filter_snoc, if_pos (by simpa using hz), List.map_append]; rfl
    · rw [decide_eq_false hz]
      refine ⟨_, rfl, rfl, ?_⟩
      rw [tk]
      unfold eqsW
      rw [filter_snoc, if_neg (by simpa using hz)]
  · rintro ⟨acc, _⟩ ⟨rfl, rfl⟩
    unfold m_bound_engine_solve_L0
    dsimp only
    rw [decide_eq_false (by omega), List.take_length]
    exact ⟨_, rfl, rfl⟩
def plainL (U : List Row) : List TRow → Option (List TRow)
  | [] => some []
  | r :: rs => if r.f0 = 0 then plainL U rs else match plainT (ownT r.f1) U, plainL U rs with
    | some t, some l => some (⟨r.f0, t⟩ :: l)
    | _, _ => none
theorem plains_over {U : List Row} {l : List TRow} {st : Int} (hU : GoodU U) (hl : inW l) (hn : l.length ≤ 400) : ∀ (k i : Nat) (acc : List TRow), i + k = l.length → acc.length ≤ i →
    ∃ acc', loopO (m_bound_engine_solve_L1 l (U.map (fun x => x.f0), U.map (fun x => x.f1), st)) (acc, (i : Int), true) = some (acc', true) := by
  intro k
  induction k with
  | zero =>
    intro i acc hi ha
    refine ⟨acc, loopO_inr ?_⟩
    unfold m_bound_engine_solve_L1
    dsimp only
    rw [decide_eq_false (by omega)]; rfl
  | succ k ih =>
    intro i acc hi ha
    have hlt : i < l.length := by omega
    have hin := hl _ (List.getElem_mem hlt)
    obtain ⟨b, t', e1, e2, e3, e4⟩ := plainE hU (r := ⟨l[i].f0, ownT l[i].f1⟩) (own_in hin) true
    have e3 := e3 rfl
    subst e3
    by_cases hz : l[i].f0 = 0
    · have hb : m_bound_engine_solve_L1 l (U.map (fun x => x.f0), U.map (fun x => x.f1), st) (acc, (i : Int), true) = some (.inl (acc, ((i + 1 : Nat) : Int), true)) := by
        unfold m_bound_engine_solve_L1
        dsimp only
        rw [decide_eq_true (show (i : Int) < (l.length : Int) by omega), ifB_true, gi_of hlt, wrap_succ (by omega)]
        simp only [some_bind']
        rw [decide_eq_true hz]; rfl
      rw [loopO_inl hb]
      exact ih (i + 1) acc (by omega) (by omega)
    · have hb : m_bound_engine_solve_L1 l (U.map (fun x => x.f0), U.map (fun x => x.f1), st) (acc, (i : Int), true) = some (.inl (acc ++ [⟨l[i].f0, t'⟩], ((i + 1 : Nat) : Int), true)) := by
        unfold m_bound_engine_solve_L1
        dsimp only
        rw [decide_eq_true (show (i : Int) < (l.length : Int) by omega), ifB_true, gi_of hlt, wrap_succ (by omega)]
        simp only [some_bind']
        rw [decide_eq_false hz]
        simp only [Bool.not_false, ifB_true, ownP hin, some_bind', e1]
        rw [rq_true (decide_eq_true (by simp; omega))]; rfl
      rw [loopO_inl hb]
      exact ih (i + 1) _ (by omega) (by simp; omega)
theorem plains_loop {U : List Row} {l : List TRow} {st : Int} (hU : GoodU U) (hl : inW l) (hn : l.length ≤ 400) : ∀ (k i : Nat) (acc : List TRow), i + k = l.length → acc.length ≤ i → inW acc →
    ∃ acc' o, loopO (m_bound_engine_solve_L1 l (U.map (fun x => x.f0), U.map (fun x => x.f1), st)) (acc, (i : Int), false) = some (acc', o) ∧ (match plainL U (l.drop i) with | some r => o = false ∧ acc' = acc ++ r ∧ inW acc' ∧ acc'.length ≤ l.length | none => o = true) := by
  intro k
  induction k with
  | zero =>
    intro i acc hi ha hA
    rw [List.drop_of_length_le (by omega)]
    refine ⟨acc, false, loopO_inr ?_, rfl, by simp, hA, by omega⟩
    unfold m_bound_engine_solve_L1
    dsimp only
    rw [decide_eq_false (by omega)]; rfl
  | succ k ih =>
    intro i acc hi ha hA
    have hlt : i < l.length := by omega
    have hin := hl _ (List.getElem_mem hlt)
    rw [List.drop_eq_getElem_cons hlt]
    unfold plainL
    by_cases hz : l[i].f0 = 0
    · have hb : m_bound_engine_solve_L1 l (U.map (fun x => x.f0), U.map (fun x => x.f1), st) (acc, (i : Int), false) = some (.inl (acc, ((i + 1 : Nat) : Int), false)) := by
        unfold m_bound_engine_solve_L1
        dsimp only
        rw [decide_eq_true (show (i : Int) < (l.length : Int) by omega), ifB_true, gi_of hlt, wrap_succ (by omega)]
        simp only [some_bind']
        rw [decide_eq_true hz]; rfl
      rw [loopO_inl hb, if_pos hz]
      exact ih (i + 1) acc (by omega) (by omega) hA
    · obtain ⟨b, t', e1, e2, e3, e4⟩ := plainE hU (r := ⟨l[i].f0, ownT l[i].f1⟩) (own_in hin) false
      have e4 := e4 rfl
      dsimp only at e4
      have hb : m_bound_engine_solve_L1 l (U.map (fun x => x.f0), U.map (fun x => x.f1), st) (acc, (i : Int), false) = some (.inl (acc ++ [⟨l[i].f0, t'⟩], ((i + 1 : Nat) : Int), b)) := by
        unfold m_bound_engine_solve_L1
        dsimp only
        rw [decide_eq_true (show (i : Int) < (l.length : Int) by omega), ifB_true, gi_of hlt, wrap_succ (by omega)]
        simp only [some_bind']
        rw [decide_eq_false hz]
        simp only [Bool.not_false, ifB_true, ownP hin, some_bind', e1]
        rw [rq_true (decide_eq_true (by simp; omega))]; rfl
      rw [loopO_inl hb, if_neg hz]
      cases hp : plainT (ownT l[i].f1) U with
      | none =>
        rw [hp] at e4
        subst e4
        obtain ⟨acc', h⟩ := plains_over (st := st) hU hl hn k (i + 1) (acc ++ [⟨l[i].f0, t'⟩]) (by omega) (by simp; omega)
        exact ⟨acc', true, h, rfl⟩
      | some t1 =>
        rw [hp] at e4
        obtain ⟨rfl, rfl⟩ := e4
        obtain ⟨acc', o, h1, h2⟩ := ih (i + 1) (acc ++ [⟨l[i].f0, t'⟩]) (by omega) (by simp; omega) (inW_snoc hA e2)
        refine ⟨acc', o, h1, ?_⟩
        cases hq : plainL U (l.drop (i + 1)) with
        | none => rw [hq] at h2; exact h2
        | some r =>
          rw [hq] at h2
          exact ⟨h2.1, by rw [h2.2.1]; simp, h2.2.2⟩
end Go.E
end
section
set_option linter.all false
set_option maxRecDepth 10000
namespace Go.E
open Go Go.Proofs Go.Eng
theorem idxW {l : List TRow} {f : TRow → Option Bool} {g : TRow → Bool} (h : l.length ≤ 1000) (hf : ∀ o ∈ l, f o = some (g o)) : m_slices_ContainsFunc_api_Row l f = some (l.any g) := by
  unfold m_slices_ContainsFunc_api_Row m_slices_IndexFunc_api_Row
  rw [show ((0 : Int)) = ((0 : Nat) : Int) from rfl, loopO_first (b := m_slices_IndexFunc_api_Row_L0 l f) (fun i : Nat => (i : Int)) l.length (fun i => match l[i]? with | some o => g o | none => false) (fun i => (i : Int)) () ?_ ?_]
  · cases hq : fst l.length (fun i => match l[i]? with | some o => g o | none => false) with
    | none =>
      rw [fst_none] at hq
      have : l.any g = false := by
        rw [List.any_eq_false]
        intro x hx
        obtain ⟨i, hi, rfl⟩ := List.getElem_of_mem hx
        have := hq i hi
        rw [List.getElem?_eq_getElem hi] at this
        simpa using this
      rw [this]; rfl
    | some i =>
      obtain ⟨h1, h2⟩ := fst_some hq
      rw [List.getElem?_eq_getElem h1] at h2
      have : l.any g = true := List.any_eq_true.2 ⟨_, List.getElem_mem h1, h2⟩
      rw [this]
      simp only [some_bind']
      rw [decide_eq_true (show ((0 : Nat) : Int) ≤ (i : Int) by omega)]
  · intro i hi _
    unfold m_slices_IndexFunc_api_Row_L0
    simp only [lt_cast, decide_eq_true hi, ifB_true, gi_of hi, some_bind', hf _ (List.getElem_mem hi), List.getElem?_eq_getElem hi]
    rw [wrap_succ (by omega)]
    cases g l[i] <;> rfl
  · intro _
    unfold m_slices_IndexFunc_api_Row_L0
    simp only [lt_cast, Nat.lt_irrefl, decide_false, ifB_false]
def finalB (r : TRow) : Bool := decide (r.f1.f1.f0 < 0) || (decide (r.f0 = 2) && decide (r.f1.f1.f0 = 0))
theorem finalE {r : TRow} : m_bound_engine_solve_1 r = some (finalB r) := by
  unfold m_bound_engine_solve_1 finalB
  by_cases h : r.f1.f1.f0 < 0
  · rw [decide_eq_true h]; rfl
  · rw [decide_eq_false h]
    by_cases h2 : r.f0 = 2
    · rw [decide_eq_true h2]; simp [ifB]
    · rw [decide_eq_false h2]; rfl
def rowR (r : TRow) : Bool := decide (0 ≤ r.f0) && decide (r.f0 ≤ 2) && rt r.f1
theorem rightE {r : TRow} (h : in64T r.f1) : m_bound_right r = some (rowR r) := by
  unfold m_bound_right rowR
  rw [tR h]
  cases decide (0 ≤ r.f0) <;> cases decide (r.f0 ≤ 2) <;> rfl
def zipU (a : List TTerm) (b : List Int) : List Row := List.zipWith (fun t v => ⟨t, v⟩) a b
theorem zip_map : ∀ {U : List Row}, zipU (U.map fun x => x.f0) (U.map fun x => x.f1) = U
  | [] => rfl
  | r :: U => by
    unfold zipU
    rw [List.map_cons, List.map_cons, List.zipWith_cons_cons]
    exact congrArg (List.cons r) (zip_map (U := U))
theorem used_good {r : List Row} (h : W r 8) : GoodU (usedR r) := by
  refine ⟨fun x hx => ?_, fun x hx => ?_, ?_⟩
  · exact used_in h.g _ (List.mem_map.2 ⟨x, hx, rfl⟩)
  · unfold usedR at hx
    obtain ⟨p, hp, rfl⟩ := List.mem_map.1 hx
    obtain ⟨p1, p2, p3⟩ := pair_mem hp
    unfold key at p3
    omega
  · unfold usedR
    rw [List.length_map]
    exact pairs_len
theorem eqs_in {l : List TRow} (h : inW l) : inL (eqsW l) := fun t ht => by
  unfold eqsW at ht
  obtain ⟨r, hr, rfl⟩ := List.mem_map.1 ht
  exact h r (List.mem_filter.1 hr).1
theorem eqs_len {l : List TRow} : (eqsW l).length ≤ l.length := by
  unfold eqsW; rw [List.length_map]; exact List.length_filter_le _ _
def restB (U : List Row) (l : List TRow) : List TRat × Int := match plainL U l with
  | none => ([], 2)
  | some rows => match runD 8 0 rows with
    | none => ([], 2)
    | some (st, fin) => if fin.any finalB then ([], 1) else match witB U st with
      | some x => (x, 0)
      | none => ([], 2)
def solB (l : List TRow) : List TRat × Int :=
  if (solP (eqsW l)).2.2 = 0 then restB (zipU (solP (eqsW l)).1 (solP (eqsW l)).2.1) l else ([], (solP (eqsW l)).2.2)
theorem solve_in {l : List TRow} (h : inW l) (hl : l.length ≤ 12) : ∃ o, m_bound_engine_solve ⟨false⟩ l = some ((solB l).1, (solB l).2, ⟨o⟩) := by
  unfold m_bound_engine_solve solB
  rw [eqs_loop (by omega)]
  simp only [some_bind', solveE (eqs_in h) (Nat.le_trans eqs_len hl)]
  by_cases hz : (solP (eqsW l)).2.2 = 0
  · rw [decide_eq_true hz, if_pos hz]
    rcases sol_sem (eqs_in h) with h2 | ⟨_, ⟨h2, _⟩ | ⟨r, hw, he, _⟩⟩
    · omega
    · omega
    · rw [he]
      have hg := used_good hw
      dsimp only
      rw [zip_map]
      obtain ⟨acc, o, e1, e2⟩ := plains_loop (st := 0) hg h (by omega) l.length 0 [] (by omega) (by simp) (fun _ h => by cases h)
      rw [List.drop_zero] at e2
      rw [show ((0 : Nat) : Int) = (0 : Int) from rfl] at e1
      simp only [Bool.not_true, ifB_false]
      rw [e1]
      simp only [some_bind']
      unfold restB
      cases hp : plainL (usedR r) l with
      | none =>
        rw [hp] at e2
        subst e2
        rw [runD_over]
        exact ⟨true, rfl⟩
      | some rows =>
        rw [hp] at e2
        obtain ⟨rfl, rfl, e3, e4⟩ := e2
        obtain ⟨fin, st, o, f1, f2⟩ := runD_loop 8 0 acc [] rfl e3 (by omega) rfl
        rw [show ((0 : Nat) : Int) = (0 : Int) from rfl] at f1
        rw [f1]
        simp only [some_bind']
        cases hq : runD 8 0 acc with
        | none =>
          rw [hq] at f2
          subst f2
          exact ⟨true, rfl⟩
        | some q =>
          obtain ⟨ls, rr'⟩ := q
          rw [hq] at f2
          obtain ⟨rfl, rfl, rfl, g4, g5, g6, g7⟩ := f2
          simp only [ifB_false]
          rw [idxW (g := finalB) (by omega) fun o _ => finalE]
          simp only [some_bind']
          cases hf : fin.any finalB with
          | true => exact ⟨false, rfl⟩
          | false =>
            obtain ⟨x, o, w1, w2⟩ := witE hg g6 g7
            simp only [ifB_false, w1, some_bind']
            rw [if_neg (by decide)]
            cases hwi : witB (usedR r) st with
            | none =>
              rw [hwi] at w2
              subst w2
              exact ⟨true, rfl⟩
            | some x1 =>
              rw [hwi] at w2
              obtain ⟨rfl, rfl⟩ := w2
              exact ⟨false, rfl⟩
  · rw [decide_eq_false hz, if_neg hz]
    exact ⟨false, rfl⟩
def solA (l : List TRow) : List TRat × Int := if l.all rowR then solB l else ([], 2)
theorem boundE {l : List TRow} (h : inW l) (hl : l.length ≤ 12) : m_bound_Solve l = some (solA l) := by
  unfold m_bound_Solve solA
  rw [decide_eq_false (by omega), ifB_false, idxW (g := fun r => !rowR r) (by omega) fun o ho => by unfold m_bound_Solve_1; rw [rightE (h o ho)]; rfl]
  simp only [some_bind']
  have e : (l.any fun r => !rowR r) = !l.all rowR := by
    induction l with
    | nil => rfl
    | cons a l ih => rw [List.any_cons, List.all_cons, ih (fun x hx => h x (List.mem_cons_of_mem _ hx)) (by simp at hl; omega)]; cases rowR a <;> rfl
  rw [e]
  cases hq : l.all rowR with
  | false => rfl
  | true =>
    obtain ⟨o, hs⟩ := solve_in h hl
    simp only [Bool.not_true, ifB_false, hs, some_bind']
    rfl
end Go.E
end
section
set_option linter.all false
set_option maxRecDepth 10000
namespace Go.E
open Go Go.Proofs Go.Eng
def upd (x : Nat → Rat) (v : Nat) (y : Rat) (i : Nat) : Rat := if i = v then y else x i
def big (op : Int) (e : Rat) : Prop := if op = 2 then 0 < e else 0 ≤ e
def allW (l : List TRow) (x : Nat → Rat) : Prop := ∀ r ∈ l, big r.f0 (ev r.f1 x)
structure Ine (l : List TRow) : Prop where
  ok : ∀ r ∈ l, Ok r.f1
  op : ∀ r ∈ l, r.f0 = 1 ∨ r.f0 = 2
end Go.E
end
section
set_option linter.all false
set_option maxRecDepth 10000
namespace Go.E
open Go Go.Proofs Go.Eng
structure Gone (rows : List TRow) (v : Nat) (n : List TRow) : Prop where
  ine : Ine n
  z : ∀ r ∈ n, V r.f1 v = 0
  k : ∀ u, (∀ r ∈ rows, V r.f1 u = 0) → ∀ r ∈ n, V r.f1 u = 0
  to : ∀ x, allW rows x → allW n x
  fr : ∀ x, allW n x → ∃ y, allW rows (upd x v y)
end Go.E
end
section
set_option linter.all false
set_option maxRecDepth 10000
namespace Go.E
open Go Go.Proofs Go.Eng
abbrev b1 : List TRow := [⟨2, ⟨[⟨1, 1⟩], ⟨0, 1⟩⟩⟩, ⟨1, ⟨[⟨-1, 1⟩], ⟨1, 1⟩⟩⟩]
abbrev b2 : List TRow := [⟨2, ⟨[⟨1, 1⟩], ⟨0, 1⟩⟩⟩, ⟨1, ⟨[⟨-1, 1⟩], ⟨0, 1⟩⟩⟩]
end Go.E
end
section
set_option linter.all false
set_option maxRecDepth 10000
namespace Go.E
open Go Go.Proofs Go.Eng
theorem m1_64 : in64R ⟨-1, 1⟩ := by decide
def neverP (l : List TRow) (t : TTerm) (op : Int) : Int :=
  if (mulT t ⟨-1, 1⟩).2 = 0 then (if (solA (l ++ [⟨op, (mulT t ⟨-1, 1⟩).1⟩])).2 = 1 then 0 else if (solA (l ++ [⟨op, (mulT t ⟨-1, 1⟩).1⟩])).2 = 0 then 1 else 2) else 2
theorem neverE {l : List TRow} {t : TTerm} {op : Int} (hl : inW l) (hn : l.length ≤ 11) (ht : in64T t) : m_bound_never l t op = some (neverP l t op) := by
  unfold m_bound_never neverP
  rw [scaleP ht m1_64]
  simp only [some_bind']
  by_cases hz : (mulT t ⟨-1, 1⟩).2 = 0
  · rw [decide_eq_true hz, if_pos hz]
    simp only [Bool.not_true, ifB_false]
    unfold m_slices_Clone_api_Row
    rw [rq_true (decide_eq_true (by omega))]
    simp only [some_bind']
    rw [rq_true (decide_eq_true (by simp; omega)), boundE (inW_snoc hl mulT_good.1) (by simp; omega)]
    simp only [some_bind']
    by_cases h1 : (solA (l ++ [⟨op, (mulT t ⟨-1, 1⟩).1⟩])).2 = 1
    · rw [decide_eq_true h1, if_pos h1]; rfl
    · rw [decide_eq_false h1, if_neg h1]
      by_cases h0 : (solA (l ++ [⟨op, (mulT t ⟨-1, 1⟩).1⟩])).2 = 0
      · rw [decide_eq_true h0, if_pos h0]; rfl
      · rw [decide_eq_false h0, if_neg h0]; rfl
  · rw [decide_eq_false hz, if_neg hz]; rfl
def entP (l : List TRow) (r : TRow) : Int :=
  if r.f0 = 1 then neverP l r.f1 2 else if r.f0 = 2 then neverP l r.f1 1 else if r.f0 = 0 then (if neverP l r.f1 2 = 0 then (if (mulT r.f1 ⟨-1, 1⟩).2 = 0 then neverP l (mulT r.f1 ⟨-1, 1⟩).1 2 else 2) else neverP l r.f1 2) else 2
theorem entE {l : List TRow} {r : TRow} (hl : inW l) (hn : l.length ≤ 11) (hr : in64T r.f1) : m_bound_Entails l r = some (entP l r) := by
  unfold m_bound_Entails entP
  rw [neverE hl hn hr, neverE hl hn hr, scaleP hr m1_64]
  simp only [some_bind']
  rw [neverE hl hn mulT_good.1]
  simp only [some_bind']
  by_cases h1 : r.f0 = 1
  · rw [decide_eq_true h1, if_pos h1]; rfl
  · rw [decide_eq_false h1, if_neg h1]
    by_cases h2 : r.f0 = 2
    · rw [decide_eq_true h2, if_pos h2]; rfl
    · rw [decide_eq_false h2, if_neg h2]
      by_cases h0 : r.f0 = 0
      · rw [decide_eq_true h0, if_pos h0]
        by_cases hn : neverP l r.f1 2 = 0
        · rw [decide_eq_true hn, if_pos hn]
          by_cases hm : (mulT r.f1 ⟨-1, 1⟩).2 = 0
          · rw [decide_eq_true hm, if_pos hm]; rfl
          · rw [decide_eq_false hm, if_neg hm]; rfl
        · rw [decide_eq_false hn, if_neg hn]; rfl
      · rw [decide_eq_false h0, if_neg h0]; rfl
end Go.E
end
section
set_option linter.all false
set_option maxRecDepth 10000
namespace Go.E
open Go Go.Proofs Go.Eng
theorem tb {α β : Type} {x : Option α} {f : α → Option β} (h : ∃ a, x = some a) (k : ∀ a, x = some a → ∃ r, f a = some r) : ∃ r, Option.bind x f = some r := by
  obtain ⟨a, ha⟩ := h
  obtain ⟨r, hr⟩ := k a ha
  exact ⟨r, by rw [ha]; exact hr⟩
theorem ti {α : Type} {c : Bool} {x y : Option α} (h : c = true → ∃ r, x = some r) (k : c = false → ∃ r, y = some r) : ∃ r, ifB c x y = some r := by
  cases c
  · exact k rfl
  · exact h rfl
theorem leftT (a b : Int) : ∃ r, m_perm_left a b = some r := by
  unfold m_perm_left
  repeat' (first | exact ⟨_, rfl⟩ | refine tb ?_ fun _ _ => ?_ | refine ti (fun _ => ?_) fun _ => ?_)
def Move (a b k : Int) : Prop := (b = 1 ∧ (a = 0 ∨ a = 1) ∧ k = 4) ∨ (b = 4 ∧ (a = 0 ∨ a = 1) ∧ k = 1) ∨ ((b = 2 ∨ b = 3) ∧ a = 0 ∧ k = b) ∨ (b = a ∧ 1 < a ∧ a ≤ 4 ∧ k = a) ∨ (b = 4 ∧ a = 2 ∧ k = 2)
theorem left_move {a b : Int} {r : Int × Bool} (h : m_perm_left a b = some r) (ht : r.2 = true) : Move a b r.1 := by
  unfold m_perm_left at h
  obtain ⟨v1, h1, h⟩ := bs h
  have p1 : v1 = decide (a < 0 ∨ 4 < a) := by
    rcases ib h1 with ⟨q, e⟩ | ⟨q, e⟩
    · cases e; rw [decide_eq_true]; exact .inl (of_decide_eq_true q)
    · cases e; have := of_decide_eq_false q; simp [this]
  rcases ib h with ⟨q1, h⟩ | ⟨q1, h⟩
  · cases h; cases ht
  rw [p1] at q1
  have r1 := of_decide_eq_false q1
  have an : ∀ {x y : Int} {p : Prop} {_ : Decidable p} {v : Bool}, ifB (decide (x = y)) (some (decide p)) (some false) = some v → (v = true → x = y ∧ p) := fun e ev => by
    rcases ib e with ⟨q, e⟩ | ⟨q, e⟩
    · cases e; exact ⟨of_decide_eq_true q, of_decide_eq_true ev⟩
    · cases e; cases ev
  obtain ⟨v6, h6, h⟩ := bs h
  rcases ib h with ⟨q6, h⟩ | ⟨q6, h⟩
  · cases h
    have := an h6 q6
    exact .inl ⟨this.1, by omega, rfl⟩
  obtain ⟨v11, h11, h⟩ := bs h
  rcases ib h with ⟨q11, h⟩ | ⟨q11, h⟩
  · cases h
    have := an h11 q11
    exact .inr (.inl ⟨this.1, by omega, rfl⟩)
  obtain ⟨v16, h16, h⟩ := bs h
  obtain ⟨v20, h20, h⟩ := bs h
  rcases ib h with ⟨q20, h⟩ | ⟨q20, h⟩
  · cases h
    refine .inr (.inr (.inl ?_))
    rcases ib h20 with ⟨q, e⟩ | ⟨q, e⟩
    · have := an h16 q
      exact ⟨.inl this.1, this.2, rfl⟩
    · obtain ⟨v23, h23, e⟩ := bs e
      cases e
      have := an h23 q20
      exact ⟨.inr this.1, this.2, rfl⟩
  obtain ⟨v29, h29, h⟩ := bs h
  obtain ⟨v33, h33, h⟩ := bs h
  rcases ib h with ⟨q33, h⟩ | ⟨q33, h⟩
  · cases h
    rcases ib h33 with ⟨q, e⟩ | ⟨q, e⟩
    · have := an h29 q
      exact .inr (.inr (.inr (.inl ⟨this.1, this.2, by omega, rfl⟩)))
    · have := an e q33
      exact .inr (.inr (.inr (.inr ⟨this.1, this.2, this.2⟩)))
  · cases h; cases ht
theorem half_in : in64R ⟨1, 2⟩ := half64
theorem partsT {a b : TRat} (ha : in64R a) (hb : in64R b) : ∃ r, m_perm_parts a b = some r ∧ in64R r.1 ∧ in64R r.2.1 := by
  unfold m_perm_parts m_perm_one
  simp only [some_bind']
  rw [subE one64 hb]
  simp only [some_bind']
  rw [mR ha (sub_good _ _).1, mR ha hb]
  simp only [some_bind']
  cases hq : decide ((subR ⟨1, 1⟩ b).2 = 0) with
  | false => exact ⟨_, rfl, (sub_good _ _).1, hb⟩
  | true =>
    simp only [Bool.not_true, ifB_false]
    cases hq2 : decide ((mulR a (subR ⟨1, 1⟩ b).1).2 = 0) with
    | false => exact ⟨_, rfl, (mul_good _ _).1, hb⟩
    | true => exact ⟨_, rfl, (mul_good _ _).1, (mul_good _ _).1⟩
theorem splitT {p : TPerm} {k : Int} {r : TRat} {s : Int} (hp : in64R p.f1) (hr : in64R r) : ∃ x, m_perm_Split p k r s = some x := by
  unfold m_perm_Split
  refine tb (leftT _ _) fun r1 _ => ?_
  refine tb (ti (fun _ => ⟨_, rfl⟩) fun _ => ⟨_, rfl⟩) fun v2 _ => ?_
  refine tb ?_ fun v6 _ => ?_
  · refine ti (fun _ => ⟨_, rfl⟩) fun _ => ?_
    refine tb ⟨_, rR hp⟩ fun _ _ => ?_
    refine ti (fun _ => ⟨_, rfl⟩) fun _ => ?_
    refine tb ⟨_, rR hr⟩ fun _ _ => ?_
    repeat' (first | exact ⟨_, rfl⟩ | refine ti (fun _ => ?_) fun _ => ?_)
  refine ti (fun _ => ⟨_, rfl⟩) fun _ => ?_
  obtain ⟨x, hx, _⟩ := partsT hp hr
  refine tb ⟨x, hx⟩ fun r17 _ => ?_
  refine ti (fun _ => ⟨_, rfl⟩) fun _ => ?_
  exact tb (ti (fun _ => ⟨_, rfl⟩) fun _ => ⟨_, rfl⟩) fun _ _ => ⟨_, rfl⟩
structure SplitOk (p : TPerm) (k : Int) (x : TPerm × TPerm × Int) : Prop where
  i0 : in64R x.1.f1
  i1 : in64R x.2.1.f1
  mv : x.2.2 = 0 → Move p.f0 k x.1.f0
theorem split_ok {p : TPerm} {k : Int} {r : TRat} {s : Int} {x : TPerm × TPerm × Int} (hp : in64R p.f1) (hr : in64R r) (h : m_perm_Split p k r s = some x) : SplitOk p k x := by
  unfold m_perm_Split at h
  obtain ⟨r1, h1, h⟩ := bs h
  obtain ⟨v2, _, h⟩ := bs h
  obtain ⟨v6, h6, h⟩ := bs h
  rcases ib h with ⟨q6, h⟩ | ⟨q6, h⟩
  · cases h; exact ⟨z64, z64, fun e => by cases e⟩
  have ht : r1.2 = true := by
    rcases ib h6 with ⟨q, e⟩ | ⟨q, e⟩
    · cases e; cases q6
    · simpa using q
  obtain ⟨y, hy, y1, y2⟩ := partsT hp hr
  obtain ⟨r17, h17, h⟩ := bs h
  rw [hy] at h17
  cases h17
  rcases ib h with ⟨q, h⟩ | ⟨q, h⟩
  · cases h
    refine ⟨z64, z64, fun e => ?_⟩
    have e : y.2.2 = 0 := e
    rw [decide_eq_true e] at q; cases q
  obtain ⟨v19, _, h⟩ := bs h
  cases h
  exact ⟨y1, y2, fun _ => left_move h1 ht⟩
theorem fitsT (p : TPerm) (c : TContract) : ∃ r, m_perm_fits p c = some r := by
  unfold m_perm_fits m_perm_below
  repeat' (first | exact ⟨_, rfl⟩ | refine tb ?_ fun _ _ => ?_ | refine ti (fun _ => ?_) fun _ => ?_)
theorem lendT {p : TPerm} {c : TContract} (hp : in64R p.f1) : ∃ r, m_perm_Lend p c = some r := by
  unfold m_perm_Lend m_perm_half
  refine tb ?_ fun v1 _ => ?_
  · repeat' (first | exact ⟨_, rfl⟩ | refine ti (fun _ => ?_) fun _ => ?_)
  refine ti (fun _ => ⟨_, rfl⟩) fun _ => ?_
  refine tb ?_ fun v7 _ => ?_
  · repeat' (first | exact ⟨_, rfl⟩ | refine ti (fun _ => ?_) fun _ => ?_)
  refine tb ?_ fun v11 _ => ?_
  · repeat' (first | exact ⟨_, rfl⟩ | refine ti (fun _ => ?_) fun _ => ?_)
  refine tb ⟨_, rfl⟩ fun r15 e15 => ?_
  cases e15
  refine tb (splitT hp half_in) fun r16 _ => ?_
  refine tb ?_ fun v17 _ => ?_
  · refine ti (fun _ => ?_) fun _ => ?_
    · refine ti (fun _ => ⟨_, rfl⟩) fun _ => ?_
      refine tb (fitsT _ _) fun _ _ => ?_
      repeat' (first | exact ⟨_, rfl⟩ | refine ti (fun _ => ?_) fun _ => ?_)
    · repeat' (first | exact ⟨_, rfl⟩ | refine ti (fun _ => ?_) fun _ => ?_)
  refine tb ?_ fun v26 _ => ?_
  · repeat' (first | exact ⟨_, rfl⟩ | refine ti (fun _ => ?_) fun _ => ?_)
  repeat' (first | exact ⟨_, rfl⟩ | refine ti (fun _ => ?_) fun _ => ?_)
structure LendOk (p : TPerm) (c : TContract) (x : TPerm × Bool × TPerm × Int) : Prop where
  i0 : in64R x.1.f1
  i1 : in64R x.2.2.1.f1
  mv : x.2.2.2 = 0 → c.f1 = true ∧ ((p.f0 = 0 ∧ c.f3 = 0 ∧ x.2.1 = false) ∨ (c.f3 ≠ 0 ∧ x.2.1 = true ∧ Move p.f0 c.f3 x.1.f0))
theorem lend_ok {p : TPerm} {c : TContract} {x : TPerm × Bool × TPerm × Int} (hp : in64R p.f1) (h : m_perm_Lend p c = some x) : LendOk p c x := by
  unfold m_perm_Lend m_perm_half at h
  obtain ⟨v1, h1, h⟩ := bs h
  rcases ib h with ⟨q1, h⟩ | ⟨q1, h⟩
  · cases h
    refine ⟨z64, hp, fun _ => ?_⟩
    rcases ib h1 with ⟨a, h1⟩ | ⟨a, h1⟩
    · rcases ib h1 with ⟨b, h1⟩ | ⟨b, h1⟩
      · cases h1
        exact ⟨a, .inl ⟨of_decide_eq_true q1, of_decide_eq_true b, rfl⟩⟩
      · cases h1; cases q1
    · cases h1; cases q1
  obtain ⟨v7, _, h⟩ := bs h
  obtain ⟨v11, _, h⟩ := bs h
  obtain ⟨r15, h15, h⟩ := bs h
  cases h15
  obtain ⟨r16, h16, h⟩ := bs h
  have so := split_ok hp half_in h16
  obtain ⟨v17, h17, h⟩ := bs h
  obtain ⟨v26, h26, h⟩ := bs h
  rcases ib h with ⟨q, h⟩ | ⟨q, h⟩
  · cases h
    refine ⟨z64, z64, fun e => ?_⟩
    have e : v26 = 0 := e
    rw [decide_eq_true e] at q; cases q
  have z26 : v26 = 0 := by simpa using q
  have hh : v17 = false ∧ r16.2.2 = 0 := by
    rcases ib h26 with ⟨a, e⟩ | ⟨a, e⟩
    · cases e; omega
    · cases e; exact ⟨a, z26⟩
  have hc : c.f1 = true ∧ c.f3 ≠ 0 := by
    rw [decide_eq_true hh.2] at h17
    rw [hh.1] at h17
    rcases ib h17 with ⟨a, e⟩ | ⟨a, _⟩
    · rcases ib e with ⟨a, e⟩ | ⟨a, e⟩
      · cases e
      · obtain ⟨r21, _, e⟩ := bs e
        rcases ib e with ⟨b, e⟩ | ⟨b, e⟩
        · cases e
        · rcases ib e with ⟨b, e⟩ | ⟨b, e⟩
          · cases e
          · exact ⟨by simpa using a, by simpa using b⟩
    · cases a
  rcases ib h with ⟨a, h⟩ | ⟨a, h⟩
  · cases h
    exact ⟨so.i0, so.i1, fun _ => ⟨hc.1, .inr ⟨hc.2, rfl, so.mv hh.2⟩⟩⟩
  · cases h
    exact ⟨so.i0, so.i1, fun _ => ⟨hc.1, .inr ⟨hc.2, rfl, so.mv hh.2⟩⟩⟩
end Go.E
end
section
set_option linter.all false
set_option maxRecDepth 10000
namespace Go.E
open Go Go.Proofs Go.Eng
theorem in1 {a b : TRat} (ha : in64R a) (hb : in64R b) : in64T ⟨[a], b⟩ := ⟨hb, fun r hr => by rw [List.mem_singleton] at hr; subst hr; exact ha, by simp⟩
theorem en1 {a b : TRat} : m_perm_Enough_1 a b = some ⟨[a], b⟩ := rfl
theorem en2 {a : TRat} : m_perm_Enough_2 a = some (neg a) := rfl
def enoughP (p : TPerm) (l r : TRat) : Int := entP (if p.f2 = -1 then [⟨0, ⟨[⟨1, 1⟩], neg ⟨1, 1⟩⟩⟩] else [⟨2, ⟨[⟨1, 1⟩], ⟨0, 1⟩⟩⟩, ⟨1, ⟨[neg ⟨1, 1⟩], ⟨1, 1⟩⟩⟩, ⟨1, ⟨[⟨1, 1⟩], neg r⟩⟩]) ⟨1, ⟨[p.f1], neg l⟩⟩
theorem enoughE {p : TPerm} {l r : TRat} (hp : in64R p.f1) (hl : in64R l) (hr : in64R r) : m_perm_Enough p l r = some (enoughP p l r) := by
  unfold m_perm_Enough m_perm_one enoughP
  simp only [some_bind', en1, en2]
  by_cases h : p.f2 = -1
  · rw [decide_eq_true h, if_pos h]
    simp only [Bool.not_true, ifB_false, some_bind']
    rw [entE (fun x hx => by rw [List.mem_singleton] at hx; subst hx; exact in1 one64 (neg_in one64)) (by simp) (in1 hp (neg_in hl))]
    rfl
  · rw [decide_eq_false h, if_neg h]
    simp only [Bool.not_false, ifB_true, some_bind']
    rw [entE (fun x hx => by
      simp only [List.mem_cons, List.not_mem_nil, or_false] at hx
      rcases hx with rfl | rfl | rfl
      · exact in1 one64 n64
      · exact in1 (neg_in one64) one64
      · exact in1 one64 (neg_in hr)) (by simp) (in1 hp (neg_in hl))]
    rfl
structure Valid (s : TLend_caller) : Prop where
  p : ∀ l ∈ s.f1, in64R l.f0.f1
  n : s.f1.length ≤ s.f0.length
  k : s.f3.length = s.f2.length
  r : ∀ x ∈ s.f4, in64R x
theorem nat_of {a : Int} (h : 0 ≤ a) : ∃ i : Nat, a = (i : Int) := ⟨a.toNat, by omega⟩
theorem leastT {s : TLend_caller} (hv : Valid s) (a : Int) : ∃ r, m_lend_caller_least s a = some r ∧ r.2 = s ∧ in64R r.1 := by
  unfold m_lend_caller_least
  by_cases h : a < 0
  · rw [decide_eq_true h]; exact ⟨_, rfl, rfl, n64⟩
  · rw [decide_eq_false h]
    obtain ⟨i, rfl⟩ := nat_of (show 0 ≤ a by omega)
    by_cases h2 : (s.f4.length : Int) ≤ (i : Int)
    · rw [decide_eq_true h2]; exact ⟨_, rfl, rfl, n64⟩
    · rw [decide_eq_false h2, gi_of (by omega)]
      exact ⟨_, rfl, rfl, hv.r _ (List.getElem_mem _)⟩
def after (s : TLend_caller) (i : Nat) (c : TContract) : List Int :=
  if c.f3 = 0 ∨ c.f3 = 1 then s.f3.set i c.f6 else if c.f3 = 2 ∧ (match s.f0[i]? with | some p => p.f0 | none => 1) = 0 then s.f3.set i c.f7 else s.f3
theorem after_len {s : TLend_caller} {i : Nat} {c : TContract} : (after s i c).length = s.f3.length := by
  unfold after
  by_cases h : c.f3 = 0 ∨ c.f3 = 1
  · rw [if_pos h, List.length_set]
  · rw [if_neg h]
    generalize (match s.f0[i]? with | some p => p.f0 | none => 1) = q
    by_cases h2 : c.f3 = 2 ∧ q = 0
    · rw [if_pos h2, List.length_set]
    · rw [if_neg h2]
theorem after_ne {s : TLend_caller} {i j : Nat} {c : TContract} (h : j ≠ i) : (after s i c)[j]? = s.f3[j]? := by
  unfold after
  by_cases h1 : c.f3 = 0 ∨ c.f3 = 1
  · rw [if_pos h1, List.getElem?_set_ne (Ne.symm h)]
  · rw [if_neg h1]
    generalize (match s.f0[i]? with | some p => p.f0 | none => 1) = q
    by_cases h2 : c.f3 = 2 ∧ q = 0
    · rw [if_pos h2, List.getElem?_set_ne (Ne.symm h)]
    · rw [if_neg h2]
theorem stateT {s : TLend_caller} (hn : s.f1.length ≤ s.f0.length) (hk : s.f3.length = s.f2.length) {i : Nat} (h1 : i < s.f1.length) (h2 : i < s.f2.length) (c : TContract) :
    ∃ e, m_lend_caller_state s (i : Int) c = some (e, ⟨s.f0, s.f1, s.f2, after s i c, s.f4⟩) ∧ (e = 0 ∨ e = 10) := by
  unfold m_lend_caller_state
  rw [gi_of (show i < s.f0.length by omega), gi_of h2, gi_of (show i < s.f3.length by omega), rq_true (decide_eq_true (show (0 : Int) ≤ (i : Int) by omega)), rq_true (decide_eq_true (show (i : Int) < (s.f3.length : Int) by omega))]
  simp only [some_bind', Int.toNat_natCast]
  have e6 : (ifB (decide (c.f3 = 0)) (some true) (some (decide (c.f3 = 1)))) = some (decide (c.f3 = 0 ∨ c.f3 = 1)) := by
    by_cases h : c.f3 = 0
    · rw [decide_eq_true h, decide_eq_true (Or.inl h)]; rfl
    · rw [decide_eq_false h]; simp [h]
  have e2 : (ifB (decide (c.f3 = 2)) (some true) (some (decide (c.f3 = 4)))) = some (decide (c.f3 = 2 ∨ c.f3 = 4)) := by
    by_cases h : c.f3 = 2
    · rw [decide_eq_true h, decide_eq_true (Or.inl h)]; rfl
    · rw [decide_eq_false h]; simp [h]
  rw [e6, e2]
  simp only [some_bind']
  have e10 : (ifB (decide (c.f3 = 0 ∨ c.f3 = 1)) (some (s.f3.set i c.f6)) (Option.bind (ifB (decide (c.f3 = 2)) (some (decide (s.f0[i].f0 = 0))) (some false)) fun v17 => Option.bind (ifB v17 (some (s.f3.set i c.f7)) (some s.f3)) fun v21 => some v21)) = some (after s i c) := by
    unfold after
    rw [List.getElem?_eq_getElem (show i < s.f0.length by omega)]
    by_cases h : c.f3 = 0 ∨ c.f3 = 1
    · rw [decide_eq_true h, if_pos h]; rfl
    · rw [decide_eq_false h, if_neg h]
      by_cases h2 : c.f3 = 2
      · rw [decide_eq_true h2]
        by_cases h3 : s.f0[i].f0 = 0
        · rw [decide_eq_true h3, if_pos ⟨h2, h3⟩]; rfl
        · rw [decide_eq_false h3, if_neg fun h => h3 h.2]; rfl
      · rw [decide_eq_false h2, if_neg fun h => h2 h.1]; rfl
  rw [e10]
  simp only [some_bind']
  cases decide (c.f3 = 2 ∨ c.f3 = 4)
  · cases decide (andNotI .u32 s.f2[i] c.f5 = 0)
    · exact ⟨10, rfl, .inr rfl⟩
    · exact ⟨0, rfl, .inl rfl⟩
  · cases decide (s.f0[i].f0 = 0)
    · exact ⟨0, rfl, .inl rfl⟩
    · cases decide (andNotI .u32 s.f2[i] c.f7 = 0)
      · exact ⟨10, rfl, .inr rfl⟩
      · exact ⟨0, rfl, .inl rfl⟩
inductive Lent (s : TLend_caller) (a : Int) (c : TContract) : Int × TLend_caller → Prop where
  | no (e : Int) (h : e = 13 ∨ e = 16) : Lent s a c (e, s)
  | yes (i : Nat) (e : Int) (x : TPerm × Bool × TPerm × Int) (ha : a = (i : Int)) (h1 : i < s.f1.length) (h2 : i < s.f2.length) (hf : s.f1[i].f1 = true) (hx : LendOk s.f1[i].f0 c x) (h0 : x.2.2.2 = 0) (he : e = 0 ∨ e = 10) : Lent s a c (e, ⟨s.f0, s.f1.set i ⟨x.1, x.2.1⟩, s.f2, after s i c, s.f4⟩)
theorem lentT {s : TLend_caller} (hv : Valid s) (a : Int) {c : TContract} (hc : in64R c.f4) : ∃ r, m_lend_caller_lent s a c = some r ∧ Lent s a c r := by
  unfold m_lend_caller_lent
  by_cases h : a < 0
  · rw [decide_eq_true h]; exact ⟨_, rfl, .no 13 (.inl rfl)⟩
  rw [decide_eq_false h]
  obtain ⟨i, rfl⟩ := nat_of (show 0 ≤ a by omega)
  by_cases h1 : (s.f1.length : Int) ≤ (i : Int)
  · rw [decide_eq_true h1]; exact ⟨_, rfl, .no 13 (.inl rfl)⟩
  rw [decide_eq_false h1]
  by_cases h2 : (s.f2.length : Int) ≤ (i : Int)
  · rw [decide_eq_true h2]; exact ⟨_, rfl, .no 13 (.inl rfl)⟩
  have i1 : i < s.f1.length := by omega
  have i2 : i < s.f2.length := by omega
  rw [decide_eq_false h2, rq_true (decide_eq_true (show (0 : Int) ≤ (i : Int) by omega)), rq_true (decide_eq_true (show (i : Int) < (s.f1.length : Int) by omega)), gi_of i1]
  simp only [some_bind', ifB_false]
  cases hf : s.f1[i].f1 with
  | false => exact ⟨_, rfl, .no 13 (.inl rfl)⟩
  | true =>
    have hp : in64R s.f1[i].f0.f1 := hv.p _ (List.getElem_mem i1)
    obtain ⟨x, hx⟩ := lendT (c := c) hp
    have lo := lend_ok hp hx
    simp only [Bool.not_true, ifB_false, hx, some_bind']
    by_cases c3 : x.2.2.2 = 3
    · rw [decide_eq_true c3]; exact ⟨_, rfl, .no 16 (.inr rfl)⟩
    rw [decide_eq_false c3]
    by_cases c0 : x.2.2.2 = 0
    · rw [decide_eq_true c0]
      obtain ⟨y, y1, y2, y3⟩ := leastT hv x.2.2.1.f2
      simp only [Bool.not_true, ifB_false, y1, some_bind', enoughE lo.i1 hc y3, y2]
      by_cases e1 : enoughP x.2.2.1 c.f4 y.1 = 1
      · rw [decide_eq_true e1]; exact ⟨_, rfl, .no 13 (.inl rfl)⟩
      rw [decide_eq_false e1]
      by_cases e2 : enoughP x.2.2.1 c.f4 y.1 = 2
      · rw [decide_eq_true e2]; exact ⟨_, rfl, .no 16 (.inr rfl)⟩
      rw [decide_eq_false e2]
      simp only [ifB_false, gi_of i1, some_bind', Int.toNat_natCast]
      obtain ⟨e, s1, s2⟩ := stateT (s := ⟨s.f0, s.f1.set i ⟨x.1, x.2.1⟩, s.f2, s.f3, s.f4⟩) (by simpa using hv.n) hv.k (i := i) (by simpa using i1) i2 c
      rw [s1]
      exact ⟨_, rfl, .yes i e x rfl i1 i2 hf lo c0 s2⟩
    · rw [decide_eq_false c0]; exact ⟨_, rfl, .no 13 (.inl rfl)⟩
theorem lent_valid {s : TLend_caller} {a : Int} {c : TContract} {r : Int × TLend_caller} (hv : Valid s) (h : Lent s a c r) : Valid r.2 ∧ r.2.f2 = s.f2 ∧ r.2.f1.length = s.f1.length := by
  cases h with
  | no e h => exact ⟨hv, rfl, rfl⟩
  | yes i e x ha h1 h2 hf hx h0 he =>
    refine ⟨⟨fun l hl => ?_, by simpa using hv.n, ?_, hv.r⟩, rfl, by simp⟩
    · rcases List.mem_or_eq_of_mem_set hl with hl | rfl
      · exact hv.p l hl
      · exact hx.i0
    · exact after_len.trans hv.k
end Go.E
end
section
set_option linter.all false
set_option maxRecDepth 10000
namespace Go.E
open Go Go.Proofs Go.Eng
noncomputable def stepC (s : TLend_caller) (a : Int) (c : TContract) : Int × TLend_caller := (m_lend_caller_lent s a c).getD (0, s)
theorem stepE {s : TLend_caller} (hv : Valid s) (a : Int) {c : TContract} (hc : in64R c.f4) : m_lend_caller_lent s a c = some (stepC s a c) ∧ Lent s a c (stepC s a c) := by
  obtain ⟨r, h1, h2⟩ := lentT hv a hc
  unfold stepC
  rw [h1]
  exact ⟨rfl, h2⟩
noncomputable def sAt (cs : List TContract) (ar : List Int) (s : TLend_caller) : Nat → TLend_caller
  | 0 => s
  | i + 1 => match cs[i]?, ar[i]? with
    | some c, some a => if c.f1 then (stepC (sAt cs ar s i) a c).2 else sAt cs ar s i
    | _, _ => sAt cs ar s i
noncomputable def dAt (cs : List TContract) (ar : List Int) (s : TLend_caller) : Nat → List TDiag
  | 0 => []
  | i + 1 => match cs[i]?, ar[i]? with
    | some c, some a => if c.f1 && !decide ((stepC (sAt cs ar s i) a c).1 = 0) then dAt cs ar s i ++ [⟨(stepC (sAt cs ar s i) a c).1, (i : Int), c.f0⟩] else dAt cs ar s i
    | _, _ => dAt cs ar s i
theorem sAt_valid {cs : List TContract} {ar : List Int} {s : TLend_caller} (hv : Valid s) (hc : ∀ c ∈ cs, in64R c.f4) : ∀ i, Valid (sAt cs ar s i) ∧ (sAt cs ar s i).f2 = s.f2 ∧ (sAt cs ar s i).f1.length = s.f1.length
  | 0 => ⟨hv, rfl, rfl⟩
  | i + 1 => by
    obtain ⟨i1, i2, i3⟩ := sAt_valid hv hc i (ar := ar)
    unfold sAt
    cases h : cs[i]? with
    | none => exact ⟨i1, i2, i3⟩
    | some c =>
      cases h2 : ar[i]? with
      | none => exact ⟨i1, i2, i3⟩
      | some a =>
        dsimp only
        cases c.f1 with
        | false => exact ⟨i1, i2, i3⟩
        | true =>
          have hm : c ∈ cs := List.mem_of_getElem? h
          obtain ⟨j1, j2, j3⟩ := lent_valid i1 (stepE i1 a (hc c hm)).2
          exact ⟨j1, j2.trans i2, j3.trans i3⟩
theorem dAt_len {cs : List TContract} {ar : List Int} {s : TLend_caller} : ∀ i, (dAt cs ar s i).length ≤ i
  | 0 => Nat.le_refl _
  | i + 1 => by
    have := dAt_len (cs := cs) (ar := ar) (s := s) i
    unfold dAt
    cases h : cs[i]? with
    | none => exact Nat.le_succ_of_le this
    | some c =>
      cases h2 : ar[i]? with
      | none => exact Nat.le_succ_of_le this
      | some a =>
        dsimp only
        split
        · rw [List.length_append]; exact Nat.succ_le_succ this
        · exact Nat.le_succ_of_le this
def startC (ps : List TPerm) (known : List Int) (roots : List TRat) : TLend_caller := ⟨ps, ps.map fun p => ⟨p, true⟩, known, known, roots⟩
theorem start_valid {ps : List TPerm} {known : List Int} {roots : List TRat} (hp : ∀ p ∈ ps, in64R p.f1) (hr : ∀ r ∈ roots, in64R r) : Valid (startC ps known roots) :=
  ⟨fun l hl => by obtain ⟨p, h, rfl⟩ := List.mem_map.1 hl; exact hp p h, by show (ps.map _).length ≤ ps.length; rw [List.length_map]; exact Nat.le_refl _, rfl, hr⟩
theorem start_left {ps : List TPerm} (h : ps.length ≤ 1000) : loopO (m_lend_Call_L0 ps) (0, []) = some (ps.map fun p => ⟨p, true⟩) := by
  have main := loopO_count (b := m_lend_Call_L0 ps) ps.length (fun i s => s.1 = (i : Int) ∧ s.2 = (ps.take i).map fun p => (⟨p, true⟩ : TLend_left)) (fun z => z = ps.map fun p => ⟨p, true⟩) ?_ ?_ (s := (0, [])) ⟨rfl, rfl⟩
  · obtain ⟨z, hz, rfl⟩ := main; exact hz
  · rintro i ⟨_, acc⟩ hi ⟨rfl, rfl⟩
    left
    unfold m_lend_Call_L0
    dsimp only
    rw [decide_eq_true (show (i : Int) < (ps.length : Int) by omega), ifB_true, gi_of hi, wrap_succ (by omega)]
    simp only [some_bind']
    rw [rq_true (decide_eq_true (by simp; omega))]
    exact ⟨_, rfl, rfl, by rw [take_snoc hi, List.map_append]; rfl⟩
  · rintro ⟨_, acc⟩ ⟨rfl, rfl⟩
    unfold m_lend_Call_L0
    dsimp only
    rw [decide_eq_false (by omega), List.take_length]
    exact ⟨_, rfl, rfl⟩
theorem call_loop {cs : List TContract} {ar : List Int} {s : TLend_caller} (hv : Valid s) (hc : ∀ c ∈ cs, in64R c.f4) (hl : cs.length ≤ ar.length) (hb : cs.length ≤ 1000) :
    loopO (m_lend_Call_L1 cs ar) ([], 0, s.f3, s.f0, s.f2, s.f4, s.f1) = some (dAt cs ar s cs.length, (sAt cs ar s cs.length).f3, (sAt cs ar s cs.length).f0, (sAt cs ar s cs.length).f2, (sAt cs ar s cs.length).f4, (sAt cs ar s cs.length).f1) := by
  have main := loopO_count (b := m_lend_Call_L1 cs ar) cs.length (fun i t => t = (dAt cs ar s i, (i : Int), (sAt cs ar s i).f3, (sAt cs ar s i).f0, (sAt cs ar s i).f2, (sAt cs ar s i).f4, (sAt cs ar s i).f1)) (fun z => z = (dAt cs ar s cs.length, (sAt cs ar s cs.length).f3, (sAt cs ar s cs.length).f0, (sAt cs ar s cs.length).f2, (sAt cs ar s cs.length).f4, (sAt cs ar s cs.length).f1)) ?_ ?_ (s := ([], 0, s.f3, s.f0, s.f2, s.f4, s.f1)) rfl
  · obtain ⟨z, hz, rfl⟩ := main; exact hz
  · rintro i t hi rfl
    left
    have hv' := (sAt_valid hv hc (ar := ar) i).1
    have dl := dAt_len (cs := cs) (ar := ar) (s := s) i
    have hai : i < ar.length := by omega
    unfold m_lend_Call_L1
    dsimp only
    rw [decide_eq_true (show (i : Int) < (cs.length : Int) by omega), ifB_true, gi_of hi, wrap_succ (by omega)]
    simp only [some_bind', gi_of hai]
    have e1 : sAt cs ar s (i + 1) = if cs[i].f1 then (stepC (sAt cs ar s i) ar[i] cs[i]).2 else sAt cs ar s i := by
      rw [show sAt cs ar s (i + 1) = (match cs[i]?, ar[i]? with | some c, some a => if c.f1 then (stepC (sAt cs ar s i) a c).2 else sAt cs ar s i | _, _ => sAt cs ar s i) from rfl, List.getElem?_eq_getElem hi, List.getElem?_eq_getElem hai]
    have e2 : dAt cs ar s (i + 1) = if cs[i].f1 && !decide ((stepC (sAt cs ar s i) ar[i] cs[i]).1 = 0) then dAt cs ar s i ++ [⟨(stepC (sAt cs ar s i) ar[i] cs[i]).1, (i : Int), cs[i].f0⟩] else dAt cs ar s i := by
      rw [show dAt cs ar s (i + 1) = (match cs[i]?, ar[i]? with | some c, some a => if c.f1 && !decide ((stepC (sAt cs ar s i) a c).1 = 0) then dAt cs ar s i ++ [⟨(stepC (sAt cs ar s i) a c).1, (i : Int), c.f0⟩] else dAt cs ar s i | _, _ => dAt cs ar s i) from rfl, List.getElem?_eq_getElem hi, List.getElem?_eq_getElem hai]
    rw [e1, e2]
    cases hf : cs[i].f1 with
    | false => exact ⟨_, rfl, rfl⟩
    | true =>
      have st := (stepE hv' ar[i] (hc _ (List.getElem_mem hi))).1
      have st : m_lend_caller_lent ⟨(sAt cs ar s i).f0, (sAt cs ar s i).f1, (sAt cs ar s i).f2, (sAt cs ar s i).f3, (sAt cs ar s i).f4⟩ ar[i] cs[i] = some (stepC (sAt cs ar s i) ar[i] cs[i]) := st
      simp only [Bool.not_true, ifB_false, st, some_bind']
      by_cases hz : (stepC (sAt cs ar s i) ar[i] cs[i]).1 = 0
      · rw [decide_eq_true hz]; exact ⟨_, rfl, rfl⟩
      · rw [decide_eq_false hz, rq_true (decide_eq_true (by simp; omega))]; exact ⟨_, rfl, rfl⟩
  · rintro t rfl
    unfold m_lend_Call_L1
    dsimp only
    rw [decide_eq_false (by omega)]
    exact ⟨_, rfl, rfl⟩
noncomputable def callP (ps : List TPerm) (known : List Int) (roots : List TRat) (ar : List Int) (cs : List TContract) : List Int × List TDiag :=
  ((sAt (cs.take (min ar.length cs.length)) ar (startC ps known roots) (min ar.length cs.length)).f3, dAt (cs.take (min ar.length cs.length)) ar (startC ps known roots) (min ar.length cs.length))
theorem callE {ps : List TPerm} {known : List Int} {roots : List TRat} {ar : List Int} {cs : List TContract} (hp : ∀ p ∈ ps, in64R p.f1) (hr : ∀ r ∈ roots, in64R r) (hc : ∀ c ∈ cs, in64R c.f4) (n0 : ps.length ≤ 1000) (n1 : known.length ≤ 1000) (n2 : cs.length ≤ 1000) :
    m_lend_Call ps known roots ar cs = some (callP ps known roots ar cs) := by
  unfold m_lend_Call m_slices_Clone_uint32
  rw [rq_true (decide_eq_true (by omega)), start_left n0]
  simp only [some_bind']
  have hm : (if (ar.length : Int) < (cs.length : Int) then (ar.length : Int) else (cs.length : Int)) = ((min ar.length cs.length : Nat) : Int) := by
    split <;> omega
  have hs : subL cs 0 ((min ar.length cs.length : Nat) : Int) = some (cs.take (min ar.length cs.length)) := by
    unfold subL
    rw [if_pos ⟨by omega, by omega, by omega⟩]; simp
  rw [hm, hs]
  simp only [some_bind']
  have hl : (cs.take (min ar.length cs.length)).length = min ar.length cs.length := by rw [List.length_take]; omega
  have := call_loop (cs := cs.take (min ar.length cs.length)) (ar := ar) (start_valid (known := known) hp hr) (fun c h => hc c (List.mem_of_mem_take h)) (by omega) (by omega)
  unfold callP
  rw [hl] at this
  have this : loopO (m_lend_Call_L1 (cs.take (min ar.length cs.length)) ar) ([], 0, known, ps, known, roots, ps.map fun p => ⟨p, true⟩) = _ := this
  rw [this]
  rfl
end Go.E
end
section
set_option linter.all false
set_option maxRecDepth 10000
namespace Go.E
open Go Go.Proofs Go.Eng
theorem bi {α β : Type} {x : Option α} {f : α → Option β} {a : α} {r : Option β} (h : x = some a) (k : f a = r) : Option.bind x f = r := by rw [h]; exact k
theorem it {α : Type} {c : Bool} {x y r : Option α} (h : c = true) (k : x = r) : ifB c x y = r := by rw [h]; exact k
theorem ie {α : Type} {c : Bool} {x y r : Option α} (h : c = false) (k : y = r) : ifB c x y = r := by rw [h]; exact k
abbrev own : TPerm := ⟨0, ⟨1, 1⟩, -1, 0⟩
abbrev cX : TContract := ⟨(⟨#[120]⟩ : ByteArray), true, ByteArray.empty, 0, ⟨0, 1⟩, 1, 2, 0⟩
theorem mine_in : ∀ p ∈ [own], in64R p.f1 := fun p hp => by rw [List.mem_singleton] at hp; subst hp; exact one64
theorem no_in : ∀ r ∈ ([] : List TRat), in64R r := fun _ h => by cases h
theorem ownE : m_ref15_Own = some own := rfl
abbrev gone : TPerm := ⟨0, ⟨0, 0⟩, 0, 0⟩
theorem lent1 : m_lend_caller_lent (startC [own] [1] []) 0 cX = some (0, ⟨[own], [⟨gone, false⟩], [1], [2], []⟩) := by
  have hE : m_perm_Enough own ⟨0, 1⟩ ⟨0, 1⟩ = some 0 := by
    rw [enoughE one64 n64 n64]
    exact congrArg some (by decide +kernel)
  have hL : m_perm_Lend own cX = some (gone, false, own, 0) := rfl
  have hl : m_lend_caller_least (startC [own] [1] []) (-1) = some (⟨0, 1⟩, startC [own] [1] []) := rfl
  have hs : m_lend_caller_state ⟨[own], [⟨gone, false⟩], [1], [1], []⟩ 0 cX = some (0, ⟨[own], [⟨gone, false⟩], [1], [2], []⟩) := rfl
  unfold m_lend_caller_lent
  refine bi (a := false) rfl ?_
  refine ie rfl ?_
  refine bi rfl ?_
  refine bi rfl ?_
  refine bi (a := ⟨own, true⟩) rfl ?_
  refine bi hL ?_
  refine ie rfl ?_
  refine ie rfl ?_
  refine bi hl ?_
  refine bi hE ?_
  refine ie rfl ?_
  refine ie rfl ?_
  refine bi (a := ⟨own, true⟩) rfl ?_
  exact bi hs rfl
theorem lent2 : m_lend_caller_lent ⟨[own], [⟨gone, false⟩], [1], [2], []⟩ 0 cX = some (13, ⟨[own], [⟨gone, false⟩], [1], [2], []⟩) := by
  unfold m_lend_caller_lent
  exact bi (a := true) rfl (it rfl rfl)
theorem awake18 : m_law18_awake = some true := by
  have hc : ∀ c ∈ [cX, cX], in64R c.f4 := fun c h => by
    simp only [List.mem_cons, List.not_mem_nil, or_false] at h
    rcases h with rfl | rfl <;> exact n64
  have h1 : stepC (startC [own] [1] []) 0 cX = (0, ⟨[own], [⟨gone, false⟩], [1], [2], []⟩) := by unfold stepC; rw [lent1]; rfl
  have h2 : stepC ⟨[own], [⟨gone, false⟩], [1], [2], []⟩ 0 cX = (13, ⟨[own], [⟨gone, false⟩], [1], [2], []⟩) := by unfold stepC; rw [lent2]; rfl
  have s1 : sAt [cX, cX] [0, 0] (startC [own] [1] []) 1 = ⟨[own], [⟨gone, false⟩], [1], [2], []⟩ := by
    show (stepC (startC [own] [1] []) 0 cX).2 = _
    rw [h1]
  have s2 : sAt [cX, cX] [0, 0] (startC [own] [1] []) 2 = ⟨[own], [⟨gone, false⟩], [1], [2], []⟩ := by
    show (stepC (sAt [cX, cX] [0, 0] (startC [own] [1] []) 1) 0 cX).2 = _
    rw [s1, h2]
  have d1 : dAt [cX, cX] [0, 0] (startC [own] [1] []) 1 = [] := by
    show (if true && !decide ((stepC (startC [own] [1] []) 0 cX).1 = 0) then ([] : List TDiag) ++ [⟨(stepC (startC [own] [1] []) 0 cX).1, ((0 : Nat) : Int), cX.f0⟩] else []) = _
    rw [h1]; rfl
  have d2 : dAt [cX, cX] [0, 0] (startC [own] [1] []) 2 = [⟨13, 1, cX.f0⟩] := by
    show (if true && !decide ((stepC (sAt [cX, cX] [0, 0] (startC [own] [1] []) 1) 0 cX).1 = 0) then dAt [cX, cX] [0, 0] (startC [own] [1] []) 1 ++ [⟨(stepC (sAt [cX, cX] [0, 0] (startC [own] [1] []) 1) 0 cX).1, ((1 : Nat) : Int), cX.f0⟩] else dAt [cX, cX] [0, 0] (startC [own] [1] []) 1) = _
    rw [s1, h2, d1]; rfl
  have hcall : m_lend_Call [own] [1] [] [0, 0] [cX, cX] = some ([2], [(⟨13, 1, cX.f0⟩ : TDiag)]) := by
    rw [callE mine_in no_in hc (by decide) (by decide) (by decide)]
    show some ((sAt [cX, cX] [0, 0] (startC [own] [1] []) 2).f3, dAt [cX, cX] [0, 0] (startC [own] [1] []) 2) = _
    rw [s2, d2]
  unfold m_law18_awake
  refine bi ownE (bi hcall (it rfl (bi (a := 2) rfl (it rfl (it rfl (bi (a := (⟨13, 1, cX.f0⟩ : TDiag)) rfl ?_))))))
  unfold eqTDiag
  decide +kernel
theorem okC {c : TContract} (h : okTContract c) : in64R c.f4 := okR h.2.2.2.2.1
def wantTo (a0 : Int) (a1 : TContract) : List Int := if a1.f1 = false then [a0] else if a1.f3 = 0 ∨ a1.f3 = 1 then [a1.f6] else if a1.f3 = 2 then [a1.f7] else [a0]
theorem callTo {a0 : Int} {a1 : TContract} (hc : in64R a1.f4) : ∃ f3 ds, callP [own] [a0] [] [0] [a1] = (f3, ds) ∧ f3.length = 1 ∧ (ds = [] → f3 = wantTo a0 a1) := by
  have hv := start_valid (known := [a0]) mine_in no_in
  have e : callP [own] [a0] [] [0] [a1] = ((sAt [a1] [0] (startC [own] [a0] []) 1).f3, dAt [a1] [0] (startC [own] [a0] []) 1) := rfl
  have es : sAt [a1] [0] (startC [own] [a0] []) 1 = if a1.f1 then (stepC (startC [own] [a0] []) 0 a1).2 else startC [own] [a0] [] := rfl
  have ed : dAt [a1] [0] (startC [own] [a0] []) 1 = if a1.f1 && !decide ((stepC (startC [own] [a0] []) 0 a1).1 = 0) then [⟨(stepC (startC [own] [a0] []) 0 a1).1, ((0 : Nat) : Int), a1.f0⟩] else [] := rfl
  rw [e, es, ed]
  unfold wantTo
  cases hf : a1.f1 with
  | false => exact ⟨[a0], [], rfl, rfl, fun _ => rfl⟩
  | true =>
    have hl := (stepE hv 0 hc).2
    generalize stepC (startC [own] [a0] []) 0 a1 = r at hl
    cases hl with
    | no e he =>
      rcases he with rfl | rfl
      · exact ⟨_, _, rfl, rfl, fun h => by cases h⟩
      · exact ⟨_, _, rfl, rfl, fun h => by cases h⟩
    | yes i e x ha i1 i2 hfr hx hx0 he =>
      obtain rfl : i = 0 := by omega
      rcases he with rfl | rfl
      · refine ⟨after (startC [own] [a0] []) 0 a1, [], rfl, after_len, fun _ => ?_⟩
        have ea : after (startC [own] [a0] []) 0 a1 = if a1.f3 = 0 ∨ a1.f3 = 1 then [a1.f6] else if a1.f3 = 2 ∧ (0 : Int) = 0 then [a1.f7] else [a0] := rfl
        rw [ea, if_neg (show ¬ (true = false) from by decide)]
        by_cases k : a1.f3 = 0 ∨ a1.f3 = 1
        · rw [if_pos k, if_pos k]
        · rw [if_neg k, if_neg k]
          by_cases k2 : a1.f3 = 2
          · rw [if_pos ⟨k2, rfl⟩, if_pos k2]
          · rw [if_neg (fun h => k2 h.1), if_neg k2]
      · exact ⟨after (startC [own] [a0] []) 0 a1, [⟨10, ((0 : Nat) : Int), a1.f0⟩], rfl, after_len, fun h => by cases h⟩
theorem P_LendTo (a0 : Int) (a1 : TContract) (h0 : (Lit.int .u32 a0).wf = true) (h1 : okTContract a1) : m_law18_LendTo a0 a1 = some true := by
  have hc : ∀ c ∈ [a1], in64R c.f4 := fun c h => by rw [List.mem_singleton] at h; subst h; exact okC h1
  unfold m_law18_LendTo
  rw [awake18, ownE]
  simp only [some_bind', Bool.not_true, ifB_false]
  rw [callE mine_in no_in hc (by simp) (by simp) (by simp)]
  obtain ⟨f3, ds, e, e1, e2⟩ := callTo (a0 := a0) (okC h1)
  rw [e]
  simp only [some_bind', e1]
  cases ds with
  | cons d ds =>
    rw [decide_eq_true (show (0 : Int) < ((d :: ds).length : Int) by simp)]; rfl
  | nil =>
    rw [e2 rfl]
    unfold wantTo
    cases hf : a1.f1 with
    | false =>
      rw [if_pos rfl]
      show some (decide (a0 = a0)) = some true
      rw [decide_eq_true rfl]
    | true =>
      rw [if_neg (by decide)]
      by_cases k0 : a1.f3 = 0
      · rw [if_pos (Or.inl k0), decide_eq_true k0]
        show some (decide (a1.f6 = a1.f6)) = some true
        rw [decide_eq_true rfl]
      · rw [decide_eq_false k0]
        by_cases k1 : a1.f3 = 1
        · rw [if_pos (Or.inr k1), decide_eq_true k1]
          show some (decide (a1.f6 = a1.f6)) = some true
          rw [decide_eq_true rfl]
        · rw [decide_eq_false k1, if_neg (show ¬ (a1.f3 = 0 ∨ a1.f3 = 1) by omega)]
          by_cases k2 : a1.f3 = 2
          · rw [if_pos k2, decide_eq_true k2]
            show some (decide (a1.f7 = a1.f7)) = some true
            rw [decide_eq_true rfl]
          · rw [if_neg k2, decide_eq_false k2]
            show some (decide (a0 = a0)) = some true
            rw [decide_eq_true rfl]
end Go.E
end
section
set_option linter.all false
set_option maxRecDepth 10000
namespace Go.E
open Go Go.Proofs Go.Eng
theorem sAt_keep {cs : List TContract} {ar : List Int} {s : TLend_caller} (hv : Valid s) (hc : ∀ c ∈ cs, in64R c.f4) {j : Nat} : ∀ i, (∀ a ∈ ar, a ≠ (j : Int)) → (sAt cs ar s i).f3[j]? = s.f3[j]?
  | 0, _ => rfl
  | i + 1, hn => by
    have ih := sAt_keep hv hc i hn (j := j)
    have iv := (sAt_valid hv hc (ar := ar) i).1
    unfold sAt
    cases h : cs[i]? with
    | none => exact ih
    | some c =>
      cases h2 : ar[i]? with
      | none => exact ih
      | some a =>
        dsimp only
        cases c.f1 with
        | false => exact ih
        | true =>
          have hl := (stepE iv a (hc c (List.mem_of_getElem? h))).2
          have ha : a ≠ (j : Int) := hn a (List.mem_of_getElem? h2)
          show (stepC (sAt cs ar s i) a c).2.f3[j]? = _
          generalize stepC (sAt cs ar s i) a c = r at hl
          cases hl with
          | no e he => exact ih
          | yes k e x hak i1 i2 hf hx h0 he => exact (after_ne (by omega)).trans ih
theorem any_loop {l : List Int} {v : Int} (h : l.length ≤ 1000) : loopO (m_law18_LendKeeps_L1 l v) (false, 0) = some (l.any fun y => decide (y = v)) := by
  have main := loopO_count (b := m_law18_LendKeeps_L1 l v) l.length (fun i s => s.2 = (i : Int) ∧ s.1 = (l.take i).any fun y => decide (y = v)) (fun z => z = l.any fun y => decide (y = v)) ?_ ?_ (s := (false, 0)) ⟨rfl, rfl⟩
  · obtain ⟨z, hz, rfl⟩ := main; exact hz
  · rintro i ⟨b, _⟩ hi ⟨rfl, hb⟩
    left
    dsimp only at hb
    unfold m_law18_LendKeeps_L1
    dsimp only
    rw [decide_eq_true (show (i : Int) < (l.length : Int) by omega), ifB_true, gi_of hi, wrap_succ (by omega)]
    have e : (l.take (i + 1)).any (fun y => decide (y = v)) = (b || decide (l[i] = v)) := by
      rw [take_snoc hi, List.any_append, ← hb]; simp
    cases b with
    | true => exact ⟨_, rfl, rfl, by rw [e]; rfl⟩
    | false => exact ⟨_, rfl, rfl, by rw [e]; rfl⟩
  · rintro ⟨b, _⟩ ⟨rfl, hb⟩
    unfold m_law18_LendKeeps_L1
    dsimp only at hb ⊢
    rw [decide_eq_false (by omega)]
    rw [List.take_length] at hb
    exact ⟨_, rfl, hb⟩
theorem sets_self {l : List Int} (h : l.length ≤ 1000) : m_law18_sets l l = some true := by
  unfold m_law18_sets
  rw [decide_eq_true rfl]
  have main := loopO_first (b := m_law18_sets_L0 l l) (fun i : Nat => (i : Int)) l.length (fun _ => false) (fun _ => false) () ?_ ?_
  · simp only [Bool.not_true, ifB_false]
    rw [show ((0 : Int)) = ((0 : Nat) : Int) from rfl, main, fst_none.2 fun i _ => rfl]; rfl
  · intro i hi _
    unfold m_law18_sets_L0
    dsimp only
    rw [decide_eq_true (show (i : Int) < (l.length : Int) by omega), ifB_true, gi_of hi, wrap_succ (by omega)]
    simp only [some_bind', decide_true]
    rfl
  · intro _
    unfold m_law18_sets_L0
    dsimp only
    rw [decide_eq_false (by omega)]; rfl
theorem okP {p : TPerm} (h : okTPerm p) : in64R p.f1 := okR h.2.1
theorem P_LendKeeps (a0 : TBallcocklaw18_Case) (a1 : List Int) (a2 : List TContract) (h0 : okTBallcocklaw18_Case a0) (h1 : a1.length * 8 ≤ 140737488351232 ∧ ∀ z ∈ a1, (Lit.int .i64 z).wf = true) (h2 : a2.length * 80 ≤ 140737488351232 ∧ ∀ z ∈ a2, okTContract z) : m_law18_LendKeeps a0 a1 a2 = some true := by
  have hp : ∀ p ∈ a0.f0, in64R p.f1 := fun p h => okP (h0.1.2 p h)
  have hr : ∀ r ∈ a0.f2, in64R r := fun r h => okR (h0.2.2.1.2 r h)
  have hc : ∀ c ∈ a2, in64R c.f4 := fun c h => okC (h2.2 c h)
  unfold m_law18_LendKeeps m_law18_Case_right
  rw [awake18]
  simp only [some_bind', Bool.not_true, ifB_false]
  by_cases l0 : (a0.f0.length : Int) ≤ 10
  case neg => rw [decide_eq_false l0]; rfl
  rw [decide_eq_true l0]
  by_cases l1 : (a0.f1.length : Int) ≤ 10
  case neg => rw [decide_eq_false l1]; rfl
  rw [decide_eq_true l1]
  by_cases l2 : (a0.f2.length : Int) ≤ 10
  case neg => rw [decide_eq_false l2]; rfl
  rw [decide_eq_true l2]
  by_cases l3 : 10 < (a1.length : Int)
  · rw [decide_eq_true l3]; rfl
  rw [decide_eq_false l3]
  by_cases l4 : 10 < (a2.length : Int)
  · rw [decide_eq_true l4]; rfl
  rw [decide_eq_false l4]
  simp only [ifB_true, some_bind', Bool.not_true, ifB_false]
  rw [callE hp hr hc (by omega) (by omega) (by omega), callE hp hr hc (by omega) (by omega) (by omega)]
  simp only [some_bind']
  have hv := start_valid (known := a0.f1) hp hr
  have hc' : ∀ c ∈ a2.take (min a1.length a2.length), in64R c.f4 := fun c h => hc c (List.mem_of_mem_take h)
  obtain ⟨v1, v2, _⟩ := sAt_valid hv hc' (ar := a1) (min a1.length a2.length)
  have keep := fun j => sAt_keep hv hc' (ar := a1) (j := j) (min a1.length a2.length)
  have e1 : (callP a0.f0 a0.f1 a0.f2 a1 a2).1 = (sAt (a2.take (min a1.length a2.length)) a1 (startC a0.f0 a0.f1 a0.f2) (min a1.length a2.length)).f3 := rfl
  have e2 : callP a0.f0 a0.f1 a0.f2 [] a2 = (a0.f1, []) := by
    unfold callP
    rw [show min ([] : List Int).length a2.length = 0 from Nat.zero_min _]; rfl
  have hlen : (callP a0.f0 a0.f1 a0.f2 a1 a2).1.length = a0.f1.length := by rw [e1, v1.k, v2]; rfl
  have hkeep : ∀ j : Nat, (∀ a ∈ a1, a ≠ (j : Int)) → (callP a0.f0 a0.f1 a0.f2 a1 a2).1[j]? = a0.f1[j]? := fun j h => by rw [e1]; exact keep j h
  generalize callP a0.f0 a0.f1 a0.f2 a1 a2 = R at hlen hkeep
  rw [e2, hlen, decide_eq_true rfl]
  have main := loopO_first (b := m_law18_LendKeeps_L0 R a1 a0) (fun i : Nat => (i : Int)) R.1.length (fun _ => false) (fun _ => false) () ?_ ?_
  · simp only [Bool.not_true, ifB_false]
    rw [show ((0 : Int)) = ((0 : Nat) : Int) from rfl, main, fst_none.2 fun i _ => rfl]
    simp only [some_bind']
    rw [sets_self (by omega)]; rfl
  · intro i hi _
    have hi2 : i < a0.f1.length := by omega
    unfold m_law18_LendKeeps_L0
    dsimp only
    rw [decide_eq_true (show (i : Int) < (R.1.length : Int) by omega), ifB_true, any_loop (by omega), gi_of hi, gi_of hi2, wrap_succ (by omega)]
    simp only [some_bind']
    cases ha : a1.any (fun y => decide (y = (i : Int))) with
    | true => rfl
    | false =>
      have := hkeep i fun a hm he => by
        have := List.any_eq_false.1 ha a hm
        simp [he] at this
      rw [List.getElem?_eq_getElem hi, List.getElem?_eq_getElem hi2] at this
      rw [decide_eq_true (Option.some.inj this)]; rfl
  · intro _
    unfold m_law18_LendKeeps_L0
    dsimp only
    rw [decide_eq_false (by omega)]; rfl
end Go.E
end
section
set_option linter.all false
set_option maxRecDepth 10000
namespace Go.E
open Go Go.Proofs Go.Eng
def Good (h n0 n1 n2 n3 n4 : Int) (l : TLend_left) : Prop :=
  (l.f1 = false ∧ h = 1 ∧ n0 = 1 ∧ n1 = 0 ∧ n2 = 0 ∧ n3 = 0 ∧ n4 = 0) ∨
  (l.f1 = true ∧ n0 = 0 ∧ ((l.f0.f0 = 0 ∧ h = 0 ∧ n1 = 0 ∧ n2 = 0 ∧ n3 = 0 ∧ n4 = 0) ∨ (l.f0.f0 = 1 ∧ n1 = 0 ∧ n2 = 0 ∧ n3 = 0) ∨ (l.f0.f0 = 2 ∧ n1 = 0 ∧ n3 = 0) ∨ (l.f0.f0 = 3 ∧ n1 = 0 ∧ n2 = 0 ∧ n4 = 0) ∨ (l.f0.f0 = 4 ∧ n2 = 0 ∧ n3 = 0 ∧ n1 ≤ 1)))
theorem good_next {h n0 n1 n2 n3 n4 : Int} {l : TLend_left} {c : TContract} {x : TPerm × Bool × TPerm × Int} (g : Good h n0 n1 n2 n3 n4 l) (hf : l.f1 = true) (hx : LendOk l.f0 c x) (h0 : x.2.2.2 = 0) :
    (c.f3 = 0 ∧ Good (h + 1) (n0 + 1) n1 n2 n3 n4 ⟨x.1, x.2.1⟩) ∨ (c.f3 = 1 ∧ Good (h + 1) n0 (n1 + 1) n2 n3 n4 ⟨x.1, x.2.1⟩) ∨ (c.f3 = 2 ∧ Good (h + 1) n0 n1 (n2 + 1) n3 n4 ⟨x.1, x.2.1⟩) ∨ (c.f3 = 3 ∧ Good (h + 1) n0 n1 n2 (n3 + 1) n4 ⟨x.1, x.2.1⟩) ∨ (c.f3 = 4 ∧ Good (h + 1) n0 n1 n2 n3 (n4 + 1) ⟨x.1, x.2.1⟩) := by
  obtain ⟨_, m⟩ := hx.mv h0
  unfold Good at g ⊢
  dsimp only
  rcases g with ⟨g, _⟩ | ⟨_, z, g⟩
  · rw [hf] at g; cases g
  rcases m with ⟨p0, k0, b⟩ | ⟨k0, b, m⟩
  · left
    refine ⟨k0, .inl ⟨b, ?_⟩⟩
    rcases g with g | g | g | g | g <;> first | (exfalso; omega) | omega
  · unfold Move at m
    rw [b]
    rcases m with ⟨k, p, q⟩ | ⟨k, p, q⟩ | ⟨k, p, q⟩ | ⟨k, p, p', q⟩ | ⟨k, p, q⟩
    · right; left
      refine ⟨k, .inr ⟨rfl, z, ?_⟩⟩
      rcases g with g | g | g | g | g <;> first | (exfalso; omega) | (left; omega) | (right; left; omega) | (right; right; left; omega) | (right; right; right; left; omega) | (right; right; right; right; omega)
    · right; right; right; right
      refine ⟨k, .inr ⟨rfl, z, ?_⟩⟩
      rcases g with g | g | g | g | g <;> first | (exfalso; omega) | (left; omega) | (right; left; omega) | (right; right; left; omega) | (right; right; right; left; omega) | (right; right; right; right; omega)
    · rcases k with k | k
      · right; right; left
        refine ⟨k, .inr ⟨rfl, z, ?_⟩⟩
        rcases g with g | g | g | g | g <;> first | (exfalso; omega) | (left; omega) | (right; left; omega) | (right; right; left; omega) | (right; right; right; left; omega) | (right; right; right; right; omega)
      · right; right; right; left
        refine ⟨k, .inr ⟨rfl, z, ?_⟩⟩
        rcases g with g | g | g | g | g <;> first | (exfalso; omega) | (left; omega) | (right; left; omega) | (right; right; left; omega) | (right; right; right; left; omega) | (right; right; right; right; omega)
    · have : c.f3 = 2 ∨ c.f3 = 3 ∨ c.f3 = 4 := by omega
      rcases this with k' | k' | k'
      · right; right; left
        refine ⟨k', .inr ⟨rfl, z, ?_⟩⟩
        rcases g with g | g | g | g | g <;> first | (exfalso; omega) | (left; omega) | (right; left; omega) | (right; right; left; omega) | (right; right; right; left; omega) | (right; right; right; right; omega)
      · right; right; right; left
        refine ⟨k', .inr ⟨rfl, z, ?_⟩⟩
        rcases g with g | g | g | g | g <;> first | (exfalso; omega) | (left; omega) | (right; left; omega) | (right; right; left; omega) | (right; right; right; left; omega) | (right; right; right; right; omega)
      · right; right; right; right
        refine ⟨k', .inr ⟨rfl, z, ?_⟩⟩
        rcases g with g | g | g | g | g <;> first | (exfalso; omega) | (left; omega) | (right; left; omega) | (right; right; left; omega) | (right; right; right; left; omega) | (right; right; right; right; omega)
    · right; right; right; right
      refine ⟨k, .inr ⟨rfl, z, ?_⟩⟩
      rcases g with g | g | g | g | g <;> first | (exfalso; omega) | (left; omega) | (right; left; omega) | (right; right; left; omega) | (right; right; right; left; omega) | (right; right; right; right; omega)
def badD (i : Int) (d : TDiag) : Bool := decide (d.f1 = i) && !decide (d.f0 = 10)
theorem dAt_lt {cs : List TContract} {ar : List Int} {s : TLend_caller} : ∀ i, ∀ d ∈ dAt cs ar s i, d.f1 < (i : Int)
  | 0, d, h => by cases h
  | i + 1, d, h => by
    have ih := dAt_lt (cs := cs) (ar := ar) (s := s) i
    unfold dAt at h
    cases h1 : cs[i]? with
    | none => rw [h1] at h; have := ih d h; omega
    | some c =>
      cases h2 : ar[i]? with
      | none => rw [h1, h2] at h; have := ih d h; omega
      | some a =>
        rw [h1, h2] at h
        dsimp only at h
        split at h
        · rcases List.mem_append.1 h with h | h
          · have := ih d h; omega
          · rw [List.mem_singleton] at h; subst h; show (i : Int) < _; omega
        · have := ih d h; omega
theorem dAt_bad {cs : List TContract} {ar : List Int} {s : TLend_caller} {i : Nat} {c : TContract} {a : Int} (h1 : cs[i]? = some c) (h2 : ar[i]? = some a) : ∀ k, (dAt cs ar s (i + 1 + k)).any (badD (i : Int)) = (c.f1 && !decide ((stepC (sAt cs ar s i) a c).1 = 0) && !decide ((stepC (sAt cs ar s i) a c).1 = 10))
  | 0 => by
    have old : (dAt cs ar s i).any (badD (i : Int)) = false := List.any_eq_false.2 fun d hd => by
      have := dAt_lt i d hd
      unfold badD
      rw [decide_eq_false (by omega)]; simp
    show (dAt cs ar s (i + 1)).any _ = _
    unfold dAt
    rw [h1, h2]
    dsimp only
    cases hc : c.f1 && !decide ((stepC (sAt cs ar s i) a c).1 = 0) with
    | false => rw [if_neg Bool.false_ne_true, old]; rfl
    | true =>
      rw [if_pos rfl, List.any_append, old]
      simp [badD]
  | k + 1 => by
    have ih := dAt_bad h1 h2 k (s := s)
    rw [show i + 1 + (k + 1) = (i + 1 + k) + 1 from rfl]
    unfold dAt
    cases h3 : cs[i + 1 + k]? with
    | none => exact ih
    | some c' =>
      cases h4 : ar[i + 1 + k]? with
      | none => exact ih
      | some a' =>
        dsimp only
        split
        · rw [List.any_append, ih]
          have : badD (i : Int) ⟨(stepC (sAt cs ar s (i + 1 + k)) a' c').1, ((i + 1 + k : Nat) : Int), c'.f0⟩ = false := by
            unfold badD
            rw [decide_eq_false (show ¬ (((i + 1 + k : Nat) : Int) = (i : Int)) by omega)]; rfl
          rw [List.any_cons, this]; simp
        · exact ih
theorem bad_loop {r : List Int × List TDiag} {v : Int} (h : r.2.length ≤ 1000) : loopO (m_law18_LendOne_L2 r v) (false, 0) = some (r.2.any (badD v)) := by
  have main := loopO_count (b := m_law18_LendOne_L2 r v) r.2.length (fun i s => s.2 = (i : Int) ∧ s.1 = (r.2.take i).any (badD v)) (fun z => z = r.2.any (badD v)) ?_ ?_ (s := (false, 0)) ⟨rfl, rfl⟩
  · obtain ⟨z, hz, rfl⟩ := main; exact hz
  · rintro i ⟨b, _⟩ hi ⟨rfl, hb⟩
    left
    dsimp only at hb
    unfold m_law18_LendOne_L2
    dsimp only
    rw [decide_eq_true (show (i : Int) < (r.2.length : Int) by omega), ifB_true, gi_of hi, wrap_succ (by omega)]
    have e : (r.2.take (i + 1)).any (badD v) = (b || badD v r.2[i]) := by
      rw [take_snoc hi, List.any_append, ← hb]; simp
    cases b with
    | true => exact ⟨_, rfl, rfl, by rw [e]; rfl⟩
    | false =>
      rw [show badD v r.2[i] = (decide (r.2[i].f1 = v) && !decide (r.2[i].f0 = 10)) from rfl] at e
      simp only [ifB_false, some_bind']
      cases hd : decide (r.2[i].f1 = v) with
      | true => rw [hd] at e; exact ⟨_, rfl, rfl, by rw [e]; rfl⟩
      | false => rw [hd] at e; exact ⟨_, rfl, rfl, by rw [e]; rfl⟩
  · rintro ⟨b, _⟩ ⟨rfl, hb⟩
    unfold m_law18_LendOne_L2
    dsimp only at hb ⊢
    rw [decide_eq_false (by omega)]
    rw [List.take_length] at hb
    exact ⟨_, rfl, hb⟩
theorem zero_loop {cs : List TContract} (h : cs.length ≤ 1000) : loopO (m_law18_LendOne_L0 cs) ([], 0) = some (List.replicate cs.length 0) := by
  have main := loopO_count (b := m_law18_LendOne_L0 cs) cs.length (fun i s => s.2 = (i : Int) ∧ s.1 = List.replicate i 0) (fun z => z = List.replicate cs.length 0) ?_ ?_ (s := ([], 0)) ⟨rfl, rfl⟩
  · obtain ⟨z, hz, rfl⟩ := main; exact hz
  · rintro i ⟨l, _⟩ hi ⟨rfl, hb⟩
    left
    dsimp only at hb
    subst hb
    unfold m_law18_LendOne_L0
    dsimp only
    rw [decide_eq_true (show (i : Int) < (cs.length : Int) by omega), ifB_true, wrap_succ (by omega), rq_true (decide_eq_true (by simp; omega))]
    exact ⟨_, rfl, rfl, by rw [List.replicate_succ']⟩
  · rintro ⟨l, _⟩ ⟨rfl, hb⟩
    unfold m_law18_LendOne_L0
    dsimp only at hb ⊢
    rw [decide_eq_false (by omega)]
    exact ⟨_, rfl, hb⟩
end Go.E
end
section
set_option linter.all false
set_option maxRecDepth 10000
namespace Go.E
open Go Go.Proofs Go.Eng
structure OneInv (cs : List TContract) (S : Nat → TLend_caller) (i : Nat) (st : Int × Int × List Int) : Prop where
  at_ : st.2.1 = (i : Int)
  g : ∃ n0 n1 n2 n3 n4 l, st.2.2 = [n0, n1, n2, n3, n4] ∧ (S i).f1 = [l] ∧ Good st.1 n0 n1 n2 n3 n4 l ∧ 0 ≤ st.1 ∧ st.1 ≤ (i : Int) ∧ 0 ≤ n0 ∧ n0 ≤ (i : Int) ∧ 0 ≤ n1 ∧ n1 ≤ (i : Int) ∧ 0 ≤ n2 ∧ n2 ≤ (i : Int) ∧ 0 ≤ n3 ∧ n3 ≤ (i : Int) ∧ 0 ≤ n4 ∧ n4 ≤ (i : Int)
theorem one_loop {cs : List TContract} {known : Int} (hc : ∀ c ∈ cs, in64R c.f4) (hb : cs.length ≤ 1000) {R : List Int × List TDiag} (hR : R.2 = dAt cs (List.replicate cs.length 0) (startC [own] [known] []) cs.length) :
    ∃ h n0 n1 n2 n3 n4 l, loopO (m_law18_LendOne_L1 cs R) (0, 0, [0, 0, 0, 0, 0]) = some (.inl (h, [n0, n1, n2, n3, n4])) ∧ Good h n0 n1 n2 n3 n4 l ∧ 0 ≤ n1 := by
  have hv := start_valid (known := [known]) mine_in no_in
  have main := loopO_count (b := m_law18_LendOne_L1 cs R) cs.length (fun i st => OneInv cs (sAt cs (List.replicate cs.length 0) (startC [own] [known] [])) i st) (fun z => ∃ h n0 n1 n2 n3 n4 l, z = .inl (h, [n0, n1, n2, n3, n4]) ∧ Good h n0 n1 n2 n3 n4 l ∧ 0 ≤ n1) ?_ ?_ (s := (0, 0, [0, 0, 0, 0, 0])) ?_
  · obtain ⟨z, hz, h, n0, n1, n2, n3, n4, l, rfl, g, p⟩ := main
    exact ⟨h, n0, n1, n2, n3, n4, l, hz, g, p⟩
  · rintro i ⟨h, _, nl⟩ hi ⟨rfl, n0, n1, n2, n3, n4, l, e1, e2, g, b0, b0', b1, b1', b2, b2', b3, b3', b4, b4', b5, b5'⟩
    left
    dsimp only at e1 g b0 b0'
    subst e1
    have hrep : (List.replicate cs.length (0 : Int))[i]? = some 0 := by rw [List.getElem?_replicate, if_pos hi]
    have hci : cs[i]? = some cs[i] := List.getElem?_eq_getElem hi
    obtain ⟨k, hk⟩ : ∃ k, cs.length = i + 1 + k := ⟨cs.length - (i + 1), by omega⟩
    have hbad := dAt_bad hci hrep k (s := startC [own] [known] [])
    rw [← hk, ← hR] at hbad
    have hdl : R.2.length ≤ 1000 := by rw [hR]; exact Nat.le_trans (dAt_len _) hb
    have iv := (sAt_valid hv hc (ar := List.replicate cs.length 0) i).1
    have es : sAt cs (List.replicate cs.length 0) (startC [own] [known] []) (i + 1) = if cs[i].f1 then (stepC (sAt cs (List.replicate cs.length 0) (startC [own] [known] []) i) 0 cs[i]).2 else sAt cs (List.replicate cs.length 0) (startC [own] [known] []) i := by
      rw [show sAt cs (List.replicate cs.length 0) (startC [own] [known] []) (i + 1) = (match cs[i]?, (List.replicate cs.length (0 : Int))[i]? with | some c, some a => if c.f1 then (stepC (sAt cs (List.replicate cs.length 0) (startC [own] [known] []) i) a c).2 else sAt cs (List.replicate cs.length 0) (startC [own] [known] []) i | _, _ => sAt cs (List.replicate cs.length 0) (startC [own] [known] []) i) from rfl, hci, hrep]
    have hl := (stepE iv 0 (hc _ (List.getElem_mem hi))).2
    have goal : ∀ (nh : Int) (m0 m1 m2 m3 m4 : Int) (l' : TLend_left), m_law18_LendOne_L1 cs R (h, (i : Int), [n0, n1, n2, n3, n4]) = some (.inl (nh, ((i + 1 : Nat) : Int), [m0, m1, m2, m3, m4])) → (sAt cs (List.replicate cs.length 0) (startC [own] [known] []) (i + 1)).f1 = [l'] → Good nh m0 m1 m2 m3 m4 l' → (0 ≤ nh ∧ nh ≤ (i : Int) + 1 ∧ 0 ≤ m0 ∧ m0 ≤ (i : Int) + 1 ∧ 0 ≤ m1 ∧ m1 ≤ (i : Int) + 1 ∧ 0 ≤ m2 ∧ m2 ≤ (i : Int) + 1 ∧ 0 ≤ m3 ∧ m3 ≤ (i : Int) + 1 ∧ 0 ≤ m4 ∧ m4 ≤ (i : Int) + 1) →
        ∃ s', m_law18_LendOne_L1 cs R (h, (i : Int), [n0, n1, n2, n3, n4]) = some (.inl s') ∧ OneInv cs (sAt cs (List.replicate cs.length 0) (startC [own] [known] [])) (i + 1) s' := fun nh m0 m1 m2 m3 m4 l' q1 q2 q3 q4 =>
      ⟨_, q1, rfl, m0, m1, m2, m3, m4, l', rfl, q2, q3, by omega⟩
    have body : ∀ r, m_law18_LendOne_L1 cs R (h, (i : Int), [n0, n1, n2, n3, n4]) = some r ↔ (Option.bind (ifB (!cs[i].f1) (some true) (some (R.2.any (badD (i : Int)))) : Option Bool) fun v56 => ifB v56 (some (.inl (h, ((i + 1 : Nat) : Int), [n0, n1, n2, n3, n4]))) (Option.bind (ifB (decide (cs[i].f3 < 0)) (some true) (some (decide (4 < cs[i].f3))) : Option Bool) fun v61 => ifB v61 (some (.inr (.inr false))) (Option.bind (rq (decide (0 ≤ cs[i].f3))) fun _ => Option.bind (rq (decide (cs[i].f3 < 5))) fun _ => Option.bind (gi [n0, n1, n2, n3, n4] (cs[i].f3 : Int)) fun v68 => Option.bind (rq (decide (cs[i].f3 < (([n0, n1, n2, n3, n4] : List Int).length : Int)))) fun _ => some (.inl (IntKind.wrap .i64 (h + 1), ((i + 1 : Nat) : Int), ([n0, n1, n2, n3, n4].set cs[i].f3.toNat (IntKind.wrap .i64 (v68 + 1)))))))) = some r := fun r => by
      unfold m_law18_LendOne_L1
      dsimp only
      rw [decide_eq_true (show (i : Int) < (cs.length : Int) by omega), ifB_true, bad_loop hdl, gi_of hi, wrap_succ (by omega)]
      simp only [some_bind']
    cases hf : cs[i].f1 with
    | false =>
      rw [hf] at es
      rw [if_neg Bool.false_ne_true] at es
      refine goal h n0 n1 n2 n3 n4 l ((body _).2 (by rw [hf]; rfl)) (by rw [es]; exact e2) g (by omega)
    | true =>
      rw [hf] at es hbad
      rw [if_pos rfl] at es
      generalize stepC (sAt cs (List.replicate cs.length 0) (startC [own] [known] []) i) 0 cs[i] = r at hl es hbad
      cases hl with
      | no e he =>
        have hbt : R.2.any (badD (i : Int)) = true := by
          rw [hbad]; rcases he with rfl | rfl <;> rfl
        refine goal h n0 n1 n2 n3 n4 l ((body _).2 (by rw [hf, hbt]; rfl)) (by rw [es]; exact e2) g (by omega)
      | yes j e x ha i1 i2 hfr hx h0 he =>
        obtain rfl : j = 0 := by omega
        have hbt : R.2.any (badD (i : Int)) = false := by
          rw [hbad]; rcases he with rfl | rfl <;> rfl
        have hl0 : (sAt cs (List.replicate cs.length 0) (startC [own] [known] []) i).f1[0] = l := by simp [e2]
        rw [hl0] at hfr hx
        have e3 : (sAt cs (List.replicate cs.length 0) (startC [own] [known] []) (i + 1)).f1 = [⟨x.1, x.2.1⟩] := by
          rw [es]
          show (sAt cs (List.replicate cs.length 0) (startC [own] [known] []) i).f1.set 0 ⟨x.1, x.2.1⟩ = _
          rw [e2]; rfl
        have w : ∀ n : Int, 0 ≤ n → n ≤ (i : Int) → IntKind.wrap .i64 (n + 1) = n + 1 := fun n h1 h2 => wrap_i64 (by omega) (by omega)
        rcases good_next g hfr hx h0 with ⟨k, g'⟩ | ⟨k, g'⟩ | ⟨k, g'⟩ | ⟨k, g'⟩ | ⟨k, g'⟩
        · refine goal _ _ _ _ _ _ _ ((body _).2 (by rw [hf, hbt, k, w h b0 b0']; show some (Sum.inl (h + 1, ((i + 1 : Nat) : Int), [IntKind.wrap .i64 (n0 + 1), n1, n2, n3, n4])) = _; rw [w n0 b1 b1'])) e3 g' (by omega)
        · refine goal _ _ _ _ _ _ _ ((body _).2 (by rw [hf, hbt, k, w h b0 b0']; show some (Sum.inl (h + 1, ((i + 1 : Nat) : Int), [n0, IntKind.wrap .i64 (n1 + 1), n2, n3, n4])) = _; rw [w n1 b2 b2'])) e3 g' (by omega)
        · refine goal _ _ _ _ _ _ _ ((body _).2 (by rw [hf, hbt, k, w h b0 b0']; show some (Sum.inl (h + 1, ((i + 1 : Nat) : Int), [n0, n1, IntKind.wrap .i64 (n2 + 1), n3, n4])) = _; rw [w n2 b3 b3'])) e3 g' (by omega)
        · refine goal _ _ _ _ _ _ _ ((body _).2 (by rw [hf, hbt, k, w h b0 b0']; show some (Sum.inl (h + 1, ((i + 1 : Nat) : Int), [n0, n1, n2, IntKind.wrap .i64 (n3 + 1), n4])) = _; rw [w n3 b4 b4'])) e3 g' (by omega)
        · refine goal _ _ _ _ _ _ _ ((body _).2 (by rw [hf, hbt, k, w h b0 b0']; show some (Sum.inl (h + 1, ((i + 1 : Nat) : Int), [n0, n1, n2, n3, IntKind.wrap .i64 (n4 + 1)])) = _; rw [w n4 b5 b5'])) e3 g' (by omega)
  · rintro ⟨h, _, nl⟩ ⟨rfl, n0, n1, n2, n3, n4, l, e1, e2, g, b0, b0', b1, b1', b2, b2', b3, b3', b4, b4', b5, b5'⟩
    dsimp only at e1 g
    subst e1
    unfold m_law18_LendOne_L1
    dsimp only
    rw [decide_eq_false (by omega)]
    exact ⟨_, rfl, h, n0, n1, n2, n3, n4, l, rfl, g, b2⟩
  · exact ⟨rfl, 0, 0, 0, 0, 0, ⟨own, true⟩, rfl, rfl, .inr ⟨rfl, rfl, .inl ⟨rfl, rfl, rfl, rfl, rfl, rfl⟩⟩, by decide⟩
theorem P_LendOne (a0 : Int) (a1 : List TContract) (h0 : (Lit.int .u32 a0).wf = true) (h1 : a1.length * 80 ≤ 140737488351232 ∧ ∀ z ∈ a1, okTContract z) : m_law18_LendOne a0 a1 = some true := by
  have hc : ∀ c ∈ a1, in64R c.f4 := fun c h => okC (h1.2 c h)
  unfold m_law18_LendOne
  rw [awake18, ownE]
  simp only [some_bind', Bool.not_true, ifB_false]
  by_cases l8 : 8 < (a1.length : Int)
  · rw [decide_eq_true l8]; rfl
  rw [decide_eq_false l8, zero_loop (by omega)]
  simp only [some_bind', ifB_false]
  rw [callE mine_in no_in hc (by simp) (by simp) (by omega)]
  simp only [some_bind']
  have hR : (callP [own] [a0] [] (List.replicate a1.length 0) a1).2 = dAt a1 (List.replicate a1.length 0) (startC [own] [a0] []) a1.length := by
    unfold callP
    rw [List.length_replicate, Nat.min_self, List.take_length]
  obtain ⟨h, n0, n1, n2, n3, n4, l, e, g, p⟩ := one_loop hc (by omega) hR
  rw [e]
  simp only [some_bind']
  have q0 : gi [n0, n1, n2, n3, n4] (0 : Int) = some n0 := rfl
  have q1 : gi [n0, n1, n2, n3, n4] (1 : Int) = some n1 := rfl
  have q2 : gi [n0, n1, n2, n3, n4] (2 : Int) = some n2 := rfl
  have q3 : gi [n0, n1, n2, n3, n4] (3 : Int) = some n3 := rfl
  have q4 : gi [n0, n1, n2, n3, n4] (4 : Int) = some n4 := rfl
  have r : ∀ a b : Int, a ≤ b → rq (decide (a ≤ b)) = some () := fun a b h => rq_true (decide_eq_true h)
  have r' : ∀ a b : Int, a < b → rq (decide (a < b)) = some () := fun a b h => rq_true (decide_eq_true h)
  rw [r 0 0 (by decide), r 0 1 (by decide), r 0 2 (by decide), r 0 3 (by decide), r 0 4 (by decide), r' 0 5 (by decide), r' 1 5 (by decide), r' 2 5 (by decide), r' 3 5 (by decide), r' 4 5 (by decide), q0, q1, q2, q3, q4]
  simp only [some_bind']
  unfold Good at g
  rcases g with ⟨_, rfl, rfl, rfl, rfl, rfl, rfl⟩ | ⟨_, rfl, ⟨_, rfl, rfl, rfl, rfl, rfl⟩ | ⟨_, rfl, rfl, rfl⟩ | ⟨_, rfl, rfl⟩ | ⟨_, rfl, rfl, rfl⟩ | ⟨_, rfl, rfl, hn⟩⟩
  · rfl
  · rfl
  · rfl
  · cases decide (0 < n2) <;> rfl
  · cases decide (0 < n3) <;> rfl
  · rw [decide_eq_false (show ¬ 1 < n1 by omega)]
    cases decide (0 < n1) <;> rfl
end Go.E
end
