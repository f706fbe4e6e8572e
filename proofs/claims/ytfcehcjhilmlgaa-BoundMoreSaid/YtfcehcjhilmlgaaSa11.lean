import Derived.Test.YtfcehcjhilmlgaaSa10
section
set_option linter.all false
set_option maxRecDepth 10000
namespace Go.E
open Go Go.Proofs Go.Eng
theorem termE {o : Bool} {t : TTerm} {e : Int} : m_bound_engine_term ⟨o⟩ t e = some (t, ⟨o || !decide (e = 0)⟩) := by
  unfold m_bound_engine_term
  cases o <;> rfl
theorem ratE {o : Bool} {t : TRat} {e : Int} : m_bound_engine_rat ⟨o⟩ t e = some (t, ⟨o || !decide (e = 0)⟩) := by
  unfold m_bound_engine_rat
  cases o <;> rfl
def plainT : TTerm → List Row → Option TTerm
  | t, [] => some t
  | t, r :: U => if (atT t r.f1.toNat).f0 = 0 then plainT t U else if (lessT t r.f0 (atT t r.f1.toNat)).2 = 0 then plainT (lessT t r.f0 (atT t r.f1.toNat)).1 U else none
structure GoodU (U : List Row) : Prop where
  t : ∀ r ∈ U, in64T r.f0
  v : ∀ r ∈ U, 0 ≤ r.f1 ∧ r.f1 < 8
  l : U.length ≤ 8
theorem plain_over {U : List Row} (hU : GoodU U) : ∀ (k i : Nat) (t : TTerm), i + k = U.length → loopO (m_bound_engine_plain_L0 (U.map fun x => x.f0) (U.map fun x => x.f1)) ((i : Int), true, t.f0, t.f1.f0, t.f1.f1) = some (true, t.f0, t.f1.f0, t.f1.f1) := by
  intro k
  induction k with
  | zero =>
    intro i t hi
    refine loopO_inr ?_
    unfold m_bound_engine_plain_L0
    dsimp only
    rw [List.length_map, decide_eq_false (by omega)]; rfl
  | succ k ih =>
    intro i t hi
    have hlt : i < U.length := by omega
    have hl := hU.l
    have hv := hU.v _ (List.getElem_mem hlt)
    have hb : m_bound_engine_plain_L0 (U.map fun x => x.f0) (U.map fun x => x.f1) ((i : Int), true, t.f0, t.f1.f0, t.f1.f1) = some (.inl (((i + 1 : Nat) : Int), true, t.f0, t.f1.f0, t.f1.f1)) := by
      unfold m_bound_engine_plain_L0
      dsimp only
      rw [List.length_map, decide_eq_true (show (i : Int) < (U.length : Int) by omega), ifB_true, gi_of (by rw [List.length_map]; exact hlt), gi_of (by rw [List.length_map]; exact hlt), List.getElem_map, List.getElem_map]
      have e : U[i].f1 = ((U[i].f1.toNat : Nat) : Int) := by omega
      simp only [some_bind']
      rw [e, atP, wrap_succ (by omega)]
      simp only [some_bind']
      cases decide ((atT ⟨t.f0, ⟨t.f1.f0, t.f1.f1⟩⟩ U[i].f1.toNat).f0 = 0) <;> rfl
    rw [loopO_inl hb]
    exact ih (i + 1) t (by omega)
theorem plain_loop {U : List Row} (hU : GoodU U) : ∀ (k i : Nat) (t : TTerm), i + k = U.length → in64T t → ∃ b t', loopO (m_bound_engine_plain_L0 (U.map fun x => x.f0) (U.map fun x => x.f1)) ((i : Int), false, t.f0, t.f1.f0, t.f1.f1) = some (b, t'.f0, t'.f1.f0, t'.f1.f1) ∧ in64T t' ∧
    (match plainT t (U.drop i) with | some t1 => b = false ∧ t' = t1 | none => b = true) := by
  intro k
  induction k with
  | zero =>
    intro i t hi ht
    refine ⟨false, t, ?_, ht, ?_⟩
    · refine loopO_inr ?_
      unfold m_bound_engine_plain_L0
      dsimp only
      rw [List.length_map, decide_eq_false (by omega)]; rfl
    · rw [List.drop_of_length_le (by omega)]
      exact ⟨rfl, rfl⟩
  | succ k ih =>
    intro i t hi ht
    have hlt : i < U.length := by omega
    have hl := hU.l
    have hv := hU.v _ (List.getElem_mem hlt)
    have e : U[i].f1 = ((U[i].f1.toNat : Nat) : Int) := by omega
    rw [List.drop_eq_getElem_cons hlt]
    have hin : in64T U[i].f0 := hU.t _ (List.getElem_mem hlt)
    have hc : in64R (atT t U[i].f1.toNat) := at_in ht _
    have hb : m_bound_engine_plain_L0 (U.map fun x => x.f0) (U.map fun x => x.f1) ((i : Int), false, t.f0, t.f1.f0, t.f1.f1) =
        if (atT t U[i].f1.toNat).f0 = 0 then some (.inl (((i + 1 : Nat) : Int), false, t.f0, t.f1.f0, t.f1.f1))
        else if (mulT U[i].f0 (neg (atT t U[i].f1.toNat))).2 = 0 then some (.inl (((i + 1 : Nat) : Int), !decide ((lessT t U[i].f0 (atT t U[i].f1.toNat)).2 = 0), (lessT t U[i].f0 (atT t U[i].f1.toNat)).1.f0, (lessT t U[i].f0 (atT t U[i].f1.toNat)).1.f1.f0, (lessT t U[i].f0 (atT t U[i].f1.toNat)).1.f1.f1))
        else some (.inl (((i + 1 : Nat) : Int), true, t.f0, t.f1.f0, t.f1.f1)) := by
      unfold m_bound_engine_plain_L0
      dsimp only
      rw [List.length_map, decide_eq_true (show (i : Int) < (U.length : Int) by omega), ifB_true, gi_of (by rw [List.length_map]; exact hlt), gi_of (by rw [List.length_map]; exact hlt), List.getElem_map, List.getElem_map]
      simp only [some_bind']
      rw [e, Int.toNat_natCast, atP, wrap_succ (by omega)]
      simp only [some_bind']
      have et : (⟨t.f0, ⟨t.f1.f0, t.f1.f1⟩⟩ : TTerm) = t := rfl
      rw [et]
      by_cases hz : (atT t U[i].f1.toNat).f0 = 0
      · rw [if_pos hz, decide_eq_true hz]; rfl
      · rw [if_neg hz, decide_eq_false hz]
        have hs := scaleP hin (neg_in hc)
        unfold neg at hs
        simp only [Bool.not_false, ifB_true, some_bind', hs, termE, Bool.false_or]
        by_cases hm : (mulT U[i].f0 (neg (atT t U[i].f1.toNat))).2 = 0
        · have hm' := hm
          unfold neg at hm'
          rw [if_pos hm, decide_eq_true hm']
          have ha := addP (b := (mulT U[i].f0 (neg (atT t U[i].f1.toNat))).1) ht mulT_good.1
          unfold neg at ha
          simp only [Bool.not_true, Bool.not_false, ifB_true, some_bind', ha, termE, Bool.false_or]
          unfold lessT
          rw [if_pos hm]
          unfold neg
          rfl
        · have hm' := hm
          unfold neg at hm'
          rw [if_neg hm, decide_eq_false hm']
          rfl
    unfold plainT
    by_cases hz : (atT t U[i].f1.toNat).f0 = 0
    · rw [if_pos hz] at hb ⊢
      rw [loopO_inl hb]
      exact ih (i + 1) t (by omega) ht
    · rw [if_neg hz] at hb ⊢
      by_cases hm : (mulT U[i].f0 (neg (atT t U[i].f1.toNat))).2 = 0
      · rw [if_pos hm] at hb
        rw [loopO_inl hb]
        by_cases hq : (lessT t U[i].f0 (atT t U[i].f1.toNat)).2 = 0
        · rw [if_pos hq, decide_eq_true hq]
          exact ih (i + 1) _ (by omega) lessT_in
        · rw [if_neg hq, decide_eq_false hq]
          exact ⟨true, _, plain_over hU k (i + 1) _ (by omega), lessT_in, rfl⟩
      · rw [if_neg hm] at hb
        have hq : ¬ (lessT t U[i].f0 (atT t U[i].f1.toNat)).2 = 0 := by unfold lessT; rw [if_neg hm]; exact hm
        rw [loopO_inl hb, if_neg hq]
        exact ⟨true, t, plain_over hU k (i + 1) t (by omega), ht, rfl⟩
theorem plainE {U : List Row} (hU : GoodU U) {r : TRow} (hr : in64T r.f1) (o : Bool) : ∃ b t', m_bound_engine_plain ⟨o⟩ r (U.map fun x => x.f0) (U.map fun x => x.f1) = some (⟨r.f0, t'⟩, ⟨b⟩) ∧ in64T t' ∧ (o = true → b = true) ∧
    (o = false → match plainT r.f1 U with | some t1 => b = false ∧ t' = t1 | none => b = true) := by
  unfold m_bound_engine_plain
  cases o with
  | true =>
    have := plain_over hU U.length 0 r.f1 (by omega)
    dsimp only
    rw [show ((0 : Int)) = ((0 : Nat) : Int) from rfl, this]
    exact ⟨true, r.f1, rfl, hr, fun _ => rfl, (fun h => by cases h)⟩
  | false =>
    obtain ⟨b, t', h1, h2, h3⟩ := plain_loop hU U.length 0 r.f1 (by omega) hr
    dsimp only
    rw [show ((0 : Int)) = ((0 : Nat) : Int) from rfl, h1]
    exact ⟨b, t', rfl, h2, (fun h => by cases h), fun _ => h3⟩
def absR (c : TRat) : TRat := ⟨if c.f0 < 0 then IntKind.wrap .i64 (0 - c.f0) else c.f0, c.f1⟩
theorem abs_in {c : TRat} (h : in64R c) : in64R (absR c) := by
  refine ⟨?_, h.2⟩
  unfold absR
  dsimp only
  split
  · constructor <;> (rw [IntKind.wrap_i64]; omega)
  · exact h.1
def divT (t : TTerm) (c : TRat) : TTerm × Int := if (divR ⟨1, 1⟩ (absR c)).2 = 0 then mulT t (divR ⟨1, 1⟩ (absR c)).1 else (zT, (divR ⟨1, 1⟩ (absR c)).2)
theorem divT_in {t : TTerm} {c : TRat} : in64T (divT t c).1 := by
  unfold divT
  split
  · exact mulT_good.1
  · exact z_in
theorem one64 : in64R ⟨1, 1⟩ := by decide
theorem divideE {r : TRow} {c : TRat} (hr : in64T r.f1) (hc : in64R c) (o : Bool) : ∃ b t', m_bound_engine_divide ⟨o⟩ r c = some (⟨r.f0, t'⟩, ⟨b⟩) ∧ in64T t' ∧ (o = true → b = true) ∧ (o = false → if (divT r.f1 c).2 = 0 then b = false ∧ t' = (divT r.f1 c).1 else b = true) := by
  unfold m_bound_engine_divide
  have e : (ifB (decide (c.f0 < 0)) (some (IntKind.wrap .i64 (0 - c.f0))) (some c.f0) : Option Int) = some (absR c).f0 := by
    unfold absR
    dsimp only
    by_cases h : c.f0 < 0
    · rw [decide_eq_true h, if_pos h]; rfl
    · rw [decide_eq_false h, if_neg h]; rfl
  rw [e]
  simp only [some_bind']
  have e2 : (⟨(absR c).f0, c.f1⟩ : TRat) = absR c := rfl
  rw [e2, dR one64 (abs_in hc)]
  simp only [some_bind', ratE]
  have hd := div_good ⟨1, 1⟩ (absR c)
  cases o with
  | true => exact ⟨true, r.f1, rfl, hr, fun _ => rfl, (fun h => by cases h)⟩
  | false =>
    by_cases h1 : (divR ⟨1, 1⟩ (absR c)).2 = 0
    · rw [decide_eq_true h1]
      simp only [Bool.not_true, Bool.not_false, Bool.or_self, ifB_true, scaleP hr hd.1, some_bind', termE, Bool.false_or]
      refine ⟨_, _, rfl, mulT_good.1, (fun h => by cases h), fun _ => ?_⟩
      unfold divT
      rw [if_pos h1]
      split
      · rename_i h2; rw [decide_eq_true h2]; exact ⟨rfl, rfl⟩
      · rename_i h2; rw [decide_eq_false h2]; rfl
    · rw [decide_eq_false h1]
      refine ⟨true, r.f1, rfl, hr, fun _ => rfl, fun _ => ?_⟩
      unfold divT
      rw [if_neg h1, if_neg h1]
end Go.E
end
section
set_option linter.all false
set_option maxRecDepth 10000
namespace Go.E
open Go Go.Proofs Go.Eng
def inW (l : List TRow) : Prop := ∀ r ∈ l, in64T r.f1
def cOf (v : Nat) (r : TRow) : TRat := atT r.f1 v
def isLow (v : Nat) (r : TRow) : Bool := decide (0 < (cOf v r).f0)
def isUp (v : Nat) (r : TRow) : Bool := decide ((cOf v r).f0 < 0)
def isNone (v : Nat) (r : TRow) : Bool := decide ((cOf v r).f0 = 0)
def divW (v : Nat) (r : TRow) : TRow := ⟨r.f0, (divT r.f1 (cOf v r)).1⟩
def okW (v : Nat) (r : TRow) : Bool := isNone v r || decide ((divT r.f1 (cOf v r)).2 = 0)
def lowW (v : Nat) (l : List TRow) : List TRow := (l.filter (isLow v)).map (divW v)
def upW (v : Nat) (l : List TRow) : List TRow := (l.filter (isUp v)).map (divW v)
def nxW (v : Nat) (l : List TRow) : List TRow := l.filter (isNone v)
theorem filter_snoc {α : Type} {p : α → Bool} {l : List α} {x : α} : (l ++ [x]).filter p = if p x then l.filter p ++ [x] else l.filter p := by
  rw [List.filter_append]
  cases h : p x <;> simp [h]
theorem take_snoc {α : Type} {l : List α} {i : Nat} (h : i < l.length) : l.take (i + 1) = l.take i ++ [l[i]] := by
  rw [List.take_succ, List.getElem?_eq_getElem h]; rfl
structure D0 (rows : List TRow) (v i : Nat) (s : List TRow × Int × Bool × List TRow × List TRow) : Prop where
  at_ : s.2.1 = (i : Int)
  n : s.1.length + s.2.2.2.1.length + s.2.2.2.2.length = i
  a : inW s.1
  b : inW s.2.2.2.1
  c : inW s.2.2.2.2
  f : s.2.2.1 = false → (rows.take i).all (okW v) = true ∧ s.1 = nxW v (rows.take i) ∧ s.2.2.2.1 = lowW v (rows.take i) ∧ s.2.2.2.2 = upW v (rows.take i)
  t : s.2.2.1 = true → (rows.take i).all (okW v) = false
theorem inW_snoc {l : List TRow} {r : TRow} (h : inW l) (hr : in64T r.f1) : inW (l ++ [r]) := fun x hx => by
  rcases List.mem_append.1 hx with hx | hx
  · exact h x hx
  · rw [List.mem_singleton] at hx; subst hx; exact hr
theorem drop_loop0 {rows : List TRow} {v : Nat} (hr : inW rows) (hl : rows.length ≤ 400) : ∃ s, loopO (m_bound_engine_drop_L0 rows (v : Int)) ([], 0, false, [], []) = some s ∧ D0 rows v rows.length (s.1, (rows.length : Int), s.2.1, s.2.2.1, s.2.2.2) := by
  refine loopO_count rows.length (fun i s => D0 rows v i s) _ ?_ ?_ ⟨rfl, rfl, (fun _ h => by cases h), (fun _ h => by cases h), (fun _ h => by cases h), (fun _ => ⟨rfl, rfl, rfl, rfl⟩), (fun h => by cases h)⟩
  · rintro i ⟨nx, _, o, lo, up⟩ hi ⟨rfl, hn, ha, hb, hc, hf, ht⟩
    left
    dsimp only at hn ha hb hc hf ht
    have hin := hr _ (List.getElem_mem hi)
    have hcin : in64R (cOf v rows[i]) := at_in hin v
    unfold m_bound_engine_drop_L0
    dsimp only
    rw [decide_eq_true (show (i : Int) < (rows.length : Int) by omega), ifB_true, gi_of hi]
    simp only [some_bind', atP]
    rw [wrap_succ (by omega)]
    have tk := take_snoc hi
    obtain ⟨b, t', e1, e2, e3, e4⟩ := divideE (r := rows[i]) hin hcin o
    unfold cOf at e1
    by_cases c1 : 0 < (cOf v rows[i]).f0
    · have c1' : 0 < (atT rows[i].f1 v).f0 := c1
      rw [decide_eq_true c1']
      simp only [ifB_true, e1, some_bind']
      rw [rq_true (decide_eq_true (by simp; omega))]
      refine ⟨_, rfl, rfl, by simp; omega, ha, inW_snoc hb e2, hc, ?_, ?_⟩
      · intro hbf
        dsimp only at hbf
        have ho : o = false := by cases o; rfl; exact absurd (e3 rfl) (by rw [hbf]; decide)
        obtain ⟨f1, f2, f3, f4⟩ := hf ho
        have e4 := e4 ho
        split at e4
        · rename_i hd
          rw [tk]
          refine ⟨?_, ?_, ?_, ?_⟩
          · rw [List.all_append, f1]; simp [okW, hd]
          · show nx = nxW v _
            unfold nxW; rw [filter_snoc, if_neg (by unfold isNone; simp; omega)]; exact f2
          · show lo ++ _ = lowW v _
            unfold lowW; rw [filter_snoc, if_pos (by unfold isLow; simpa using c1), List.map_append, f3, e4.2]; rfl
          · show up = upW v _
            unfold upW; rw [filter_snoc, if_neg (by unfold isUp; simp; omega)]; exact f4
        · rw [hbf] at e4; cases e4
      · intro hbt
        dsimp only at hbt
        rw [tk, List.all_append]
        cases o with
        | true => rw [ht rfl]; rfl
        | false =>
          have e4 := e4 rfl
          split at e4
          · rw [hbt] at e4; cases e4.1
          · rename_i hd
            have : okW v rows[i] = false := by unfold okW isNone; rw [decide_eq_false hd, decide_eq_false (by omega)]; rfl
            simp [this]
    · have c1' : ¬ 0 < (atT rows[i].f1 v).f0 := c1
      rw [decide_eq_false c1']
      by_cases c2 : (cOf v rows[i]).f0 < 0
      · have c2' : (atT rows[i].f1 v).f0 < 0 := c2
        rw [decide_eq_true c2']
        simp only [ifB_true, ifB_false, e1, some_bind']
        rw [rq_true (decide_eq_true (by simp; omega))]
        refine ⟨_, rfl, rfl, by simp; omega, ha, hb, inW_snoc hc e2, ?_, ?_⟩
        · intro hbf
          dsimp only at hbf
          have ho : o = false := by cases o; rfl; exact absurd (e3 rfl) (by rw [hbf]; decide)
          obtain ⟨f1, f2, f3, f4⟩ := hf ho
          have e4 := e4 ho
          split at e4
          · rename_i hd
            rw [tk]
            refine ⟨?_, ?_, ?_, ?_⟩
            · rw [List.all_append, f1]; simp [okW, hd]
            · show nx = nxW v _
              unfold nxW; rw [filter_snoc, if_neg (by unfold isNone; simp; omega)]; exact f2
            · show lo = lowW v _
              unfold lowW; rw [filter_snoc, if_neg (by unfold isLow; simp; omega)]; exact f3
            · show up ++ _ = upW v _
              unfold upW; rw [filter_snoc, if_pos (by unfold isUp; simpa using c2), List.map_append, f4, e4.2]; rfl
          · rw [hbf] at e4; cases e4
        · intro hbt
          dsimp only at hbt
          rw [tk, List.all_append]
          cases o with
          | true => rw [ht rfl]; rfl
          | false =>
            have e4 := e4 rfl
            split at e4
            · rw [hbt] at e4; cases e4.1
            · rename_i hd
              have : okW v rows[i] = false := by unfold okW isNone; rw [decide_eq_false hd, decide_eq_false (by omega)]; rfl
              simp [this]
      · have c2' : ¬ (atT rows[i].f1 v).f0 < 0 := c2
        rw [decide_eq_false c2']
        simp only [ifB_false, some_bind']
        rw [rq_true (decide_eq_true (by simp; omega))]
        have hz : isNone v rows[i] = true := by unfold isNone; simp; omega
        refine ⟨_, rfl, rfl, by simp; omega, inW_snoc ha hin, hb, hc, ?_, ?_⟩
        · intro hbf
          dsimp only at hbf
          obtain ⟨f1, f2, f3, f4⟩ := hf hbf
          rw [tk]
          refine ⟨?_, ?_, ?_, ?_⟩
          · rw [List.all_append, f1]; simp [okW, hz]
          · show nx ++ _ = nxW v _
            unfold nxW; rw [filter_snoc, if_pos hz, f2]; rfl
          · show lo = lowW v _
            unfold lowW; rw [filter_snoc, if_neg (by unfold isLow; simp; omega)]; exact f3
          · show up = upW v _
            unfold upW; rw [filter_snoc, if_neg (by unfold isUp; simp; omega)]; exact f4
        · intro hbt
          dsimp only at hbt
          rw [tk, List.all_append, ht hbt]; rfl
  · rintro ⟨nx, _, o, lo, up⟩ ⟨rfl, hn, ha, hb, hc, hf, ht⟩
    refine ⟨(nx, o, lo, up), ?_, rfl, hn, ha, hb, hc, hf, ht⟩
    unfold m_bound_engine_drop_L0
    dsimp only
    rw [decide_eq_false (by omega)]; rfl
def sumW (a b : TRow) : TRow := ⟨if a.f0 < b.f0 then b.f0 else a.f0, (addT a.f1 b.f1).1⟩
def badS (a b : TRow) : Bool := !decide ((addT a.f1 b.f1).2 = 0)
theorem drop_loop2 {up : List TRow} {a : TRow} (hu : inW up) (ha : in64T a.f1) {m : Nat} (hm : up.length ≤ 400) : ∀ (k i : Nat) (acc : List TRow) (o : Bool), i + k = up.length → acc.length + k ≤ 400 →
    loopO (m_bound_engine_drop_L2 up a) (acc, (i : Int), o) = some (acc ++ (up.drop i).map (sumW a), o || (up.drop i).any (badS a)) := by
  intro k
  induction k with
  | zero =>
    intro i acc o hi hb
    rw [List.drop_of_length_le (by omega)]
    refine loopO_inr ?_
    unfold m_bound_engine_drop_L2
    dsimp only
    rw [decide_eq_false (by omega)]
    simp [ifB_false]
  | succ k ih =>
    intro i acc o hi hb
    have hlt : i < up.length := by omega
    have e : m_bound_engine_drop_L2 up a (acc, (i : Int), o) = some (.inl (acc ++ [sumW a up[i]], ((i + 1 : Nat) : Int), o || badS a up[i])) := by
      unfold m_bound_engine_drop_L2
      dsimp only
      rw [decide_eq_true (show (i : Int) < (up.length : Int) by omega), ifB_true, gi_of hlt]
      simp only [some_bind', addP ha (hu _ (List.getElem_mem hlt)), termE]
      rw [rq_true (decide_eq_true (by simp; omega)), wrap_succ (by omega)]
      rfl
    rw [loopO_inl e, ih (i + 1) _ _ (by omega) (by simp; omega), List.drop_eq_getElem_cons hlt, List.map_cons, List.any_cons, List.append_assoc, Bool.or_assoc]
    rfl
theorem drop_loop1 {lo up : List TRow} (hl : inW lo) (hu : inW up) {n0 : Nat} (hn : n0 + lo.length * up.length ≤ 400) (hm : up.length ≤ 400) (hlo : lo.length ≤ 400) : ∀ (k i : Nat) (acc : List TRow) (o : Bool), i + k = lo.length → acc.length = n0 + i * up.length →
    loopO (m_bound_engine_drop_L1 lo up) (acc, (i : Int), o) = some (acc ++ (lo.drop i).flatMap (fun a => up.map (sumW a)), o || (lo.drop i).any (fun a => up.any (badS a))) := by
  intro k
  induction k with
  | zero =>
    intro i acc o hi hb
    rw [List.drop_of_length_le (by omega)]
    refine loopO_inr ?_
    unfold m_bound_engine_drop_L1
    dsimp only
    rw [decide_eq_false (by omega)]
    simp [ifB_false]
  | succ k ih =>
    intro i acc o hi hb
    have hlt : i < lo.length := by omega
    have hmul : (i + 1) * up.length ≤ lo.length * up.length := Nat.mul_le_mul_right _ (by omega)
    rw [Nat.add_mul, Nat.one_mul] at hmul
    have h2 := drop_loop2 (a := lo[i]) hu (hl _ (List.getElem_mem hlt)) (m := 0) hm up.length 0 acc o (by omega) (by omega)
    have e : m_bound_engine_drop_L1 lo up (acc, (i : Int), o) = some (.inl (acc ++ up.map (sumW lo[i]), ((i + 1 : Nat) : Int), o || up.any (badS lo[i]))) := by
      unfold m_bound_engine_drop_L1
      dsimp only
      rw [decide_eq_true (show (i : Int) < (lo.length : Int) by omega), ifB_true, gi_of hlt]
      simp only [some_bind']
      rw [show ((0 : Int)) = ((0 : Nat) : Int) from rfl, h2]
      simp only [some_bind', List.drop_zero]
      rw [wrap_succ (by omega)]
    rw [loopO_inl e, ih (i + 1) _ _ (by omega) (by simp [Nat.add_mul]; omega), List.drop_eq_getElem_cons hlt, List.flatMap_cons, List.any_cons, List.append_assoc, Bool.or_assoc]
def dropP (rows : List TRow) (v : Nat) : Option (TBound_stage × List TRow) :=
  if rows.all (okW v) && decide ((nxW v rows).length + (lowW v rows).length * (upW v rows).length ≤ 400) && !((lowW v rows).any fun a => (upW v rows).any (badS a)) then some (⟨lowW v rows, upW v rows⟩, nxW v rows ++ (lowW v rows).flatMap fun a => (upW v rows).map (sumW a)) else none
theorem dropE {rows : List TRow} {v : Nat} (hr : inW rows) (hl : rows.length ≤ 400) : ∃ s n o, m_bound_engine_drop ⟨false⟩ rows (v : Int) = some (s, n, ⟨o⟩) ∧ (match dropP rows v with | some (s', n') => o = false ∧ s = s' ∧ n = n' | none => o = true) := by
  unfold m_bound_engine_drop
  obtain ⟨⟨nx, o, lo, up⟩, h1, ⟨_, hn, ha, hb, hc, hf, ht⟩⟩ := drop_loop0 (v := v) hr hl
  dsimp only at hn ha hb hc hf ht
  dsimp only
  rw [h1]
  simp only [some_bind']
  rw [List.take_length] at hf ht
  cases o with
  | true =>
    refine ⟨_, _, _, rfl, ?_⟩
    unfold dropP
    rw [ht rfl]; rfl
  | false =>
    obtain ⟨f1, f2, f3, f4⟩ := hf rfl
    have hmul : lo.length * up.length ≤ 400 * 400 := Nat.mul_le_mul (by omega) (by omega)
    have w1 : IntKind.wrap .i64 ((lo.length : Int) * (up.length : Int)) = ((lo.length * up.length : Nat) : Int) := by
      rw [← Int.natCast_mul, wrap_i64 (by omega) (by omega)]
    have w2 : IntKind.wrap .i64 ((nx.length : Int) + ((lo.length * up.length : Nat) : Int)) = ((nx.length + lo.length * up.length : Nat) : Int) := by
      rw [wrap_i64 (by omega) (by omega)]; omega
    simp only [ifB_false, some_bind', w1, w2]
    unfold dropP
    rw [f1, ← f2, ← f3, ← f4]
    by_cases hbig : nx.length + lo.length * up.length ≤ 400
    · rw [decide_eq_false (by omega), decide_eq_true hbig]
      have l1 := drop_loop1 hb hc (n0 := nx.length) hbig (by omega) (by omega) lo.length 0 nx false (by omega) (by omega)
      simp only [ifB_false]
      rw [show ((0 : Int)) = ((0 : Nat) : Int) from rfl, l1]
      simp only [some_bind', List.drop_zero, Bool.false_or, Bool.true_and]
      refine ⟨_, _, _, rfl, ?_⟩
      cases hq : lo.any fun a => up.any (badS a) with
      | true => rfl
      | false => exact ⟨rfl, rfl, rfl⟩
    · rw [decide_eq_true (by omega), decide_eq_false hbig]
      exact ⟨_, _, _, rfl, rfl⟩
theorem drop_in {rows : List TRow} {v : Nat} {s : TBound_stage} {n : List TRow} (h : dropP rows v = some (s, n)) (hr : inW rows) : inW s.f0 ∧ inW s.f1 ∧ inW n ∧ n.length ≤ 400 := by
  unfold dropP at h
  split at h
  · rename_i hc
    cases h
    simp only [Bool.and_eq_true, decide_eq_true_eq] at hc
    refine ⟨fun r hr' => ?_, fun r hr' => ?_, fun r hr' => ?_, ?_⟩
    · unfold lowW at hr'; obtain ⟨x, _, rfl⟩ := List.mem_map.1 hr'; exact divT_in
    · unfold upW at hr'; obtain ⟨x, _, rfl⟩ := List.mem_map.1 hr'; exact divT_in
    · rcases List.mem_append.1 hr' with h | h
      · exact hr _ (List.mem_filter.1 h).1
      · obtain ⟨a, _, h⟩ := List.mem_flatMap.1 h
        obtain ⟨b, _, rfl⟩ := List.mem_map.1 h
        exact addT_good.1
    · have : ∀ l : List TRow, (l.flatMap fun a => (upW v rows).map (sumW a)).length = l.length * (upW v rows).length := by
        intro l
        induction l with
        | nil => simp
        | cons a l ih => rw [List.flatMap_cons, List.length_append, ih, List.length_map, List.length_cons, Nat.add_mul]; omega
      rw [List.length_append, this]; exact hc.1.2
  · cases h
end Go.E
end
section
set_option linter.all false
set_option maxRecDepth 10000
namespace Go.E
open Go Go.Proofs Go.Eng
def better (low : Bool) (y best : TRat) : Bool := if low then decide (0 < cmpR y best) else decide (cmpR y best < 0)
def sgnR (low : Bool) (x : TRat) : TRat := if low then neg x else x
def edgeL (at' : List TRat) (low : Bool) : List TRow → Bool → TRat → Option TRat
  | [], _, best => some best
  | r :: rs, first, best => if (valT r.f1 at').2 = 0 then edgeL at' low rs false (if first || better low (sgnR low (valT r.f1 at').1) best then sgnR low (valT r.f1 at').1 else best) else none
def inR (l : List TRat) : Prop := ∀ r ∈ l, in64R r
theorem sgn_in {low : Bool} {x : TRat} (h : in64R x) : in64R (sgnR low x) := by
  unfold sgnR; split
  · exact neg_in h
  · exact h
theorem edge_over {rows : List TRow} {l : List TRat} {low : Bool} (hr : inW rows) (hl : inR l) (hn : l.length ≤ 1000) (best : TRat) (hb : in64R best) : ∃ x c, m_bound_engine_edge ⟨true⟩ rows l low = some (x, c, ⟨true⟩, l) ∧ in64R x := by
  unfold m_bound_engine_edge
  dsimp only
  cases rows with
  | nil =>
    rw [loopO_inr (x := .inl (true, 0, 0))]
    · exact ⟨_, _, rfl, z64⟩
    · unfold m_bound_engine_edge_L0
      dsimp only
      rw [decide_eq_false (by simp)]; rfl
  | cons r rs =>
    rw [loopO_inr (x := .inr (⟨0, 0⟩, true, ⟨true⟩, l))]
    · exact ⟨_, _, rfl, z64⟩
    · unfold m_bound_engine_edge_L0
      dsimp only
      rw [decide_eq_true (by simp), ifB_true, show ((0 : Int)) = ((0 : Nat) : Int) from rfl, gi_of (by simp)]
      have := valE (hr r (by simp)) hl hn
      simp only [some_bind', List.getElem_cons_zero, this, ratE, Bool.true_or, ifB_true]
theorem edge_loop {rows : List TRow} {l : List TRat} {low : Bool} (hr : inW rows) (hl : inR l) (hn : l.length ≤ 1000) (hrl : rows.length ≤ 1000) : ∀ (k i : Nat) (best : TRat), i + k = rows.length → in64R best →
    (match edgeL l low (rows.drop i) (decide (i = 0)) best with
      | some x => in64R x ∧ loopO (m_bound_engine_edge_L0 rows l low) ((i : Int), false, best.f0, best.f1) = some (.inl (false, x.f0, x.f1))
      | none => ∃ x, in64R x ∧ loopO (m_bound_engine_edge_L0 rows l low) ((i : Int), false, best.f0, best.f1) = some (.inr (x, true, ⟨true⟩, l))) := by
  intro k
  induction k with
  | zero =>
    intro i best hi hb
    rw [List.drop_of_length_le (by omega)]
    refine ⟨hb, loopO_inr ?_⟩
    unfold m_bound_engine_edge_L0
    dsimp only
    rw [decide_eq_false (by omega)]; rfl
  | succ k ih =>
    intro i best hi hb
    have hlt : i < rows.length := by omega
    have hin := hr _ (List.getElem_mem hlt)
    have hv := valE hin hl hn
    have hvi : in64R (valT rows[i].f1 l).1 := valT_in hin
    rw [List.drop_eq_getElem_cons hlt]
    have e : m_bound_engine_edge_L0 rows l low ((i : Int), false, best.f0, best.f1) = if (valT rows[i].f1 l).2 = 0 then some (.inl (((i + 1 : Nat) : Int), false, (if decide (i = 0) || better low (sgnR low (valT rows[i].f1 l).1) best then sgnR low (valT rows[i].f1 l).1 else best).f0, (if decide (i = 0) || better low (sgnR low (valT rows[i].f1 l).1) best then sgnR low (valT rows[i].f1 l).1 else best).f1)) else some (.inr (.inr (best, true, ⟨true⟩, l))) := by
      unfold m_bound_engine_edge_L0
      dsimp only
      rw [decide_eq_true (show (i : Int) < (rows.length : Int) by omega), ifB_true, gi_of hlt]
      simp only [some_bind', hv, ratE, Bool.false_or]
      by_cases hz : (valT rows[i].f1 l).2 = 0
      · rw [if_pos hz, decide_eq_true hz]
        simp only [Bool.not_true, ifB_false]
        have es : (ifB low (some (IntKind.wrap .i64 (0 - (valT rows[i].f1 l).1.f0))) (some (valT rows[i].f1 l).1.f0) : Option Int) = some (sgnR low (valT rows[i].f1 l).1).f0 := by
          unfold sgnR; cases low <;> rfl
        have e1 : (sgnR low (valT rows[i].f1 l).1).f1 = (valT rows[i].f1 l).1.f1 := by unfold sgnR; cases low <;> rfl
        rw [es]
        simp only [some_bind']
        rw [← e1]
        have ec := cmpE (a := ⟨(sgnR low (valT rows[i].f1 l).1).f0, (sgnR low (valT rows[i].f1 l).1).f1⟩) (b := ⟨best.f0, best.f1⟩) (sgn_in hvi) hb
        rw [ec]
        simp only [some_bind']
        have ei : decide ((i : Int) = 0) = decide (i = 0) := decide_eq_decide.2 (by omega)
        rw [ei, wrap_succ (by omega)]
        have eb : (ifB (decide (i = 0)) (some true) (ifB low (ifB (decide (0 < cmpR ⟨(sgnR low (valT rows[i].f1 l).1).f0, (sgnR low (valT rows[i].f1 l).1).f1⟩ ⟨best.f0, best.f1⟩)) (some true) (some false)) (some (decide (cmpR ⟨(sgnR low (valT rows[i].f1 l).1).f0, (sgnR low (valT rows[i].f1 l).1).f1⟩ ⟨best.f0, best.f1⟩ < 0)))) : Option Bool) = some (decide (i = 0) || better low (sgnR low (valT rows[i].f1 l).1) best) := by
          unfold better
          show (ifB (decide (i = 0)) (some true) (ifB low (ifB (decide (0 < cmpR (sgnR low (valT rows[i].f1 l).1) best)) (some true) (some false)) (some (decide (cmpR (sgnR low (valT rows[i].f1 l).1) best < 0)))) : Option Bool) = _
          cases decide (i = 0) with
          | true => rfl
          | false =>
            cases low with
            | true => cases decide (0 < cmpR (sgnR true (valT rows[i].f1 l).1) best) <;> rfl
            | false => rfl
        rw [eb]
        simp only [some_bind']
        cases decide (i = 0) || better low (sgnR low (valT rows[i].f1 l).1) best <;> rfl
      · rw [if_neg hz, decide_eq_false hz]; rfl
    unfold edgeL
    by_cases hz : (valT rows[i].f1 l).2 = 0
    · rw [if_pos hz] at e ⊢
      rw [loopO_inl e]
      have := ih (i + 1) (if decide (i = 0) || better low (sgnR low (valT rows[i].f1 l).1) best then sgnR low (valT rows[i].f1 l).1 else best) (by omega) (by split; exact sgn_in hvi; exact hb)
      rw [decide_eq_false (show ¬ i + 1 = 0 by omega)] at this
      exact this
    · rw [if_neg hz] at e ⊢
      rw [loopO_inr e]
      exact ⟨best, hb, rfl⟩
def edgeP (rows : List TRow) (at' : List TRat) (low : Bool) : Option TRat := edgeL at' low rows true ⟨0, 0⟩
theorem edgeE {rows : List TRow} {l : List TRat} {low : Bool} (hr : inW rows) (hl : inR l) (hn : l.length ≤ 1000) (hrl : rows.length ≤ 1000) :
    (match edgeP rows l low with
      | some x => in64R x ∧ m_bound_engine_edge ⟨false⟩ rows l low = some (x, !rows.isEmpty, ⟨false⟩, l)
      | none => ∃ x c, in64R x ∧ m_bound_engine_edge ⟨false⟩ rows l low = some (x, c, ⟨true⟩, l)) := by
  have := edge_loop (low := low) hr hl hn hrl rows.length 0 ⟨0, 0⟩ (by omega) z64
  rw [List.drop_zero, decide_eq_true rfl] at this
  unfold edgeP m_bound_engine_edge
  dsimp only
  have ee : decide (0 < (rows.length : Int)) = !rows.isEmpty := by cases rows <;> simp
  split at this
  · rename_i x hx
    refine ⟨this.1, ?_⟩
    rw [show loopO (m_bound_engine_edge_L0 rows l low) (0, false, 0, 0) = _ from this.2]
    simp only [some_bind']
    rw [ee]
  · rename_i hx
    obtain ⟨x, h1, h2⟩ := this
    refine ⟨x, true, h1, ?_⟩
    rw [show loopO (m_bound_engine_edge_L0 rows l low) (0, false, 0, 0) = _ from h2]; rfl
def ok1 (x : TRat × Int) : Option TRat := if x.2 = 0 then some x.1 else none
def chooseP (s : TBound_stage) (at' : List TRat) : Option TRat :=
  match edgeP s.f0 at' true, edgeP s.f1 at' false with
  | some lo, some hi => if s.f0.isEmpty && s.f1.isEmpty then some ⟨0, 1⟩ else if s.f1.isEmpty then ok1 (addR lo ⟨1, 1⟩) else if s.f0.isEmpty then ok1 (subR hi ⟨1, 1⟩) else (match ok1 (addR lo hi) with | some x => ok1 (mulR x ⟨1, 2⟩) | none => none)
  | _, _ => none
theorem half64 : in64R ⟨1, 2⟩ := by decide
theorem chooseE {s : TBound_stage} {l : List TRat} (h0 : inW s.f0) (h1 : inW s.f1) (hl : inR l) (hn : l.length ≤ 1000) (n0 : s.f0.length ≤ 1000) (n1 : s.f1.length ≤ 1000) :
    ∃ x o, m_bound_engine_choose ⟨false⟩ s l = some (x, ⟨o⟩, l) ∧ in64R x ∧ (match chooseP s l with | some y => o = false ∧ x = y | none => o = true) := by
  unfold m_bound_engine_choose chooseP
  have a := edgeE (low := true) h0 hl hn n0
  have b := edgeE (low := false) h1 hl hn n1
  cases ha : edgeP s.f0 l true with
  | none =>
    rw [ha] at a
    obtain ⟨x, c, i1, e1⟩ := a
    obtain ⟨y, c', e2, i2⟩ := edge_over (low := false) h1 hl hn ⟨0, 0⟩ z64
    rw [e1]
    simp only [some_bind', e2, ifB_true]
    exact ⟨_, _, rfl, n64, rfl⟩
  | some lo =>
    rw [ha] at a
    obtain ⟨i1, e1⟩ := a
    rw [e1]
    simp only [some_bind']
    cases hb : edgeP s.f1 l false with
    | none =>
      rw [hb] at b
      obtain ⟨y, c, i2, e2⟩ := b
      rw [e2]
      simp only [some_bind', ifB_true]
      exact ⟨_, _, rfl, n64, rfl⟩
    | some hi =>
      rw [hb] at b
      obtain ⟨i2, e2⟩ := b
      rw [e2]
      simp only [some_bind', ifB_false]
      have fin : ∀ (x : TRat × Int), in64R x.1 → ∃ y o, (some (x.1, (⟨!decide (x.2 = 0)⟩ : TBound_engine), l) : Option (TRat × TBound_engine × List TRat)) = some (y, ⟨o⟩, l) ∧ in64R y ∧ (match ok1 x with | some z => o = false ∧ y = z | none => o = true) := fun x hx => by
        refine ⟨x.1, !decide (x.2 = 0), rfl, hx, ?_⟩
        unfold ok1
        split
        · rename_i h; split at h
          · rename_i hz; cases h; rw [decide_eq_true hz]; exact ⟨rfl, rfl⟩
          · cases h
        · rename_i h; split at h
          · cases h
          · rename_i hz; rw [decide_eq_false hz]; rfl
      cases f0 : s.f0.isEmpty with
      | true =>
        cases f1 : s.f1.isEmpty with
        | true => exact ⟨_, _, rfl, n64, rfl, rfl⟩
        | false =>
          simp only [Bool.not_true, Bool.not_false, ifB_true, ifB_false, some_bind', subE i2 one64, ratE, Bool.false_or, Bool.and_false, Bool.false_eq_true, if_false, if_true]
          exact fin _ (sub_good _ _).1
      | false =>
        cases f1 : s.f1.isEmpty with
        | true =>
          simp only [Bool.not_true, Bool.not_false, ifB_true, ifB_false, some_bind', aR i1 one64, ratE, Bool.false_or, Bool.and_true, Bool.false_eq_true, if_false, if_true]
          exact fin _ (add_good _ _).1
        | false =>
          simp only [Bool.not_true, Bool.not_false, ifB_true, ifB_false, some_bind', aR i1 i2, ratE, Bool.false_or, Bool.and_self, Bool.false_eq_true, if_false, if_true]
          by_cases hz : (addR lo hi).2 = 0
          · have : ok1 (addR lo hi) = some (addR lo hi).1 := by unfold ok1; rw [if_pos hz]
            rw [this, decide_eq_true hz]
            simp only [Bool.not_true, ifB_false, mR (add_good lo hi).1 half64, some_bind', ratE, Bool.false_or]
            exact fin _ (mul_good _ _).1
          · have : ok1 (addR lo hi) = none := by unfold ok1; rw [if_neg hz]
            rw [this, decide_eq_false hz]
            exact ⟨_, _, rfl, (add_good lo hi).1, rfl⟩
end Go.E
end
section
set_option linter.all false
set_option maxRecDepth 10000
namespace Go.E
open Go Go.Proofs Go.Eng
def stAt (st : List TBound_stage) (k : Nat) : TBound_stage := (st[k]?).getD ⟨[], []⟩
def inSt (st : List TBound_stage) : Prop := ∀ s ∈ st, inW s.f0 ∧ inW s.f1 ∧ s.f0.length ≤ 1000 ∧ s.f1.length ≤ 1000
def witV (piv : List Int) (st : List TBound_stage) : Nat → List TRat → Option (List TRat)
  | 0, l => some l
  | k + 1, l => if piv.any (fun y => decide ((k : Int) = y)) then witV piv st k l else match chooseP (stAt st k) l with
    | some x => witV piv st k (l.set k x)
    | none => none
theorem inR_set {l : List TRat} {k : Nat} {x : TRat} (h : inR l) (hx : in64R x) : inR (l.set k x) := fun r hr => by
  rcases List.mem_or_eq_of_mem_set hr with hr | rfl
  · exact h r hr
  · exact hx
theorem wit_over0 {piv : List Int} {st : List TBound_stage} {i : Int} {l : List TRat} : loopO (m_bound_engine_witness_L0 piv st) (i, true, l) = some (true, l) := by
  refine loopO_inr ?_
  unfold m_bound_engine_witness_L0
  dsimp only
  cases decide (0 ≤ i) <;> rfl
theorem wit_loop0 {piv : List Int} {st : List TBound_stage} (hp : piv.length ≤ 1000) (hst : inSt st) (hs8 : st.length = 8) : ∀ (k : Nat) (l : List TRat), k ≤ 8 → inR l → l.length = 8 →
    ∃ o l', loopO (m_bound_engine_witness_L0 piv st) ((k : Int) - 1, false, l) = some (o, l') ∧ inR l' ∧ l'.length = 8 ∧ (match witV piv st k l with | some l1 => o = false ∧ l' = l1 | none => o = true) := by
  intro k
  induction k with
  | zero =>
    intro l _ hl h8
    refine ⟨false, l, loopO_inr ?_, hl, h8, rfl, rfl⟩
    unfold m_bound_engine_witness_L0
    dsimp only
    rw [decide_eq_false (by omega)]; rfl
  | succ k ih =>
    intro l hk hl h8
    have ek : ((k + 1 : Nat) : Int) - 1 = (k : Int) := by omega
    rw [ek]
    have hks : k < st.length := by omega
    have hmem : stAt st k ∈ st := by unfold stAt; rw [List.getElem?_eq_getElem hks]; exact List.getElem_mem hks
    obtain ⟨s0, s1, s2, s3⟩ := hst _ hmem
    have eg : gi st (k : Int) = some (stAt st k) := by rw [gi_of hks]; unfold stAt; rw [List.getElem?_eq_getElem hks]; rfl
    obtain ⟨x, o, e1, e2, e3⟩ := chooseE (s := stAt st k) s0 s1 hl (by omega) s2 s3
    have ew : IntKind.wrap .i64 ((k : Int) - 1) = (k : Int) - 1 := by rw [wrap_i64 (by omega) (by omega)]
    unfold witV
    cases hc : piv.any fun y => decide ((k : Int) = y) with
    | true =>
      have hb : m_bound_engine_witness_L0 piv st ((k : Int), false, l) = some (.inl ((k : Int) - 1, false, l)) := by
        unfold m_bound_engine_witness_L0
        dsimp only
        rw [decide_eq_true (by omega)]
        simp only [ifB_true, some_bind', idxI hp, hc, Bool.not_false, Bool.not_true, ifB_false, ew]
      rw [loopO_inl hb, if_pos rfl]
      exact ih l (by omega) hl h8
    | false =>
      have hb : m_bound_engine_witness_L0 piv st ((k : Int), false, l) = some (.inl ((k : Int) - 1, o, l.set k x)) := by
        unfold m_bound_engine_witness_L0
        dsimp only
        rw [decide_eq_true (show (0 : Int) ≤ (k : Int) by omega)]
        simp only [ifB_true, some_bind', idxI hp, hc, Bool.not_false, eg, e1]
        rw [rq_true rfl, rq_true (decide_eq_true (show (k : Int) < (l.length : Int) by omega)), gi_of (by omega)]
        simp only [some_bind', ew, Int.toNat_natCast]
      rw [loopO_inl hb, if_neg (by decide)]
      cases hy : chooseP (stAt st k) l with
      | some y =>
        rw [hy] at e3
        obtain ⟨rfl, rfl⟩ := e3
        exact ih (l.set k x) (by omega) (inR_set (k := k) hl e2) (by rw [List.length_set]; exact h8)
      | none =>
        rw [hy] at e3
        subst e3
        exact ⟨true, l.set k x, wit_over0, inR_set (k := k) hl e2, by rw [List.length_set]; exact h8, rfl⟩
def witU : List Row → List TRat → Option (List TRat)
  | [], l => some l
  | r :: U, l => if (valT r.f0 l).2 = 0 then witU U (l.set r.f1.toNat (neg (valT r.f0 l).1)) else none
theorem wit_loop1 {U : List Row} (hU : GoodU U) : ∀ (k i : Nat) (l : List TRat), i + k = U.length → inR l → l.length = 8 →
    ∃ o l', loopO (m_bound_engine_witness_L1 (U.map fun x => x.f0) (U.map fun x => x.f1)) ((i : Int), false, l) = some (o, l') ∧ inR l' ∧ l'.length = 8 ∧ (match witU (U.drop i) l with | some l1 => o = false ∧ l' = l1 | none => o = true) := by
  have hUl := hU.l
  intro k
  induction k with
  | zero =>
    intro i l hi hl h8
    rw [List.drop_of_length_le (by omega)]
    refine ⟨false, l, loopO_inr ?_, hl, h8, rfl, rfl⟩
    unfold m_bound_engine_witness_L1
    dsimp only
    rw [List.length_map, decide_eq_false (by omega)]; rfl
  | succ k ih =>
    intro i l hi hl h8
    have hlt : i < U.length := by omega
    have hin := hU.t _ (List.getElem_mem hlt)
    have hv := hU.v _ (List.getElem_mem hlt)
    have e : U[i].f1 = ((U[i].f1.toNat : Nat) : Int) := by omega
    have hvi : in64R (valT U[i].f0 l).1 := valT_in hin
    rw [List.drop_eq_getElem_cons hlt]
    unfold witU
    have hb : m_bound_engine_witness_L1 (U.map fun x => x.f0) (U.map fun x => x.f1) ((i : Int), false, l) = some (.inl (((i + 1 : Nat) : Int), !decide ((valT U[i].f0 l).2 = 0), l.set U[i].f1.toNat (neg (valT U[i].f0 l).1))) := by
      unfold m_bound_engine_witness_L1
      dsimp only
      rw [List.length_map, decide_eq_true (show (i : Int) < (U.length : Int) by omega), ifB_true, gi_of (by rw [List.length_map]; exact hlt), gi_of (by rw [List.length_map]; exact hlt), List.getElem_map, List.getElem_map]
      simp only [some_bind', ifB_false, valE hin hl (by omega), ratE, Bool.false_or]
      rw [rq_true (decide_eq_true hv.1), rq_true (decide_eq_true (show U[i].f1 < (l.length : Int) by omega)), e, gi_of (by omega), wrap_succ (by omega)]
      rfl
    rw [loopO_inl hb]
    by_cases hz : (valT U[i].f0 l).2 = 0
    · rw [if_pos hz, decide_eq_true hz]
      exact ih (i + 1) _ (by omega) (inR_set (k := U[i].f1.toNat) hl (neg_in hvi)) (by rw [List.length_set]; exact h8)
    · rw [if_neg hz, decide_eq_false hz]
      by_cases hend : i + 1 < U.length
      · refine ⟨true, _, loopO_inr ?_, inR_set (k := U[i].f1.toNat) hl (neg_in hvi), by rw [List.length_set]; exact h8, rfl⟩
        unfold m_bound_engine_witness_L1
        dsimp only
        rw [List.length_map, decide_eq_true (by omega), ifB_true, gi_of (by rw [List.length_map]; exact hend)]
        rfl
      · refine ⟨true, _, loopO_inr ?_, inR_set (k := U[i].f1.toNat) hl (neg_in hvi), by rw [List.length_set]; exact h8, rfl⟩
        unfold m_bound_engine_witness_L1
        dsimp only
        rw [List.length_map, decide_eq_false (by omega)]; rfl
def witB (U : List Row) (st : List TBound_stage) : Option (List TRat) := match witV (U.map fun x => x.f1) st 8 (List.replicate 8 ⟨0, 1⟩) with
  | some l => witU U l
  | none => none
theorem witE {U : List Row} {st : List TBound_stage} (hU : GoodU U) (hst : inSt st) (hs8 : st.length = 8) : ∃ l o, m_bound_engine_witness ⟨false⟩ st (U.map fun x => x.f0) (U.map fun x => x.f1) = some (l, ⟨o⟩) ∧ (match witB U st with | some l1 => o = false ∧ l = l1 | none => o = true) := by
  have hUl := hU.l
  unfold m_bound_engine_witness m_slices_Repeat_api_Rat
  rw [rq_true (decide_eq_true rfl)]
  simp only [some_bind']
  have r0 : inR (List.replicate 8 (⟨0, 1⟩ : TRat)) := fun r hr => by rw [List.eq_of_mem_replicate hr]; exact n64
  obtain ⟨o, l', e1, e2, e3, e4⟩ := wit_loop0 (piv := U.map fun x => x.f1) (by rw [List.length_map]; omega) hst hs8 8 (List.replicate 8 ⟨0, 1⟩) (Nat.le_refl _) r0 (by simp)
  rw [show ((7 : Int)) = ((8 : Nat) : Int) - 1 from rfl, e1]
  simp only [some_bind']
  unfold witB
  cases hw : witV (U.map fun x => x.f1) st 8 (List.replicate 8 ⟨0, 1⟩) with
  | none =>
    rw [hw] at e4
    subst e4
    by_cases h0 : 0 < U.length
    · rw [loopO_inr (x := (true, l'))]
      · exact ⟨_, _, rfl, rfl⟩
      · unfold m_bound_engine_witness_L1
        dsimp only
        rw [List.length_map, decide_eq_true (by omega), ifB_true, show ((0 : Int)) = ((0 : Nat) : Int) from rfl, gi_of (by rw [List.length_map]; exact h0)]
        rfl
    · rw [loopO_inr (x := (true, l'))]
      · exact ⟨_, _, rfl, rfl⟩
      · unfold m_bound_engine_witness_L1
        dsimp only
        rw [List.length_map, decide_eq_false (by omega)]; rfl
  | some l1 =>
    rw [hw] at e4
    obtain ⟨rfl, rfl⟩ := e4
    obtain ⟨o, l'', f1, f2, f3, f4⟩ := wit_loop1 hU U.length 0 l' (by omega) e2 e3
    rw [show ((0 : Int)) = ((0 : Nat) : Int) from rfl, f1]
    rw [List.drop_zero] at f4
    exact ⟨l'', o, rfl, f4⟩
def runD : Nat → Nat → List TRow → Option (List TBound_stage × List TRow)
  | 0, _, rows => some ([], rows)
  | k + 1, v, rows => match dropP rows v with
    | none => none
    | some (s, n) => match runD k (v + 1) n with
      | none => none
      | some (l, r) => some (s :: l, r)
theorem runD_over {rows : List TRow} {acc : List TBound_stage} {v : Int} : loopO m_bound_engine_solve_L2 (rows, acc, v, true) = some (rows, acc, true) := by
  refine loopO_inr ?_
  unfold m_bound_engine_solve_L2
  dsimp only
  cases decide (v < 8) <;> rfl
theorem drop_lens {rows : List TRow} {v : Nat} {s : TBound_stage} {n : List TRow} (h : dropP rows v = some (s, n)) (hl : rows.length ≤ 400) : s.f0.length ≤ 1000 ∧ s.f1.length ≤ 1000 := by
  unfold dropP at h
  split at h
  · cases h
    have h1 : (lowW v rows).length ≤ rows.length := by unfold lowW; rw [List.length_map]; exact List.length_filter_le _ _
    have h2 : (upW v rows).length ≤ rows.length := by unfold upW; rw [List.length_map]; exact List.length_filter_le _ _
    exact ⟨by dsimp only; omega, by dsimp only; omega⟩
  · cases h
theorem runD_loop : ∀ (k v : Nat) (rows : List TRow) (acc : List TBound_stage), v + k = 8 → inW rows → rows.length ≤ 400 → acc.length = v →
    ∃ fin acc' o, loopO m_bound_engine_solve_L2 (rows, acc, (v : Int), false) = some (fin, acc', o) ∧ (match runD k v rows with | some (l, r) => o = false ∧ fin = r ∧ acc' = acc ++ l ∧ inW r ∧ r.length ≤ 400 ∧ inSt l ∧ l.length = k | none => o = true) := by
  intro k
  induction k with
  | zero =>
    intro v rows acc hv hr hl ha
    refine ⟨rows, acc, false, loopO_inr ?_, rfl, rfl, by simp, hr, hl, (fun _ h => by cases h), rfl⟩
    unfold m_bound_engine_solve_L2
    dsimp only
    rw [decide_eq_false (by omega)]; rfl
  | succ k ih =>
    intro v rows acc hv hr hl ha
    obtain ⟨s, n, o, e1, e2⟩ := dropE (v := v) hr hl
    have hb : m_bound_engine_solve_L2 (rows, acc, (v : Int), false) = some (.inl (n, acc ++ [s], ((v + 1 : Nat) : Int), o)) := by
      unfold m_bound_engine_solve_L2
      dsimp only
      rw [decide_eq_true (show (v : Int) < 8 by omega)]
      simp only [ifB_true, some_bind', Bool.not_false, e1]
      rw [rq_true (decide_eq_true (by simp; omega)), wrap_succ (by omega)]
      rfl
    rw [loopO_inl hb]
    unfold runD
    cases hd : dropP rows v with
    | none =>
      rw [hd] at e2
      subst e2
      exact ⟨_, _, _, runD_over, rfl⟩
    | some p =>
      obtain ⟨s', n'⟩ := p
      rw [hd] at e2
      obtain ⟨rfl, rfl, rfl⟩ := e2
      obtain ⟨i1, i2, i3, i4⟩ := drop_in hd hr
      obtain ⟨j1, j2⟩ := drop_lens hd hl
      obtain ⟨fin, acc', o, f1, f2⟩ := ih (v + 1) n (acc ++ [s]) (by omega) i3 i4 (by simp; omega)
      refine ⟨fin, acc', o, f1, ?_⟩
      dsimp only
      cases hq : runD k (v + 1) n with
      | none => rw [hq] at f2; exact f2
      | some q =>
        obtain ⟨l, r⟩ := q
        rw [hq] at f2
        obtain ⟨g1, g2, g3, g4, g5, g6, g7⟩ := f2
        refine ⟨g1, g2, by rw [g3]; simp, g4, g5, fun x hx => ?_, by simp [g7]⟩
        rcases List.mem_cons.1 hx with rfl | hx
        · exact ⟨i1, i2, j1, j2⟩
        · exact g6 x hx
def eqsW (l : List TRow) : List TTerm := (l.filter fun r => decide (r.f0 = 0)).map fun r => r.f1
theorem eqs_loop {l : List TRow} (hl : l.length ≤ 400) : loopO (m_bound_engine_solve_L0 l) ([], 0) = some (eqsW l) := by
  have main := loopO_count (b := m_bound_engine_solve_L0 l) l.length (fun i s => s.2 = (i : Int) ∧ s.1 = eqsW (l.take i)) (fun z => z = eqsW l) ?_ ?_ (s := ([], 0)) ⟨rfl, rfl⟩
  · obtain ⟨z, hz, rfl⟩ := main; exact hz
  · rintro i ⟨acc, _⟩ hi ⟨rfl, rfl⟩
    left
    have hlen : (eqsW (l.take i)).length ≤ i := by
      unfold eqsW; rw [List.length_map]
      exact Nat.le_trans (List.length_filter_le _ _) (by rw [List.length_take]; omega)
    have tk := take_snoc hi
    unfold m_bound_engine_solve_L0
    dsimp only
    rw [decide_eq_true (show (i : Int) < (l.length : Int) by omega), ifB_true, gi_of hi, wrap_succ (by omega)]
    simp only [some_bind']
    by_cases hz : l[i].f0 = 0
    · rw [decide_eq_true hz]
      simp only [ifB_true]
      rw [rq_true (decide_eq_true (by simp; omega))]
      refine ⟨_, rfl, rfl, ?_⟩
      rw [tk]
      unfold eqsW
      rw [filter_snoc, if_pos (by simpa using hz), List.map_append]; rfl
    · rw [decide_eq_false hz]
      refine ⟨_, rfl, rfl, ?_⟩
      rw [tk]
      unfold eqsW
      rw [filter_snoc, if_neg (by simpa using hz)]
  · rintro ⟨acc, _⟩ ⟨rfl, rfl⟩
    unfold m_bound_engine_solve_L0
    dsimp only
    rw [decide_eq_false (by omega), List.take_length]
    exact ⟨_, rfl, rfl⟩
def plainL (U : List Row) : List TRow → Option (List TRow)
  | [] => some []
  | r :: rs => if r.f0 = 0 then plainL U rs else match plainT (ownT r.f1) U, plainL U rs with
    | some t, some l => some (⟨r.f0, t⟩ :: l)
    | _, _ => none
theorem plains_over {U : List Row} {l : List TRow} {st : Int} (hU : GoodU U) (hl : inW l) (hn : l.length ≤ 400) : ∀ (k i : Nat) (acc : List TRow), i + k = l.length → acc.length ≤ i →
    ∃ acc', loopO (m_bound_engine_solve_L1 l (U.map (fun x => x.f0), U.map (fun x => x.f1), st)) (acc, (i : Int), true) = some (acc', true) := by
  intro k
  induction k with
  | zero =>
    intro i acc hi ha
    refine ⟨acc, loopO_inr ?_⟩
    unfold m_bound_engine_solve_L1
    dsimp only
    rw [decide_eq_false (by omega)]; rfl
  | succ k ih =>
    intro i acc hi ha
    have hlt : i < l.length := by omega
    have hin := hl _ (List.getElem_mem hlt)
    obtain ⟨b, t', e1, e2, e3, e4⟩ := plainE hU (r := ⟨l[i].f0, ownT l[i].f1⟩) (own_in hin) true
    have e3 := e3 rfl
    subst e3
    by_cases hz : l[i].f0 = 0
    · have hb : m_bound_engine_solve_L1 l (U.map (fun x => x.f0), U.map (fun x => x.f1), st) (acc, (i : Int), true) = some (.inl (acc, ((i + 1 : Nat) : Int), true)) := by
        unfold m_bound_engine_solve_L1
        dsimp only
        rw [decide_eq_true (show (i : Int) < (l.length : Int) by omega), ifB_true, gi_of hlt, wrap_succ (by omega)]
        simp only [some_bind']
        rw [decide_eq_true hz]; rfl
      rw [loopO_inl hb]
      exact ih (i + 1) acc (by omega) (by omega)
    · have hb : m_bound_engine_solve_L1 l (U.map (fun x => x.f0), U.map (fun x => x.f1), st) (acc, (i : Int), true) = some (.inl (acc ++ [⟨l[i].f0, t'⟩], ((i + 1 : Nat) : Int), true)) := by
        unfold m_bound_engine_solve_L1
        dsimp only
        rw [decide_eq_true (show (i : Int) < (l.length : Int) by omega), ifB_true, gi_of hlt, wrap_succ (by omega)]
        simp only [some_bind']
        rw [decide_eq_false hz]
        simp only [Bool.not_false, ifB_true, ownP hin, some_bind', e1]
        rw [rq_true (decide_eq_true (by simp; omega))]; rfl
      rw [loopO_inl hb]
      exact ih (i + 1) _ (by omega) (by simp; omega)
theorem plains_loop {U : List Row} {l : List TRow} {st : Int} (hU : GoodU U) (hl : inW l) (hn : l.length ≤ 400) : ∀ (k i : Nat) (acc : List TRow), i + k = l.length → acc.length ≤ i → inW acc →
    ∃ acc' o, loopO (m_bound_engine_solve_L1 l (U.map (fun x => x.f0), U.map (fun x => x.f1), st)) (acc, (i : Int), false) = some (acc', o) ∧ (match plainL U (l.drop i) with | some r => o = false ∧ acc' = acc ++ r ∧ inW acc' ∧ acc'.length ≤ l.length | none => o = true) := by
  intro k
  induction k with
  | zero =>
    intro i acc hi ha hA
    rw [List.drop_of_length_le (by omega)]
    refine ⟨acc, false, loopO_inr ?_, rfl, by simp, hA, by omega⟩
    unfold m_bound_engine_solve_L1
    dsimp only
    rw [decide_eq_false (by omega)]; rfl
  | succ k ih =>
    intro i acc hi ha hA
    have hlt : i < l.length := by omega
    have hin := hl _ (List.getElem_mem hlt)
    rw [List.drop_eq_getElem_cons hlt]
    unfold plainL
    by_cases hz : l[i].f0 = 0
    · have hb : m_bound_engine_solve_L1 l (U.map (fun x => x.f0), U.map (fun x => x.f1), st) (acc, (i : Int), false) = some (.inl (acc, ((i + 1 : Nat) : Int), false)) := by
        unfold m_bound_engine_solve_L1
        dsimp only
        rw [decide_eq_true (show (i : Int) < (l.length : Int) by omega), ifB_true, gi_of hlt, wrap_succ (by omega)]
        simp only [some_bind']
        rw [decide_eq_true hz]; rfl
      rw [loopO_inl hb, if_pos hz]
      exact ih (i + 1) acc (by omega) (by omega) hA
    · obtain ⟨b, t', e1, e2, e3, e4⟩ := plainE hU (r := ⟨l[i].f0, ownT l[i].f1⟩) (own_in hin) false
      have e4 := e4 rfl
      dsimp only at e4
      have hb : m_bound_engine_solve_L1 l (U.map (fun x => x.f0), U.map (fun x => x.f1), st) (acc, (i : Int), false) = some (.inl (acc ++ [⟨l[i].f0, t'⟩], ((i + 1 : Nat) : Int), b)) := by
        unfold m_bound_engine_solve_L1
        dsimp only
        rw [decide_eq_true (show (i : Int) < (l.length : Int) by omega), ifB_true, gi_of hlt, wrap_succ (by omega)]
        simp only [some_bind']
        rw [decide_eq_false hz]
        simp only [Bool.not_false, ifB_true, ownP hin, some_bind', e1]
        rw [rq_true (decide_eq_true (by simp; omega))]; rfl
      rw [loopO_inl hb, if_neg hz]
      cases hp : plainT (ownT l[i].f1) U with
      | none =>
        rw [hp] at e4
        subst e4
        obtain ⟨acc', h⟩ := plains_over (st := st) hU hl hn k (i + 1) (acc ++ [⟨l[i].f0, t'⟩]) (by omega) (by simp; omega)
        exact ⟨acc', true, h, rfl⟩
      | some t1 =>
        rw [hp] at e4
        obtain ⟨rfl, rfl⟩ := e4
        obtain ⟨acc', o, h1, h2⟩ := ih (i + 1) (acc ++ [⟨l[i].f0, t'⟩]) (by omega) (by simp; omega) (inW_snoc hA e2)
        refine ⟨acc', o, h1, ?_⟩
        cases hq : plainL U (l.drop (i + 1)) with
        | none => rw [hq] at h2; exact h2
        | some r =>
          rw [hq] at h2
          exact ⟨h2.1, by rw [h2.2.1]; simp, h2.2.2⟩
end Go.E
end
section
set_option linter.all false
set_option maxRecDepth 10000
namespace Go.E
open Go Go.Proofs Go.Eng
theorem idxW {l : List TRow} {f : TRow → Option Bool} {g : TRow → Bool} (h : l.length ≤ 1000) (hf : ∀ o ∈ l, f o = some (g o)) : m_slices_ContainsFunc_api_Row l f = some (l.any g) := by
  unfold m_slices_ContainsFunc_api_Row m_slices_IndexFunc_api_Row
  rw [show ((0 : Int)) = ((0 : Nat) : Int) from rfl, loopO_first (b := m_slices_IndexFunc_api_Row_L0 l f) (fun i : Nat => (i : Int)) l.length (fun i => match l[i]? with | some o => g o | none => false) (fun i => (i : Int)) () ?_ ?_]
  · cases hq : fst l.length (fun i => match l[i]? with | some o => g o | none => false) with
    | none =>
      rw [fst_none] at hq
      have : l.any g = false := by
        rw [List.any_eq_false]
        intro x hx
        obtain ⟨i, hi, rfl⟩ := List.getElem_of_mem hx
        have := hq i hi
        rw [List.getElem?_eq_getElem hi] at this
        simpa using this
      rw [this]; rfl
    | some i =>
      obtain ⟨h1, h2⟩ := fst_some hq
      rw [List.getElem?_eq_getElem h1] at h2
      have : l.any g = true := List.any_eq_true.2 ⟨_, List.getElem_mem h1, h2⟩
      rw [this]
      simp only [some_bind']
      rw [decide_eq_true (show ((0 : Nat) : Int) ≤ (i : Int) by omega)]
  · intro i hi _
    unfold m_slices_IndexFunc_api_Row_L0
    simp only [lt_cast, decide_eq_true hi, ifB_true, gi_of hi, some_bind', hf _ (List.getElem_mem hi), List.getElem?_eq_getElem hi]
    rw [wrap_succ (by omega)]
    cases g l[i] <;> rfl
  · intro _
    unfold m_slices_IndexFunc_api_Row_L0
    simp only [lt_cast, Nat.lt_irrefl, decide_false, ifB_false]
def finalB (r : TRow) : Bool := decide (r.f1.f1.f0 < 0) || (decide (r.f0 = 2) && decide (r.f1.f1.f0 = 0))
theorem finalE {r : TRow} : m_bound_engine_solve_1 r = some (finalB r) := by
  unfold m_bound_engine_solve_1 finalB
  by_cases h : r.f1.f1.f0 < 0
  · rw [decide_eq_true h]; rfl
  · rw [decide_eq_false h]
    by_cases h2 : r.f0 = 2
    · rw [decide_eq_true h2]; simp [ifB]
    · rw [decide_eq_false h2]; rfl
def rowR (r : TRow) : Bool := decide (0 ≤ r.f0) && decide (r.f0 ≤ 2) && rt r.f1
theorem rightE {r : TRow} (h : in64T r.f1) : m_bound_right r = some (rowR r) := by
  unfold m_bound_right rowR
  rw [tR h]
  cases decide (0 ≤ r.f0) <;> cases decide (r.f0 ≤ 2) <;> rfl
def zipU (a : List TTerm) (b : List Int) : List Row := List.zipWith (fun t v => ⟨t, v⟩) a b
theorem zip_map : ∀ {U : List Row}, zipU (U.map fun x => x.f0) (U.map fun x => x.f1) = U
  | [] => rfl
  | r :: U => by
    unfold zipU
    rw [List.map_cons, List.map_cons, List.zipWith_cons_cons]
    exact congrArg (List.cons r) (zip_map (U := U))
theorem used_good {r : List Row} (h : W r 8) : GoodU (usedR r) := by
  refine ⟨fun x hx => ?_, fun x hx => ?_, ?_⟩
  · exact used_in h.g _ (List.mem_map.2 ⟨x, hx, rfl⟩)
  · unfold usedR at hx
    obtain ⟨p, hp, rfl⟩ := List.mem_map.1 hx
    obtain ⟨p1, p2, p3⟩ := pair_mem hp
    unfold key at p3
    omega
  · unfold usedR
    rw [List.length_map]
    exact pairs_len
theorem eqs_in {l : List TRow} (h : inW l) : inL (eqsW l) := fun t ht => by
  unfold eqsW at ht
  obtain ⟨r, hr, rfl⟩ := List.mem_map.1 ht
  exact h r (List.mem_filter.1 hr).1
theorem eqs_len {l : List TRow} : (eqsW l).length ≤ l.length := by
  unfold eqsW; rw [List.length_map]; exact List.length_filter_le _ _
def restB (U : List Row) (l : List TRow) : List TRat × Int := match plainL U l with
  | none => ([], 2)
  | some rows => match runD 8 0 rows with
    | none => ([], 2)
    | some (st, fin) => if fin.any finalB then ([], 1) else match witB U st with
      | some x => (x, 0)
      | none => ([], 2)
def solB (l : List TRow) : List TRat × Int :=
  if (solP (eqsW l)).2.2 = 0 then restB (zipU (solP (eqsW l)).1 (solP (eqsW l)).2.1) l else ([], (solP (eqsW l)).2.2)
theorem solve_in {l : List TRow} (h : inW l) (hl : l.length ≤ 12) : ∃ o, m_bound_engine_solve ⟨false⟩ l = some ((solB l).1, (solB l).2, ⟨o⟩) := by
  unfold m_bound_engine_solve solB
  rw [eqs_loop (by omega)]
  simp only [some_bind', solveE (eqs_in h) (Nat.le_trans eqs_len hl)]
  by_cases hz : (solP (eqsW l)).2.2 = 0
  · rw [decide_eq_true hz, if_pos hz]
    rcases sol_sem (eqs_in h) with h2 | ⟨_, ⟨h2, _⟩ | ⟨r, hw, he, _⟩⟩
    · omega
    · omega
    · rw [he]
      have hg := used_good hw
      dsimp only
      rw [zip_map]
      obtain ⟨acc, o, e1, e2⟩ := plains_loop (st := 0) hg h (by omega) l.length 0 [] (by omega) (by simp) (fun _ h => by cases h)
      rw [List.drop_zero] at e2
      rw [show ((0 : Nat) : Int) = (0 : Int) from rfl] at e1
      simp only [Bool.not_true, ifB_false]
      rw [e1]
      simp only [some_bind']
      unfold restB
      cases hp : plainL (usedR r) l with
      | none =>
        rw [hp] at e2
        subst e2
        rw [runD_over]
        exact ⟨true, rfl⟩
      | some rows =>
        rw [hp] at e2
        obtain ⟨rfl, rfl, e3, e4⟩ := e2
        obtain ⟨fin, st, o, f1, f2⟩ := runD_loop 8 0 acc [] rfl e3 (by omega) rfl
        rw [show ((0 : Nat) : Int) = (0 : Int) from rfl] at f1
        rw [f1]
        simp only [some_bind']
        cases hq : runD 8 0 acc with
        | none =>
          rw [hq] at f2
          subst f2
          exact ⟨true, rfl⟩
        | some q =>
          obtain ⟨ls, rr'⟩ := q
          rw [hq] at f2
          obtain ⟨rfl, rfl, rfl, g4, g5, g6, g7⟩ := f2
          simp only [ifB_false]
          rw [idxW (g := finalB) (by omega) fun o _ => finalE]
          simp only [some_bind']
          cases hf : fin.any finalB with
          | true => exact ⟨false, rfl⟩
          | false =>
            obtain ⟨x, o, w1, w2⟩ := witE hg g6 g7
            simp only [ifB_false, w1, some_bind']
            rw [if_neg (by decide)]
            cases hwi : witB (usedR r) st with
            | none =>
              rw [hwi] at w2
              subst w2
              exact ⟨true, rfl⟩
            | some x1 =>
              rw [hwi] at w2
              obtain ⟨rfl, rfl⟩ := w2
              exact ⟨false, rfl⟩
  · rw [decide_eq_false hz, if_neg hz]
    exact ⟨false, rfl⟩
def solA (l : List TRow) : List TRat × Int := if l.all rowR then solB l else ([], 2)
theorem boundE {l : List TRow} (h : inW l) (hl : l.length ≤ 12) : m_bound_Solve l = some (solA l) := by
  unfold m_bound_Solve solA
  rw [decide_eq_false (by omega), ifB_false, idxW (g := fun r => !rowR r) (by omega) fun o ho => by unfold m_bound_Solve_1; rw [rightE (h o ho)]; rfl]
  simp only [some_bind']
  have e : (l.any fun r => !rowR r) = !l.all rowR := by
    induction l with
    | nil => rfl
    | cons a l ih => rw [List.any_cons, List.all_cons, ih (fun x hx => h x (List.mem_cons_of_mem _ hx)) (by simp at hl; omega)]; cases rowR a <;> rfl
  rw [e]
  cases hq : l.all rowR with
  | false => rfl
  | true =>
    obtain ⟨o, hs⟩ := solve_in h hl
    simp only [Bool.not_true, ifB_false, hs, some_bind']
    rfl
end Go.E
end
section
set_option linter.all false
set_option maxRecDepth 10000
namespace Go.E
open Go Go.Proofs Go.Eng
def upd (x : Nat → Rat) (v : Nat) (y : Rat) (i : Nat) : Rat := if i = v then y else x i
theorem upd_at {x : Nat → Rat} {v : Nat} {y : Rat} : upd x v y v = y := by unfold upd; rw [if_pos rfl]
theorem upd_ne {x : Nat → Rat} {v i : Nat} {y : Rat} (h : i ≠ v) : upd x v y i = x i := by unfold upd; rw [if_neg h]
theorem Sm_upd {f x : Nat → Rat} {v : Nat} {y : Rat} : ∀ n, Sm n (fun i => f i * upd x v y i) = Sm n (fun i => f i * x i) + if v < n then f v * (y - x v) else 0
  | 0 => by rw [if_neg (by omega)]; unfold Sm; grind
  | n + 1 => by
    unfold Sm
    rw [Sm_upd n]
    dsimp only
    by_cases h : v < n
    · rw [if_pos h, if_pos (by omega), upd_ne (by omega)]; grind
    · rw [if_neg h]
      by_cases h2 : v = n
      · subst h2; rw [if_pos (by omega), upd_at]; grind
      · rw [if_neg (by omega), upd_ne (by omega)]; grind
theorem ev_upd {t : TTerm} {x : Nat → Rat} {v : Nat} {y : Rat} (h : v < 8) : ev t (upd x v y) = ev t x + V t v * (y - x v) := by
  unfold ev
  rw [Sm_upd, if_pos h]; grind
theorem ev_add {a b t : TTerm} {x : Nat → Rat} (hk : K t = K a + K b) (hv : ∀ i, V t i = V a i + V b i) : ev t x = ev a x + ev b x := by
  unfold ev
  rw [Sm_split (f := fun i => V t i * x i) (g := fun i => V a i * x i) (h := fun i => V b i * x i) fun i _ => by rw [hv i]; grind]
  rw [hk]; grind
def lo_ (p : Rat × Bool) (y : Rat) : Prop := if p.2 then p.1 < y else p.1 ≤ y
def up_ (p : Rat × Bool) (y : Rat) : Prop := if p.2 then y < p.1 else y ≤ p.1
def lt_ (p q : Rat × Bool) : Prop := if p.2 || q.2 then p.1 < q.1 else p.1 ≤ q.1
theorem top_ : ∀ (L : List (Rat × Bool)), L ≠ [] → ∃ p ∈ L, ∀ y, lo_ p y → ∀ q ∈ L, lo_ q y
  | [], h => absurd rfl h
  | [p], _ => ⟨p, List.mem_singleton.2 rfl, fun y hy q hq => by rw [List.mem_singleton] at hq; subst hq; exact hy⟩
  | p :: q :: L, _ => by
    obtain ⟨m, hm, h⟩ := top_ (q :: L) (by simp)
    by_cases hc : p.1 < m.1 ∨ (p.1 = m.1 ∧ p.2 = false)
    · refine ⟨m, List.mem_cons_of_mem _ hm, fun y hy r hr => ?_⟩
      rcases List.mem_cons.1 hr with rfl | hr
      · unfold lo_ at hy ⊢
        split at hy <;> split <;> grind
      · exact h y hy r hr
    · refine ⟨p, List.mem_cons_self, fun y hy r hr => ?_⟩
      rcases List.mem_cons.1 hr with rfl | hr
      · exact hy
      · refine h y ?_ r hr
        unfold lo_ at hy ⊢
        split at hy <;> split <;> grind
theorem bot_ : ∀ (L : List (Rat × Bool)), L ≠ [] → ∃ p ∈ L, ∀ y, up_ p y → ∀ q ∈ L, up_ q y
  | [], h => absurd rfl h
  | [p], _ => ⟨p, List.mem_singleton.2 rfl, fun y hy q hq => by rw [List.mem_singleton] at hq; subst hq; exact hy⟩
  | p :: q :: L, _ => by
    obtain ⟨m, hm, h⟩ := bot_ (q :: L) (by simp)
    by_cases hc : m.1 < p.1 ∨ (p.1 = m.1 ∧ p.2 = false)
    · refine ⟨m, List.mem_cons_of_mem _ hm, fun y hy r hr => ?_⟩
      rcases List.mem_cons.1 hr with rfl | hr
      · unfold up_ at hy ⊢
        split at hy <;> split <;> grind
      · exact h y hy r hr
    · refine ⟨p, List.mem_cons_self, fun y hy r hr => ?_⟩
      rcases List.mem_cons.1 hr with rfl | hr
      · exact hy
      · refine h y ?_ r hr
        unfold up_ at hy ⊢
        split at hy <;> split <;> grind
theorem mid_ {p q : Rat × Bool} (h : lt_ p q) : ∃ y, lo_ p y ∧ up_ q y := by
  unfold lt_ at h
  by_cases hc : p.1 < q.1
  · refine ⟨(p.1 + q.1) / 2, ?_, ?_⟩
    · unfold lo_; split <;> grind
    · unfold up_; split <;> grind
  · refine ⟨p.1, ?_, ?_⟩
    · unfold lo_; split <;> grind
    · unfold up_; split <;> grind
theorem between {L U : List (Rat × Bool)} (h : ∀ p ∈ L, ∀ q ∈ U, lt_ p q) : ∃ y, (∀ p ∈ L, lo_ p y) ∧ ∀ q ∈ U, up_ q y := by
  by_cases hL : L = []
  · subst hL
    by_cases hU : U = []
    · subst hU; exact ⟨0, (fun _ h => by cases h), (fun _ h => by cases h)⟩
    · obtain ⟨q, hq, h2⟩ := bot_ U hU
      refine ⟨q.1 - 1, (fun _ h => by cases h), h2 _ ?_⟩
      unfold up_; split <;> grind
  · obtain ⟨p, hp, h1⟩ := top_ L hL
    by_cases hU : U = []
    · subst hU
      refine ⟨p.1 + 1, h1 _ ?_, (fun _ h => by cases h)⟩
      unfold lo_; split <;> grind
    · obtain ⟨q, hq, h2⟩ := bot_ U hU
      obtain ⟨y, y1, y2⟩ := mid_ (h p hp q hq)
      exact ⟨y, h1 y y1, h2 y y2⟩
def big (op : Int) (e : Rat) : Prop := if op = 2 then 0 < e else 0 ≤ e
def holdW (r : TRow) (x : Nat → Rat) : Prop := if r.f0 = 0 then ev r.f1 x = 0 else big r.f0 (ev r.f1 x)
def allW (l : List TRow) (x : Nat → Rat) : Prop := ∀ r ∈ l, big r.f0 (ev r.f1 x)
structure Ine (l : List TRow) : Prop where
  ok : ∀ r ∈ l, Ok r.f1
  op : ∀ r ∈ l, r.f0 = 1 ∨ r.f0 = 2
theorem qv_pos {r : TRat} (hi : in64R r) (h : rr r = true) : 0 < r.f0 ↔ 0 < qv r := by
  have := q_lt (rr_right nR) n64.1 n64.2 (rr_right h) hi.1 hi.2
  have e : BallQ.q (⟨0, 1⟩ : TRat).f0 (⟨0, 1⟩ : TRat).f1 = 0 := qv_n
  rw [e] at this
  unfold qv
  rw [this]
  constructor <;> intro h <;> simpa using h
theorem qv_neg {r : TRat} (hi : in64R r) (h : rr r = true) : r.f0 < 0 ↔ qv r < 0 := by
  have := q_lt (rr_right h) hi.1 hi.2 (rr_right nR) n64.1 n64.2
  have e : BallQ.q (⟨0, 1⟩ : TRat).f0 (⟨0, 1⟩ : TRat).f1 = 0 := qv_n
  rw [e] at this
  unfold qv
  rw [this]
  constructor <;> intro h <;> simpa using h
theorem divT_q {t : TTerm} {c : TRat} (hc : in64R c) (rc : rr c = true) (h : (divT t c).2 = 0) : Ok (divT t c).1 ∧ ∃ k : Rat, 0 < k ∧ (0 < c.f0 → qv c * k = 1) ∧ (c.f0 < 0 → qv c * k = -1) ∧ K (divT t c).1 = K t * k ∧ ∀ i, V (divT t c).1 i = V t i * k := by
  unfold divT at h ⊢
  by_cases hd : (divR ⟨1, 1⟩ (absR c)).2 = 0
  · rw [if_pos hd] at h ⊢
    obtain ⟨m1, m2, m3, m4⟩ := mulT_q h
    obtain ⟨d1, d2, d3, d4⟩ := divR_q (abs_in hc) hd
    rw [qv_1] at d4
    have hq : (0 < c.f0 → qv (absR c) = qv c) ∧ (c.f0 < 0 → qv (absR c) = -qv c) := by
      constructor
      · intro hp; unfold absR; rw [if_neg (by omega)]
      · intro hn; unfold absR; rw [if_pos hn]; exact (neg_q hc rc).2
    have hz : c.f0 ≠ 0 := fun e => d3 (by
      have : absR c = c := by unfold absR; rw [if_neg (by omega)]
      rw [this]; exact (qv_zero rc).1 e)
    have hp : 0 < qv (absR c) := by
      by_cases h0 : c.f0 < 0
      · have := (qv_neg hc rc).1 h0; rw [hq.2 h0]; grind
      · have := (qv_pos hc rc).1 (by omega); rw [hq.1 (by omega)]; grind
    have hi : qv (absR c) * (qv (absR c))⁻¹ = 1 := Rat.mul_inv_cancel _ d3
    refine ⟨m2, qv (divR ⟨1, 1⟩ (absR c)).1, ?_, ?_, ?_, m3, m4⟩
    · rw [d4, Rat.one_mul]; exact Rat.inv_pos.2 hp
    · intro hp; rw [d4, ← hq.1 hp]; grind
    · intro hn; rw [d4]; have := hq.2 hn; grind
  · rw [if_neg hd] at h
    exact absurd h hd
theorem big_mul {op : Int} {e k : Rat} (hk : 0 < k) : big op (e * k) ↔ big op e := by
  unfold big
  have h1 : 0 < e → 0 < e * k := fun h => Rat.mul_pos h hk
  have h2 : 0 ≤ e → 0 ≤ e * k := fun h => Rat.mul_nonneg h (Rat.le_of_lt hk)
  have h3 : e < 0 → e * k < 0 := fun h => by
    have : 0 < -e := by grind
    have := Rat.mul_pos this hk
    grind
  split
  · constructor
    · intro h
      by_cases he : 0 < e
      · exact he
      · by_cases hz : e = 0
        · subst hz; grind
        · have := h3 (by grind); grind
    · exact h1
  · constructor
    · intro h
      by_cases he : 0 ≤ e
      · exact he
      · have := h3 (by grind); grind
    · exact h2
end Go.E
end
section
set_option linter.all false
set_option maxRecDepth 10000
namespace Go.E
open Go Go.Proofs Go.Eng
structure Gone (rows : List TRow) (v : Nat) (n : List TRow) : Prop where
  ine : Ine n
  z : ∀ r ∈ n, V r.f1 v = 0
  k : ∀ u, (∀ r ∈ rows, V r.f1 u = 0) → ∀ r ∈ n, V r.f1 u = 0
  to : ∀ x, allW rows x → allW n x
  fr : ∀ x, allW n x → ∃ y, allW rows (upd x v y)
theorem div_row {rows : List TRow} {v : Nat} (hI : Ine rows) (ho : rows.all (okW v) = true) {r : TRow} (hr : r ∈ rows) (hz : (cOf v r).f0 ≠ 0) :
    Ok (divW v r).f1 ∧ ∃ k : Rat, 0 < k ∧ (0 < (cOf v r).f0 → V (divW v r).f1 v = 1) ∧ ((cOf v r).f0 < 0 → V (divW v r).f1 v = -1) ∧ (∀ x, ev (divW v r).f1 x = ev r.f1 x * k) ∧ ∀ i, V (divW v r).f1 i = V r.f1 i * k := by
  have hok := List.all_eq_true.1 ho r hr
  unfold okW isNone at hok
  simp only [hz, decide_false, Bool.false_or, decide_eq_true_eq] at hok
  have hin := (hI.ok r hr).i
  obtain ⟨h1, k, h2, h3, h4, h5, h6⟩ := divT_q (at_in hin v) (at_rr (hI.ok r hr).r v) hok
  exact ⟨h1, k, h2, fun h => by show V (divT r.f1 (atT r.f1 v)).1 v = 1; rw [h6]; exact h3 h, fun h => by show V (divT r.f1 (atT r.f1 v)).1 v = -1; rw [h6]; exact h4 h, fun x => ev_mul h5 h6, h6⟩
theorem big_lo {op : Int} {a x y : Rat} : big op (a + 1 * (y - x)) ↔ lo_ (x - a, decide (op = 2)) y := by
  unfold big lo_
  by_cases h : op = 2
  · rw [if_pos h, decide_eq_true h, if_pos rfl]; constructor <;> intro h <;> grind
  · rw [if_neg h, decide_eq_false h, if_neg Bool.false_ne_true]; constructor <;> intro h <;> grind
theorem big_up {op : Int} {a x y : Rat} : big op (a + -1 * (y - x)) ↔ up_ (x + a, decide (op = 2)) y := by
  unfold big up_
  by_cases h : op = 2
  · rw [if_pos h, decide_eq_true h, if_pos rfl]; constructor <;> intro h <;> grind
  · rw [if_neg h, decide_eq_false h, if_neg Bool.false_ne_true]; constructor <;> intro h <;> grind
theorem big_sum {p q : Int} {a b x : Rat} (hp : p = 1 ∨ p = 2) (hq : q = 1 ∨ q = 2) : big (if p < q then q else p) (a + b) ↔ lt_ (x - a, decide (p = 2)) (x + b, decide (q = 2)) := by
  unfold big lt_
  rcases hp with rfl | rfl <;> rcases hq with rfl | rfl <;> simp <;> constructor <;> intro h <;> grind
theorem big_add {p q : Int} {a b : Rat} (hp : p = 1 ∨ p = 2) (hq : q = 1 ∨ q = 2) (h1 : big p a) (h2 : big q b) : big (if p < q then q else p) (a + b) := by
  unfold big at *
  rcases hp with rfl | rfl <;> rcases hq with rfl | rfl <;> simp at * <;> grind
theorem drop_sem {rows : List TRow} {v : Nat} {s : TBound_stage} {n : List TRow} (hv : v < 8) (hI : Ine rows) (h : dropP rows v = some (s, n)) : Gone rows v n := by
  unfold dropP at h
  by_cases hc : (rows.all (okW v) && decide ((nxW v rows).length + (lowW v rows).length * (upW v rows).length ≤ 400) && !((lowW v rows).any fun a => (upW v rows).any (badS a))) = true
  case neg => rw [if_neg hc] at h; cases h
  rw [if_pos hc] at h
  cases h
  simp only [Bool.and_eq_true, decide_eq_true_eq] at hc
  obtain ⟨⟨ho, _⟩, hs⟩ := hc
  have hlow : ∀ a ∈ lowW v rows, ∃ r ∈ rows, 0 < (cOf v r).f0 ∧ a = divW v r := fun a ha => by
    obtain ⟨r, hr, rfl⟩ := List.mem_map.1 ha
    have := List.mem_filter.1 hr
    exact ⟨r, this.1, by simpa [isLow] using this.2, rfl⟩
  have hup : ∀ a ∈ upW v rows, ∃ r ∈ rows, (cOf v r).f0 < 0 ∧ a = divW v r := fun a ha => by
    obtain ⟨r, hr, rfl⟩ := List.mem_map.1 ha
    have := List.mem_filter.1 hr
    exact ⟨r, this.1, by simpa [isUp] using this.2, rfl⟩
  have hnx : ∀ r ∈ nxW v rows, r ∈ rows ∧ (cOf v r).f0 = 0 := fun r hr => by
    have := List.mem_filter.1 hr
    exact ⟨this.1, by simpa [isNone] using this.2⟩
  have hsum : ∀ a ∈ lowW v rows, ∀ b ∈ upW v rows, (addT a.f1 b.f1).2 = 0 := fun a ha b hb => by
    have : (lowW v rows).any (fun a => (upW v rows).any (badS a)) = false := by simpa using hs
    have := List.any_eq_false.1 this a ha
    have := List.any_eq_false.1 (Bool.eq_false_iff.2 this) b hb
    simpa [badS] using this
  have hmem : ∀ r, r ∈ nxW v rows ++ ((lowW v rows).flatMap fun a => (upW v rows).map (sumW a)) → r ∈ nxW v rows ∨ ∃ a ∈ lowW v rows, ∃ b ∈ upW v rows, r = sumW a b := fun r hr => by
    rcases List.mem_append.1 hr with h | h
    · exact .inl h
    · obtain ⟨a, ha, h⟩ := List.mem_flatMap.1 h
      obtain ⟨b, hb, rfl⟩ := List.mem_map.1 h
      exact .inr ⟨a, ha, b, hb, rfl⟩
  have hz : ∀ r ∈ nxW v rows, V r.f1 v = 0 := fun r hr => by
    obtain ⟨h1, h2⟩ := hnx r hr
    exact (qv_zero (at_rr (hI.ok r h1).r v)).1 h2
  have hop : ∀ r ∈ rows, (divW v r).f0 = 1 ∨ (divW v r).f0 = 2 := fun r hr => hI.op r hr
  refine ⟨⟨fun r hr => ?_, fun r hr => ?_⟩, fun r hr => ?_, fun u hu r hr => ?_, fun x hx r hr => ?_, fun x hx => ?_⟩
  · rcases hmem r hr with h | ⟨a, ha, b, hb, rfl⟩
    · exact hI.ok r (hnx r h).1
    · exact (addT_q (hsum a ha b hb)).1
  · rcases hmem r hr with h | ⟨a, ha, b, hb, rfl⟩
    · exact hI.op r (hnx r h).1
    · obtain ⟨ra, hra, _, rfl⟩ := hlow a ha
      obtain ⟨rb, hrb, _, rfl⟩ := hup b hb
      unfold sumW
      dsimp only
      split
      · exact hop rb hrb
      · exact hop ra hra
  · rcases hmem r hr with h | ⟨a, ha, b, hb, rfl⟩
    · exact hz r h
    · have := (addT_q (hsum a ha b hb)).2.2 v
      show V (addT a.f1 b.f1).1 v = 0
      rw [this]
      obtain ⟨ra, hra, ca, rfl⟩ := hlow a ha
      obtain ⟨rb, hrb, cb, rfl⟩ := hup b hb
      obtain ⟨_, k, _, k1, _⟩ := div_row hI ho hra (by omega)
      obtain ⟨_, k', _, _, k2, _⟩ := div_row hI ho hrb (by omega)
      rw [k1 ca, k2 cb]; grind
  · rcases hmem r hr with h | ⟨a, ha, b, hb, rfl⟩
    · exact hu r (hnx r h).1
    · have := (addT_q (hsum a ha b hb)).2.2 u
      show V (addT a.f1 b.f1).1 u = 0
      rw [this]
      obtain ⟨ra, hra, ca, rfl⟩ := hlow a ha
      obtain ⟨rb, hrb, cb, rfl⟩ := hup b hb
      obtain ⟨_, k, _, _, _, _, k1⟩ := div_row hI ho hra (by omega)
      obtain ⟨_, k', _, _, _, _, k2⟩ := div_row hI ho hrb (by omega)
      rw [k1 u, k2 u, hu ra hra, hu rb hrb]; grind
  · rcases hmem r hr with h | ⟨a, ha, b, hb, rfl⟩
    · exact hx r (hnx r h).1
    · have := addT_q (hsum a ha b hb)
      show big (if a.f0 < b.f0 then b.f0 else a.f0) (ev (addT a.f1 b.f1).1 x)
      rw [ev_add this.2.1 this.2.2]
      obtain ⟨ra, hra, ca, rfl⟩ := hlow a ha
      obtain ⟨rb, hrb, cb, rfl⟩ := hup b hb
      obtain ⟨_, k, kp, _, _, k1, _⟩ := div_row hI ho hra (by omega)
      obtain ⟨_, k', kp', _, _, k2, _⟩ := div_row hI ho hrb (by omega)
      refine big_add (hop ra hra) (hop rb hrb) ?_ ?_
      · rw [k1]; exact (big_mul kp).2 (hx ra hra)
      · rw [k2]; exact (big_mul kp').2 (hx rb hrb)
  · have hbt : ∀ p ∈ (lowW v rows).map (fun a : TRow => (x v - ev a.f1 x, decide (a.f0 = 2))), ∀ q ∈ (upW v rows).map (fun b : TRow => (x v + ev b.f1 x, decide (b.f0 = 2))), lt_ p q := by
      intro p hp q hq
      obtain ⟨a, ha, rfl⟩ := List.mem_map.1 hp
      obtain ⟨b, hb, rfl⟩ := List.mem_map.1 hq
      have hn := hx (sumW a b) (List.mem_append.2 (.inr (List.mem_flatMap.2 ⟨a, ha, List.mem_map.2 ⟨b, hb, rfl⟩⟩)))
      have := addT_q (hsum a ha b hb)
      have hn : big (if a.f0 < b.f0 then b.f0 else a.f0) (ev (addT a.f1 b.f1).1 x) := hn
      rw [ev_add this.2.1 this.2.2] at hn
      obtain ⟨ra, hra, ca, rfl⟩ := hlow a ha
      obtain ⟨rb, hrb, cb, rfl⟩ := hup b hb
      exact (big_sum (hop ra hra) (hop rb hrb)).1 hn
    obtain ⟨y, y1, y2⟩ := between hbt
    refine ⟨y, fun r hr => ?_⟩
    rw [ev_upd hv]
    by_cases h0 : (cOf v r).f0 = 0
    · have hm : r ∈ nxW v rows := List.mem_filter.2 ⟨hr, by simpa [isNone] using h0⟩
      rw [hz r hm]
      have := hx r (List.mem_append.2 (.inl hm))
      have e : ev r.f1 x + 0 * (y - x v) = ev r.f1 x := by grind
      rw [e]; exact this
    · obtain ⟨_, k, kp, k1, k2, k3, k4⟩ := div_row hI ho hr h0
      by_cases hp : 0 < (cOf v r).f0
      · have hm : divW v r ∈ lowW v rows := List.mem_map.2 ⟨r, List.mem_filter.2 ⟨hr, by simpa [isLow] using hp⟩, rfl⟩
        have := y1 _ (List.mem_map.2 ⟨_, hm, rfl⟩)
        have := big_lo.2 this
        rw [← big_mul kp]
        have e : (ev r.f1 x + V r.f1 v * (y - x v)) * k = ev (divW v r).f1 x + 1 * (y - x v) := by
          rw [k3, ← k1 hp, k4]; grind
        rw [e]; exact this
      · have hm : divW v r ∈ upW v rows := List.mem_map.2 ⟨r, List.mem_filter.2 ⟨hr, by simp [isUp]; omega⟩, rfl⟩
        have := y2 _ (List.mem_map.2 ⟨_, hm, rfl⟩)
        have := big_up.2 this
        rw [← big_mul kp]
        have e : (ev r.f1 x + V r.f1 v * (y - x v)) * k = ev (divW v r).f1 x + -1 * (y - x v) := by
          rw [k3, ← k2 (by omega), k4]; grind
        rw [e]; exact this
end Go.E
end
section
set_option linter.all false
set_option maxRecDepth 10000
namespace Go.E
open Go Go.Proofs Go.Eng
theorem run_sem : ∀ (k v : Nat) (rows : List TRow) (st : List TBound_stage) (fin : List TRow), v + k = 8 → Ine rows → (∀ u, u < v → ∀ r ∈ rows, V r.f1 u = 0) → runD k v rows = some (st, fin) →
    Ine fin ∧ (∀ u, u < 8 → ∀ r ∈ fin, V r.f1 u = 0) ∧ (∀ x, allW rows x → allW fin x) ∧ ∀ x, allW fin x → ∃ x', allW rows x' := by
  intro k
  induction k with
  | zero =>
    intro v rows st fin hv hI hz h
    cases h
    obtain rfl : v = 8 := by omega
    exact ⟨hI, hz, fun _ h => h, fun x h => ⟨x, h⟩⟩
  | succ k ih =>
    intro v rows st fin hv hI hz h
    unfold runD at h
    cases hd : dropP rows v with
    | none => rw [hd] at h; cases h
    | some p =>
      obtain ⟨s, n⟩ := p
      rw [hd] at h
      dsimp only at h
      cases hq : runD k (v + 1) n with
      | none => rw [hq] at h; cases h
      | some q =>
        obtain ⟨l, r⟩ := q
        rw [hq] at h
        cases h
        have g := drop_sem (by omega) hI hd
        obtain ⟨i1, i2, i3, i4⟩ := ih (v + 1) n l fin (by omega) g.ine (fun u hu r hr => by
          by_cases he : u = v
          · subst he; exact g.z r hr
          · exact g.k u (hz u (by omega)) r hr) hq
        refine ⟨i1, i2, fun x hx => i3 x (g.to x hx), fun x hx => ?_⟩
        obtain ⟨x', hx'⟩ := i4 x hx
        obtain ⟨y, hy⟩ := g.fr x' hx'
        exact ⟨_, hy⟩
theorem fin_sem {fin : List TRow} (hI : Ine fin) (hz : ∀ u, u < 8 → ∀ r ∈ fin, V r.f1 u = 0) : (fin.any finalB = true → ∀ x, ¬ allW fin x) ∧ (fin.any finalB = false → ∀ x, allW fin x) := by
  have he : ∀ r ∈ fin, ∀ x, ev r.f1 x = qv r.f1.f1 := fun r hr x => by
    unfold ev
    rw [Sm_zero fun i hi => by rw [hz i hi r hr]; grind]
    show K r.f1 + 0 = _
    unfold K; grind
  have hb : ∀ r ∈ fin, ∀ x, big r.f0 (ev r.f1 x) ↔ finalB r = false := fun r hr x => by
    rw [he r hr x]
    have ho := hI.ok r hr
    have hr' := ho.r
    unfold rt at hr'
    simp only [Bool.and_eq_true] at hr'
    have n1 := qv_neg ho.i.k hr'.1.2
    have n2 := qv_pos ho.i.k hr'.1.2
    have n3 := qv_zero hr'.1.2
    unfold finalB big
    rcases hI.op r hr with h1 | h1 <;> rw [h1]
    · simp
      constructor
      · intro h; by_cases hh : r.f1.f1.f0 < 0
        · have := n1.1 hh; grind
        · omega
      · intro h
        by_cases hh : 0 < r.f1.f1.f0
        · have := n2.1 hh; grind
        · have := n3.1 (by omega); grind
    · simp
      constructor
      · intro h
        have := n2.2 h
        constructor
        · omega
        · omega
      · intro h
        exact n2.1 (by omega)
  constructor
  · intro h x hx
    obtain ⟨r, hr, hf⟩ := List.any_eq_true.1 h
    have := (hb r hr x).1 (hx r hr)
    rw [this] at hf; cases hf
  · intro h x r hr
    exact (hb r hr x).2 (by simpa using List.any_eq_false.1 h r hr)
theorem red_tail {r : Row} {U : List Row} (h : Red (r :: U)) : Red U :=
  ⟨(List.pairwise_cons.1 h.asc).2, fun x hx => h.ok x (List.mem_cons_of_mem _ hx), fun x hx => by
    obtain ⟨u, h1, h2, h3, h4, h5⟩ := h.pv x (List.mem_cons_of_mem _ hx)
    exact ⟨u, h1, h2, h3, h4, fun s hs => h5 s (List.mem_cons_of_mem _ hs)⟩⟩
theorem plain_sem : ∀ {U : List Row} {t t' : TTerm}, (∀ r ∈ U, 0 ≤ r.f1 ∧ in64T r.f0) → Ok t → plainT t U = some t' → Ok t' ∧ (∀ x, (∀ r ∈ U, ev r.f0 x = 0) → ev t' x = ev t x) ∧ ∀ w, V t w = 0 → (∀ r ∈ U, V r.f0 w = 0) → V t' w = 0
  | [], t, t', _, ht, h => by cases h; exact ⟨ht, fun _ _ => rfl, fun _ h _ => h⟩
  | r :: U, t, t', hU, ht, h => by
    unfold plainT at h
    have hU' : ∀ s ∈ U, 0 ≤ s.f1 ∧ in64T s.f0 := fun s hs => hU s (List.mem_cons_of_mem _ hs)
    by_cases hz : (atT t r.f1.toNat).f0 = 0
    · rw [if_pos hz] at h
      obtain ⟨a, b, c⟩ := plain_sem hU' ht h
      exact ⟨a, fun x hx => b x fun s hs => hx s (List.mem_cons_of_mem _ hs), fun w hw hs => c w hw fun s hs' => hs s (List.mem_cons_of_mem _ hs')⟩
    · rw [if_neg hz] at h
      by_cases hl : (lessT t r.f0 (atT t r.f1.toNat)).2 = 0
      · rw [if_pos hl] at h
        obtain ⟨l1, l2, l3⟩ := lessT_q (at_in ht.i _) (at_rr ht.r _) hl
        obtain ⟨a, b, c⟩ := plain_sem hU' l1 h
        refine ⟨a, fun x hx => ?_, fun w hw hs => c w ?_ fun s hs' => hs s (List.mem_cons_of_mem _ hs')⟩
        · rw [b x fun s hs => hx s (List.mem_cons_of_mem _ hs), ev_less l2 l3, hx r List.mem_cons_self]; grind
        · rw [l3 w, hw, hs r List.mem_cons_self]; grind
      · rw [if_neg hl] at h; cases h
theorem plain_piv : ∀ {U : List Row} {t t' : TTerm}, Red U → (∀ r ∈ U, in64T r.f0) → Ok t → plainT t U = some t' → ∀ r ∈ U, ∀ u : Nat, r.f1 = (u : Int) → V t' u = 0
  | [], _, _, _, _, _, _, r, hr, _, _ => by cases hr
  | r :: U, t, t', hR, hI, ht, h, r', hr', u, hu => by
    unfold plainT at h
    have hge : ∀ s ∈ U, 0 ≤ s.f1 ∧ in64T s.f0 := fun s hs => by
      obtain ⟨w, _, h2, _⟩ := hR.pv s (List.mem_cons_of_mem _ hs)
      exact ⟨by omega, hI s (List.mem_cons_of_mem _ hs)⟩
    have hI' : ∀ s ∈ U, in64T s.f0 := fun s hs => (hge s hs).2
    have hother : r.f1 = (u : Int) → (∀ s ∈ U, V s.f0 u = 0) ∧ V r.f0 u = 1 := fun e => by
      obtain ⟨w, h1, h2, h3, h4, h5⟩ := hR.pv r List.mem_cons_self
      obtain rfl : w = u := by omega
      refine ⟨fun s hs => h5 s (List.mem_cons_of_mem _ hs) ?_, h3⟩
      have := (List.pairwise_cons.1 hR.asc).1 s hs
      omega
    by_cases hz : (atT t r.f1.toNat).f0 = 0
    · rw [if_pos hz] at h
      rcases List.mem_cons.1 hr' with rfl | hm
      · refine (plain_sem hge ht h).2.2 u ?_ (hother hu).1
        rw [hu, Int.toNat_natCast] at hz
        exact (qv_zero (at_rr ht.r u)).1 hz
      · exact plain_piv (red_tail hR) hI' ht h r' hm u hu
    · rw [if_neg hz] at h
      by_cases hl : (lessT t r.f0 (atT t r.f1.toNat)).2 = 0
      · rw [if_pos hl] at h
        obtain ⟨l1, l2, l3⟩ := lessT_q (at_in ht.i _) (at_rr ht.r _) hl
        rcases List.mem_cons.1 hr' with rfl | hm
        · refine (plain_sem hge l1 h).2.2 u ?_ (hother hu).1
          rw [l3 u, (hother hu).2, hu, Int.toNat_natCast]
          show V t u - V t u * 1 = 0
          grind
        · exact plain_piv (red_tail hR) hI' l1 h r' hm u hu
      · rw [if_neg hl] at h; cases h
theorem big_hold {r : TRow} {x : Nat → Rat} (h : r.f0 ≠ 0) : holdW r x ↔ big r.f0 (ev r.f1 x) := by unfold holdW; rw [if_neg h]
theorem row_parts {r : TRow} (h : rowR r = true) : 0 ≤ r.f0 ∧ r.f0 ≤ 2 ∧ rt r.f1 = true := by
  unfold rowR at h
  simp only [Bool.and_eq_true, decide_eq_true_eq] at h
  exact ⟨h.1.1, h.1.2, h.2⟩
theorem plains_sem {U : List Row} (hR : Red U) (hI : ∀ r ∈ U, in64T r.f0) : ∀ {l rows : List TRow}, inW l → l.all rowR = true → plainL U l = some rows →
    Ine rows ∧ (∀ x, (∀ r ∈ U, ev r.f0 x = 0) → (allW rows x ↔ ∀ r ∈ l, r.f0 ≠ 0 → holdW r x)) ∧ ∀ r ∈ rows, ∀ s ∈ U, ∀ u : Nat, s.f1 = (u : Int) → V r.f1 u = 0
  | [], rows, _, _, h => by cases h; exact ⟨⟨(fun _ h => by cases h), (fun _ h => by cases h)⟩, fun x _ => ⟨(fun _ _ h => by cases h), (fun _ _ h => by cases h)⟩, (fun _ h => by cases h)⟩
  | r :: l, rows, hl, hr, h => by
    unfold plainL at h
    rw [List.all_cons, Bool.and_eq_true] at hr
    have hl' : inW l := fun s hs => hl s (List.mem_cons_of_mem _ hs)
    obtain ⟨p1, p2, p3⟩ := row_parts hr.1
    have hU : ∀ s ∈ U, 0 ≤ s.f1 ∧ in64T s.f0 := fun s hs => by
      obtain ⟨w, _, h2, _⟩ := hR.pv s hs
      exact ⟨by omega, hI s hs⟩
    by_cases hz : r.f0 = 0
    · rw [if_pos hz] at h
      obtain ⟨a, b, c⟩ := plains_sem hR hI hl' hr.2 h
      refine ⟨a, fun x hx => ?_, c⟩
      rw [b x hx]
      constructor
      · intro h2 s hs hn
        rcases List.mem_cons.1 hs with rfl | hs
        · exact absurd hz hn
        · exact h2 s hs hn
      · exact fun h2 s hs hn => h2 s (List.mem_cons_of_mem _ hs) hn
    · rw [if_neg hz] at h
      have hin := hl r List.mem_cons_self
      obtain ⟨o1, o2, o3⟩ := own_q hin p3
      cases hp : plainT (ownT r.f1) U with
      | none => rw [hp] at h; cases h
      | some t =>
        cases hq : plainL U l with
        | none => rw [hp, hq] at h; cases h
        | some rs =>
          rw [hp, hq] at h
          cases h
          obtain ⟨a, b, c⟩ := plains_sem hR hI hl' hr.2 hq
          obtain ⟨q1, q2, q3⟩ := plain_sem hU o1 hp
          refine ⟨⟨fun s hs => ?_, fun s hs => ?_⟩, fun x hx => ?_, fun s hs => ?_⟩
          · rcases List.mem_cons.1 hs with rfl | hs
            · exact q1
            · exact a.ok s hs
          · rcases List.mem_cons.1 hs with rfl | hs
            · show r.f0 = 1 ∨ r.f0 = 2
              omega
            · exact a.op s hs
          · have e : ev t x = ev r.f1 x := by rw [q2 x hx, ev_own hin p3]
            constructor
            · intro h2 s hs hn
              rcases List.mem_cons.1 hs with rfl | hs
              · rw [big_hold hn, ← e]; exact h2 ⟨s.f0, t⟩ List.mem_cons_self
              · exact (b x hx).1 (fun y hy => h2 y (List.mem_cons_of_mem _ hy)) s hs hn
            · intro h2 s hs
              rcases List.mem_cons.1 hs with rfl | hs
              · show big r.f0 (ev t x)
                rw [e, ← big_hold hz]; exact h2 r List.mem_cons_self hz
              · exact (b x hx).2 (fun y hy hn => h2 y (List.mem_cons_of_mem _ hy) hn) s hs
          · rcases List.mem_cons.1 hs with rfl | hs
            · exact fun s hs u hu => plain_piv hR hI o1 hp s hs u hu
            · exact c s hs
def satW (l : List TRow) (x : Nat → Rat) : Prop := ∀ r ∈ l, holdW r x
theorem eqs_sat {l : List TRow} {x : Nat → Rat} : (∀ t ∈ eqsW l, ev t x = 0) ↔ ∀ r ∈ l, r.f0 = 0 → holdW r x := by
  unfold eqsW
  constructor
  · intro h r hr hz
    unfold holdW; rw [if_pos hz]
    exact h _ (List.mem_map.2 ⟨r, List.mem_filter.2 ⟨hr, by simpa using hz⟩, rfl⟩)
  · intro h t ht
    obtain ⟨r, hr, rfl⟩ := List.mem_map.1 ht
    have := List.mem_filter.1 hr
    have hz : r.f0 = 0 := by simpa using this.2
    have := h r this.1 hz
    unfold holdW at this; rwa [if_pos hz] at this
theorem rest_sem {U : List Row} {l : List TRow} (hR : Red U) (hI : ∀ r ∈ U, in64T r.f0) (hl : inW l) (hr : l.all rowR = true) (he : ∀ x, (∀ t ∈ eqsW l, ev t x = 0) ↔ ∀ s ∈ U, ev s.f0 x = 0) :
    ((restB U l).2 = 1 → ∀ x, ¬ satW l x) ∧ ((restB U l).2 = 0 → ∃ x, satW l x) := by
  unfold restB
  cases hp : plainL U l with
  | none => exact ⟨(fun h => by cases h), (fun h => by cases h)⟩
  | some rows =>
    obtain ⟨a, b, c⟩ := plains_sem hR hI hl hr hp
    dsimp only
    cases hq : runD 8 0 rows with
    | none => exact ⟨(fun h => by cases h), (fun h => by cases h)⟩
    | some q =>
      obtain ⟨st, fin⟩ := q
      obtain ⟨r1, r2, r3, r4⟩ := run_sem 8 0 rows st fin rfl a (fun u hu => by omega) hq
      obtain ⟨f1, f2⟩ := fin_sem r1 r2
      dsimp only
      cases hf : fin.any finalB with
      | true =>
        refine ⟨fun _ x hx => ?_, fun h => by cases h⟩
        have hU := (he x).1 (eqs_sat.2 fun r hr _ => hx r hr)
        exact f1 hf x (r3 x ((b x hU).2 fun r hr _ => hx r hr))
      | false =>
        rw [if_neg Bool.false_ne_true]
        refine ⟨fun h => ?_, fun _ => ?_⟩
        · exfalso
          revert h
          cases witB U st with
          | none => intro h; cases h
          | some x => intro h; cases h
        · obtain ⟨y, hy⟩ := r4 (fun _ => 0) (f2 hf _)
          have hs : ∀ s ∈ U, ev s.f0 (sol U y) = 0 := fun s hs => sol_ok hR y hs
          refine ⟨sol U y, fun r hr => ?_⟩
          by_cases hz : r.f0 = 0
          · exact eqs_sat.1 ((he _).2 hs) r hr hz
          · refine (b _ hs).1 (fun s hs' => ?_) r hr hz
            have e : ev s.f1 (sol U y) = ev s.f1 y := ev_congr fun i _ => by
              unfold sol
              cases hpi : piv U i with
              | none => rfl
              | some w =>
                obtain ⟨w1, w2⟩ := piv_some hpi
                rw [c s hs' w w1 i w2]; grind
            rw [e]; exact hy s hs'
theorem solB_sem {l : List TRow} (hl : inW l) (hr : l.all rowR = true) : ((solB l).2 = 1 → ∀ x, ¬ satW l x) ∧ ((solB l).2 = 0 → ∃ x, satW l x) := by
  unfold solB
  rcases sol_sem (eqs_in hl) with h2 | ⟨_, ⟨h2, _, _, h3⟩ | ⟨r, hw, he, hR, hx⟩⟩
  · rw [if_neg (by omega), h2]; exact ⟨(fun h => by cases h), (fun h => by cases h)⟩
  · rw [if_neg (by omega), h2]
    exact ⟨fun _ x hx => h3 x (eqs_sat.2 fun r hr _ => hx r hr), fun h => by cases h⟩
  · rw [he]
    dsimp only
    rw [if_pos rfl, zip_map]
    exact rest_sem hR (used_good hw).t hl hr hx
theorem solA_sem {l : List TRow} (hl : inW l) : ((solA l).2 = 1 → ∀ x, ¬ satW l x) ∧ ((solA l).2 = 0 → ∃ x, satW l x) := by
  unfold solA
  cases hr : l.all rowR with
  | true => exact solB_sem hl hr
  | false => exact ⟨(fun h => by cases h), (fun h => by cases h)⟩
end Go.E
end
section
set_option linter.all false
set_option maxRecDepth 10000
namespace Go.E
open Go Go.Proofs Go.Eng
def smW (l : List TRow) : Bool := l.all (fun r => decide (r.f1.f0.length ≤ 12)) && decide (l.length ≤ 8)
theorem small4 {l : List TRow} (h : l.length * 48 ≤ 140737488351232) : m_law04_small l = some (smW l) := by
  unfold m_law04_small
  have main := loopO_first (b := m_law04_small_L0 l) (fun i : Nat => (i : Int)) l.length (fun i => match l[i]? with | some r => !decide (r.f1.f0.length ≤ 12) | none => false) (fun _ => false) () ?_ ?_
  · rw [show ((0 : Int)) = ((0 : Nat) : Int) from rfl, main]
    unfold smW
    cases hq : fst l.length (fun i => match l[i]? with | some r => !decide (r.f1.f0.length ≤ 12) | none => false) with
    | some i =>
      obtain ⟨h1, h2⟩ := fst_some hq
      rw [List.getElem?_eq_getElem h1] at h2
      have : l.all (fun r => decide (r.f1.f0.length ≤ 12)) = false := List.all_eq_false.2 ⟨l[i], List.getElem_mem h1, by simpa using h2⟩
      rw [this]; rfl
    | none =>
      have hn := fst_none.1 hq
      have : l.all (fun r => decide (r.f1.f0.length ≤ 12)) = true := by
        rw [List.all_eq_true]
        intro x hx
        obtain ⟨i, hi, rfl⟩ := List.getElem_of_mem hx
        have := hn i hi
        rw [List.getElem?_eq_getElem hi] at this
        simpa using this
      rw [this, Bool.true_and]
      simp only [some_bind']
      rw [show decide ((l.length : Int) ≤ 8) = decide (l.length ≤ 8) from decide_eq_decide.2 (by omega)]
  · intro i hi _
    unfold m_law04_small_L0 m_ref02_Small
    dsimp only
    rw [decide_eq_true (show (i : Int) < (l.length : Int) by omega), ifB_true, gi_of hi, wrap_succ (by omega), List.getElem?_eq_getElem hi]
    simp only [some_bind']
    rw [show decide ((l[i].f1.f0.length : Int) ≤ 12) = decide (l[i].f1.f0.length ≤ 12) from decide_eq_decide.2 (by omega)]
    show _ = some (if (!decide (l[i].f1.f0.length ≤ 12)) = true then _ else _)
    cases decide (l[i].f1.f0.length ≤ 12) <;> rfl
  · intro _
    unfold m_law04_small_L0
    dsimp only
    rw [decide_eq_false (by omega)]; rfl
theorem okT4 {t : TTerm} (h : okTTerm t) (hs : t.f0.length ≤ 12) : in64T t := by
  obtain ⟨⟨_, h1⟩, h2, _⟩ := h
  exact ⟨okR h2, fun r hr => okR (h1 r hr), by omega⟩
theorem small_in4 {l : List TRow} (h : l.length * 48 ≤ 140737488351232 ∧ ∀ z ∈ l, okTRow z) (hs : smW l = true) : inW l ∧ l.length ≤ 8 := by
  unfold smW at hs
  simp only [Bool.and_eq_true, List.all_eq_true, decide_eq_true_eq] at hs
  refine ⟨fun r hr => ?_, hs.2⟩
  obtain ⟨_, h1, _⟩ := h.2 r hr
  exact okT4 h1 (hs.1 r hr)
def failB (x : List TRat) (r : TRow) : Bool := !rowR r || (!decide ((valT r.f1 x).2 = 0) || (decide ((valT r.f1 x).1.f0 < 0) || ((decide (r.f0 = 0) && !decide ((valT r.f1 x).1.f0 = 0)) || (decide (r.f0 = 2) && decide ((valT r.f1 x).1.f0 = 0)))))
theorem holdsE {l : List TRow} {x : List TRat} (hl : inW l) (hn : l.length ≤ 1000) (hx : inR x) (hx8 : x.length ≤ 1000) : m_bound_Holds l x = some (!l.any (failB x)) := by
  unfold m_bound_Holds
  have main := loopO_first (b := m_bound_Holds_L0 l x) (fun i : Nat => (i : Int)) l.length (fun i => match l[i]? with | some r => failB x r | none => false) (fun _ => false) () ?_ ?_
  · rw [show ((0 : Int)) = ((0 : Nat) : Int) from rfl, main]
    cases hq : fst l.length (fun i => match l[i]? with | some r => failB x r | none => false) with
    | some i =>
      obtain ⟨h1, h2⟩ := fst_some hq
      rw [List.getElem?_eq_getElem h1] at h2
      have : l.any (failB x) = true := List.any_eq_true.2 ⟨l[i], List.getElem_mem h1, h2⟩
      rw [this]; rfl
    | none =>
      have hn := fst_none.1 hq
      have : l.any (failB x) = false := by
        rw [List.any_eq_false]
        intro r hr
        obtain ⟨i, hi, rfl⟩ := List.getElem_of_mem hr
        have := hn i hi
        rw [List.getElem?_eq_getElem hi] at this
        simpa using this
      rw [this]; rfl
  · intro i hi _
    have hin := hl _ (List.getElem_mem hi)
    unfold m_bound_Holds_L0
    dsimp only
    rw [decide_eq_true (show (i : Int) < (l.length : Int) by omega), ifB_true, gi_of hi, wrap_succ (by omega), List.getElem?_eq_getElem hi]
    simp only [some_bind', valE hin hx hx8, rightE hin]
    show _ = some (if failB x l[i] = true then _ else _)
    unfold failB
    generalize l[i] = r
    cases rowR r
    · rfl
    · cases decide ((valT r.f1 x).2 = 0)
      · rfl
      · cases decide ((valT r.f1 x).1.f0 < 0)
        · by_cases h0 : r.f0 = 0
          · rw [decide_eq_true h0, decide_eq_false (show ¬ r.f0 = 2 by omega)]
            cases decide ((valT r.f1 x).1.f0 = 0) <;> rfl
          · rw [decide_eq_false h0]
            cases decide (r.f0 = 2) <;> cases decide ((valT r.f1 x).1.f0 = 0) <;> rfl
        · rfl
  · intro _
    unfold m_bound_Holds_L0
    dsimp only
    rw [decide_eq_false (by omega)]; rfl
abbrev b1 : List TRow := [⟨2, ⟨[⟨1, 1⟩], ⟨0, 1⟩⟩⟩, ⟨1, ⟨[⟨-1, 1⟩], ⟨1, 1⟩⟩⟩]
abbrev b2 : List TRow := [⟨2, ⟨[⟨1, 1⟩], ⟨0, 1⟩⟩⟩, ⟨1, ⟨[⟨-1, 1⟩], ⟨0, 1⟩⟩⟩]
theorem b1_in : inW b1 := fun t ht => by
  simp only [List.mem_cons, List.not_mem_nil, or_false] at ht
  rcases ht with rfl | rfl <;> exact in64T_of (by decide +kernel)
theorem b2_in : inW b2 := fun t ht => by
  simp only [List.mem_cons, List.not_mem_nil, or_false] at ht
  rcases ht with rfl | rfl <;> exact in64T_of (by decide +kernel)
theorem awake4 : m_law04_awake = some true := by
  unfold m_law04_awake
  rw [show ([(⟨2, (⟨[(⟨1, 1⟩ : TRat)], (⟨0, 1⟩ : TRat)⟩ : TTerm)⟩ : TRow), (⟨1, (⟨[(⟨-1, 1⟩ : TRat)], (⟨1, 1⟩ : TRat)⟩ : TTerm)⟩ : TRow)]) = b1 from rfl, show ([(⟨2, (⟨[(⟨1, 1⟩ : TRat)], (⟨0, 1⟩ : TRat)⟩ : TTerm)⟩ : TRow), (⟨1, (⟨[(⟨-1, 1⟩ : TRat)], (⟨0, 1⟩ : TRat)⟩ : TTerm)⟩ : TRow)]) = b2 from rfl, boundE b1_in (by decide), boundE b2_in (by decide)]
  have e1 : (solA b1).2 = 0 := by decide +kernel
  have e2 : (solA b2).2 = 1 := by decide +kernel
  have e4 : (solA b1).1.length = 8 := by decide +kernel
  have e5 : (solA b1).1.all (fun r => decide (in64R r)) = true := by decide +kernel
  have e6 : (match (solA b1).1[0]? with | some r => eqTRat r ⟨1, 2⟩ | none => false) = true := by decide +kernel
  have e3 : (!b1.any (failB (solA b1).1)) = true := by decide +kernel
  have hx : inR (solA b1).1 := fun r hr => by simpa using List.all_eq_true.1 e5 r hr
  simp only [some_bind']
  rw [e2, e1, e4, show ((0 : Int)) = ((0 : Nat) : Int) from rfl, gi_of (show 0 < (solA b1).1.length by omega), holdsE b1_in (by decide) hx (by omega), e3]
  rw [List.getElem?_eq_getElem (show 0 < (solA b1).1.length by omega)] at e6
  have e6 : eqTRat ((solA b1).1[0]'(by omega)) ⟨1, 2⟩ = true := e6
  simp only [some_bind', e6]
  rfl
theorem P_BoundMore (a0 : List TRow) (a1 : TRow) (h : a0.length * 48 ≤ 140737488351232 ∧ ∀ z ∈ a0, okTRow z) (h1 : okTRow a1) : m_law04_BoundMore a0 a1 = some true := by
  unfold m_law04_BoundMore
  rw [awake4, small4 h.1]
  cases hs : smW a0 with
  | false => rfl
  | true =>
    obtain ⟨hi, hl⟩ := small_in4 h hs
    simp only [some_bind', Bool.not_true, ifB_false]
    by_cases h7 : 7 < (a0.length : Int)
    · rw [decide_eq_true h7]; rfl
    · rw [decide_eq_false h7]
      unfold m_ref02_Small
      by_cases ht : a1.f1.f0.length ≤ 12
      · rw [decide_eq_true (show (a1.f1.f0.length : Int) ≤ 12 by omega)]
        simp only [ifB_false, some_bind', Bool.not_true]
        have hin : in64T a1.f1 := okT4 h1.2.1 ht
        have h2 : inW (a0 ++ [a1]) := inW_snoc hi hin
        rw [boundE hi (by omega)]
        simp only [some_bind']
        rw [rq_true (decide_eq_true (by simp; omega)), List.nil_append]
        simp only [some_bind']
        rw [rq_true (decide_eq_true (by simp; omega)), boundE h2 (by simp; omega)]
        simp only [some_bind']
        by_cases s1 : (solA a0).2 = 2
        · rw [decide_eq_true s1]; rfl
        · rw [decide_eq_false s1]
          by_cases s2 : (solA (a0 ++ [a1])).2 = 2
          · rw [decide_eq_true s2]; rfl
          · rw [decide_eq_false s2]
            by_cases s3 : (solA a0).2 = 1
            · rw [decide_eq_true s3]
              have : (solA (a0 ++ [a1])).2 ≠ 0 := fun e => by
                obtain ⟨x, hx⟩ := (solA_sem h2).2 e
                exact (solA_sem hi).1 s3 x fun r hr => hx r (List.mem_append.2 (.inl hr))
              rw [decide_eq_false this]; rfl
            · rw [decide_eq_false s3]; rfl
      · rw [decide_eq_false (show ¬ (a1.f1.f0.length : Int) ≤ 12 by omega)]; rfl
end Go.E
end
section
set_option linter.all false
set_option maxRecDepth 10000
namespace Go.E
open Go Go.Proofs Go.Eng
theorem solA_st {l : List TRow} (hl : inW l) : (solA l).2 = 0 ∨ (solA l).2 = 1 ∨ (solA l).2 = 2 := by
  unfold solA
  split
  · unfold solB
    by_cases hz : (solP (eqsW l)).2.2 = 0
    · rw [if_pos hz]
      unfold restB
      split
      · exact .inr (.inr rfl)
      · split
        · exact .inr (.inr rfl)
        · split
          · exact .inr (.inl rfl)
          · split
            · exact .inl rfl
            · exact .inr (.inr rfl)
    · rw [if_neg hz]
      rcases sol_sem (eqs_in hl) with h2 | ⟨_, ⟨h2, _⟩ | ⟨r, hw, he, _⟩⟩
      · exact .inr (.inr h2)
      · exact .inr (.inl h2)
      · exact absurd (show (solP (eqsW l)).2.2 = 0 by rw [he]) hz
  · exact .inr (.inr rfl)
theorem rot_mem {α : Type} {l : List α} {k : Nat} : ∀ t, t ∈ l ↔ t ∈ l.drop k ++ l.take k := fun t => by
  have := List.take_append_drop k l
  constructor
  · intro ht
    rw [← this] at ht
    rcases List.mem_append.1 ht with h | h
    · exact List.mem_append.2 (.inr h)
    · exact List.mem_append.2 (.inl h)
  · intro ht
    rw [← this]
    rcases List.mem_append.1 ht with h | h
    · exact List.mem_append.2 (.inr h)
    · exact List.mem_append.2 (.inl h)
theorem P_BoundOrder (a0 : List TRow) (a1 : Int) (h : a0.length * 48 ≤ 140737488351232 ∧ ∀ z ∈ a0, okTRow z) (h1 : (Lit.int .u8 a1).wf = true) : m_law04_BoundOrder a0 a1 = some true := by
  unfold m_law04_BoundOrder
  rw [awake4, small4 h.1]
  cases hs : smW a0 with
  | false => rfl
  | true =>
    obtain ⟨hi, hl⟩ := small_in4 h hs
    simp only [some_bind', Bool.not_true, ifB_false]
    by_cases hz : a0.length = 0
    · rw [decide_eq_true (show (a0.length : Int) = 0 by omega)]; rfl
    · rw [decide_eq_false (show ¬ (a0.length : Int) = 0 by omega), rq_true (decide_eq_true (show (a0.length : Int) ≠ 0 by omega))]
      simp only [ifB_false, some_bind']
      simp [Lit.wf, IntKind.min, IntKind.max, IntKind.signed, IntKind.bits] at h1
      rw [wrap_i64 (by omega) (by omega)]
      obtain ⟨k, hk⟩ : ∃ k : Nat, Int.tmod a1 (a0.length : Int) = (k : Int) := ⟨_, (Int.toNat_of_nonneg (Int.tmod_nonneg _ h1.1)).symm⟩
      have kl : (k : Int) < (a0.length : Int) := by rw [← hk]; exact Int.tmod_lt_of_pos _ (by omega)
      have s1 : subL a0 (k : Int) (a0.length : Int) = some (a0.drop k) := by
        unfold subL; rw [if_pos ⟨by omega, by omega, by omega⟩]; simp
      have s2 : subL a0 0 (k : Int) = some (a0.take k) := by
        unfold subL; rw [if_pos ⟨by omega, by omega, by omega⟩]; simp
      rw [hk, s1, s2]
      simp only [some_bind']
      rw [rq_true (decide_eq_true (show ([] : List TRow).length + (a0.drop k).length ≤ 1000000 by simp; omega)), rq_true (decide_eq_true (show (([] : List TRow) ++ a0.drop k).length + (a0.take k).length ≤ 1000000 by simp; omega))]
      simp only [some_bind', List.nil_append]
      have hm := rot_mem (l := a0) (k := k)
      have hi2 : inW (a0.drop k ++ a0.take k) := fun t ht => hi t ((hm t).2 ht)
      have l2 : (a0.drop k ++ a0.take k).length ≤ 12 := by simp; omega
      rw [boundE hi (by omega), boundE hi2 l2]
      simp only [some_bind']
      have q1 := solA_sem hi
      have q2 := solA_sem hi2
      have st : ∀ x, satW a0 x ↔ satW (a0.drop k ++ a0.take k) x := fun x => ⟨fun hx t ht => hx t ((hm t).2 ht), fun hx t ht => hx t ((hm t).1 ht)⟩
      by_cases c1 : (solA a0).2 = 2
      · rw [decide_eq_true c1]; cases decide ((solA a0).2 = (solA (a0.drop k ++ a0.take k)).2) <;> rfl
      · by_cases c2 : (solA (a0.drop k ++ a0.take k)).2 = 2
        · rw [decide_eq_true c2, decide_eq_false c1]; cases decide ((solA a0).2 = (solA (a0.drop k ++ a0.take k)).2) <;> rfl
        · have e : (solA a0).2 = (solA (a0.drop k ++ a0.take k)).2 := by
            rcases solA_st hi with p | p | p
            · rcases solA_st hi2 with p' | p' | p'
              · rw [p, p']
              · obtain ⟨x, hx⟩ := q1.2 p
                exact absurd ((st x).1 hx) (q2.1 p' x)
              · exact absurd p' c2
            · rcases solA_st hi2 with p' | p' | p'
              · obtain ⟨x, hx⟩ := q2.2 p'
                exact absurd ((st x).2 hx) (q1.1 p x)
              · rw [p, p']
              · exact absurd p' c2
            · exact absurd p c1
          rw [decide_eq_true e]; rfl
theorem m1_64 : in64R ⟨-1, 1⟩ := by decide
theorem m1_q : qv ⟨-1, 1⟩ = -1 := by decide +kernel
def neverP (l : List TRow) (t : TTerm) (op : Int) : Int :=
  if (mulT t ⟨-1, 1⟩).2 = 0 then (if (solA (l ++ [⟨op, (mulT t ⟨-1, 1⟩).1⟩])).2 = 1 then 0 else if (solA (l ++ [⟨op, (mulT t ⟨-1, 1⟩).1⟩])).2 = 0 then 1 else 2) else 2
theorem neverE {l : List TRow} {t : TTerm} {op : Int} (hl : inW l) (hn : l.length ≤ 11) (ht : in64T t) : m_bound_never l t op = some (neverP l t op) := by
  unfold m_bound_never neverP
  rw [scaleP ht m1_64]
  simp only [some_bind']
  by_cases hz : (mulT t ⟨-1, 1⟩).2 = 0
  · rw [decide_eq_true hz, if_pos hz]
    simp only [Bool.not_true, ifB_false]
    unfold m_slices_Clone_api_Row
    rw [rq_true (decide_eq_true (by omega))]
    simp only [some_bind']
    rw [rq_true (decide_eq_true (by simp; omega)), boundE (inW_snoc hl mulT_good.1) (by simp; omega)]
    simp only [some_bind']
    by_cases h1 : (solA (l ++ [⟨op, (mulT t ⟨-1, 1⟩).1⟩])).2 = 1
    · rw [decide_eq_true h1, if_pos h1]; rfl
    · rw [decide_eq_false h1, if_neg h1]
      by_cases h0 : (solA (l ++ [⟨op, (mulT t ⟨-1, 1⟩).1⟩])).2 = 0
      · rw [decide_eq_true h0, if_pos h0]; rfl
      · rw [decide_eq_false h0, if_neg h0]; rfl
  · rw [decide_eq_false hz, if_neg hz]; rfl
theorem ev_m1 {t : TTerm} {x : Nat → Rat} (h : (mulT t ⟨-1, 1⟩).2 = 0) : ev (mulT t ⟨-1, 1⟩).1 x = -ev t x := by
  obtain ⟨_, _, h2, h3⟩ := mulT_q h
  rw [ev_mul h2 h3, m1_q]; grind
theorem never_one {l : List TRow} {t : TTerm} {op : Int} (hl : inW l) (h : neverP l t op = 1) : ∃ x, satW l x ∧ holdW ⟨op, (mulT t ⟨-1, 1⟩).1⟩ x ∧ (mulT t ⟨-1, 1⟩).2 = 0 := by
  unfold neverP at h
  by_cases hz : (mulT t ⟨-1, 1⟩).2 = 0
  · rw [if_pos hz] at h
    by_cases h1 : (solA (l ++ [⟨op, (mulT t ⟨-1, 1⟩).1⟩])).2 = 1
    · rw [if_pos h1] at h; omega
    · rw [if_neg h1] at h
      by_cases h0 : (solA (l ++ [⟨op, (mulT t ⟨-1, 1⟩).1⟩])).2 = 0
      · obtain ⟨x, hx⟩ := (solA_sem (inW_snoc hl mulT_good.1)).2 h0
        exact ⟨x, fun r hr => hx r (List.mem_append.2 (.inl hr)), hx _ (List.mem_append.2 (.inr (List.mem_singleton.2 rfl))), hz⟩
      · rw [if_neg h0] at h; omega
  · rw [if_neg hz] at h; omega
def entP (l : List TRow) (r : TRow) : Int :=
  if r.f0 = 1 then neverP l r.f1 2 else if r.f0 = 2 then neverP l r.f1 1 else if r.f0 = 0 then (if neverP l r.f1 2 = 0 then (if (mulT r.f1 ⟨-1, 1⟩).2 = 0 then neverP l (mulT r.f1 ⟨-1, 1⟩).1 2 else 2) else neverP l r.f1 2) else 2
theorem entE {l : List TRow} {r : TRow} (hl : inW l) (hn : l.length ≤ 11) (hr : in64T r.f1) : m_bound_Entails l r = some (entP l r) := by
  unfold m_bound_Entails entP
  rw [neverE hl hn hr, neverE hl hn hr, scaleP hr m1_64]
  simp only [some_bind']
  rw [neverE hl hn mulT_good.1]
  simp only [some_bind']
  by_cases h1 : r.f0 = 1
  · rw [decide_eq_true h1, if_pos h1]; rfl
  · rw [decide_eq_false h1, if_neg h1]
    by_cases h2 : r.f0 = 2
    · rw [decide_eq_true h2, if_pos h2]; rfl
    · rw [decide_eq_false h2, if_neg h2]
      by_cases h0 : r.f0 = 0
      · rw [decide_eq_true h0, if_pos h0]
        by_cases hn : neverP l r.f1 2 = 0
        · rw [decide_eq_true hn, if_pos hn]
          by_cases hm : (mulT r.f1 ⟨-1, 1⟩).2 = 0
          · rw [decide_eq_true hm, if_pos hm]; rfl
          · rw [decide_eq_false hm, if_neg hm]; rfl
        · rw [decide_eq_false hn, if_neg hn]; rfl
      · rw [decide_eq_false h0, if_neg h0]; rfl
theorem hold_2 {t : TTerm} {x : Nat → Rat} (h : holdW ⟨2, t⟩ x) : 0 < ev t x := by
  unfold holdW big at h
  dsimp only at h
  rwa [if_neg (by decide), if_pos rfl] at h
theorem hold_1 {t : TTerm} {x : Nat → Rat} (h : holdW ⟨1, t⟩ x) : 0 ≤ ev t x := by
  unfold holdW big at h
  dsimp only at h
  rwa [if_neg (by decide), if_neg (by decide)] at h
theorem ent_own {l : List TRow} {r : TRow} (hl : inW l) (hr : r ∈ l) : entP l r ≠ 1 := fun h => by
  unfold entP at h
  by_cases h1 : r.f0 = 1
  · rw [if_pos h1] at h
    obtain ⟨x, hx, hh, hz⟩ := never_one hl h
    have := hx r hr
    unfold holdW big at this
    rw [if_neg (by omega), if_neg (by omega)] at this
    have hh := hold_2 hh
    rw [ev_m1 hz] at hh; grind
  · rw [if_neg h1] at h
    by_cases h2 : r.f0 = 2
    · rw [if_pos h2] at h
      obtain ⟨x, hx, hh, hz⟩ := never_one hl h
      have := hx r hr
      unfold holdW big at this
      rw [if_neg (by omega), if_pos h2] at this
      have hh := hold_1 hh
      rw [ev_m1 hz] at hh; grind
    · rw [if_neg h2] at h
      by_cases h0 : r.f0 = 0
      · rw [if_pos h0] at h
        have key : ∀ x, satW l x → ev r.f1 x = 0 := fun x hx => by
          have := hx r hr
          unfold holdW at this
          rwa [if_pos h0] at this
        by_cases hn : neverP l r.f1 2 = 0
        · rw [if_pos hn] at h
          by_cases hm : (mulT r.f1 ⟨-1, 1⟩).2 = 0
          · rw [if_pos hm] at h
            obtain ⟨x, hx, hh, hz⟩ := never_one hl h
            have := key x hx
            have hh := hold_2 hh
            rw [ev_m1 hz, ev_m1 hm] at hh; grind
          · rw [if_neg hm] at h; omega
        · rw [if_neg hn] at h
          obtain ⟨x, hx, hh, hz⟩ := never_one hl h
          have := key x hx
          have hh := hold_2 hh
          rw [ev_m1 hz] at hh; grind
      · rw [if_neg h0] at h; omega
theorem P_BoundItself (a0 : List TRow) (a1 : Int) (h : a0.length * 48 ≤ 140737488351232 ∧ ∀ z ∈ a0, okTRow z) (h1 : (Lit.int .u8 a1).wf = true) : m_law04_BoundItself a0 a1 = some true := by
  unfold m_law04_BoundItself
  rw [awake4, small4 h.1]
  cases hs : smW a0 with
  | false => rfl
  | true =>
    obtain ⟨hi, hl⟩ := small_in4 h hs
    simp only [some_bind', Bool.not_true, ifB_false]
    by_cases hz : a0.length = 0
    · rw [decide_eq_true (show (a0.length : Int) = 0 by omega)]; rfl
    · rw [decide_eq_false (show ¬ (a0.length : Int) = 0 by omega), rq_true (decide_eq_true (show (a0.length : Int) ≠ 0 by omega))]
      simp only [ifB_false, some_bind']
      simp [Lit.wf, IntKind.min, IntKind.max, IntKind.signed, IntKind.bits] at h1
      rw [wrap_i64 (by omega) (by omega)]
      obtain ⟨k, hk⟩ : ∃ k : Nat, Int.tmod a1 (a0.length : Int) = (k : Int) := ⟨_, (Int.toNat_of_nonneg (Int.tmod_nonneg _ h1.1)).symm⟩
      have kl : (k : Int) < (a0.length : Int) := by rw [← hk]; exact Int.tmod_lt_of_pos _ (by omega)
      have kl' : k < a0.length := by omega
      rw [hk, gi_of kl']
      simp only [some_bind', entE hi (by omega) (hi _ (List.getElem_mem kl'))]
      rw [decide_eq_false (ent_own hi (List.getElem_mem kl'))]; rfl
end Go.E
end
