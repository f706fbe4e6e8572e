import Derived.Test.YtfcehcjhilmlgaaSb10
section
set_option linter.all false
set_option maxRecDepth 10000
namespace Go.E
open Go Go.Proofs Go.Eng
def mkL {α : Type} (n : Nat) (f : Nat → α) : List α := (List.range n).map f
theorem mk_len {α : Type} {n : Nat} {f : Nat → α} : (mkL n f).length = n := by unfold mkL; simp
theorem mk_at {α : Type} {n i : Nat} {f : Nat → α} (h : i < n) : (mkL n f)[i]? = some (f i) := by unfold mkL; simp [h]
theorem mk_gi {α : Type} {n i : Nat} {f : Nat → α} (h : i < n) : gi (mkL n f) (i : Int) = some (f i) := by rw [gi_nat, mk_at h]
theorem mk_congr {α : Type} {n : Nat} {f g : Nat → α} (h : ∀ i, i < n → f i = g i) : mkL n f = mkL n g := by
  unfold mkL
  exact List.map_congr_left fun i hi => h i (List.mem_range.1 hi)
theorem mk_set {α : Type} {n i : Nat} {f : Nat → α} {x : α} : (mkL n f).set i x = mkL n fun j => if j = i then x else f j := by
  apply List.ext_getElem?
  intro j
  by_cases hj : j < n
  · rw [mk_at hj, List.getElem?_set, mk_at hj, mk_len]
    by_cases h : i = j
    · subst h; simp [hj]
    · have : ¬ j = i := fun e => h e.symm
      simp [h, this]
  · rw [List.getElem?_eq_none (by rw [List.length_set, mk_len]; omega), List.getElem?_eq_none (by rw [mk_len]; omega)]
abbrev Row := TGauss_row
def rowAt (l : List Row) (i : Nat) : Row := (l[i]?).getD ⟨zT, -1⟩
theorem row_of {l : List Row} {i : Nat} (h : i < l.length) : l[i] = rowAt l i := by unfold rowAt; rw [List.getElem?_eq_getElem h]; rfl
theorem row_gi {l : List Row} {i : Nat} (h : i < l.length) : gi l (i : Int) = some (rowAt l i) := by rw [gi_of h, row_of h]
theorem row_mk {n i : Nat} {f : Nat → Row} (h : i < n) : rowAt (mkL n f) i = f i := by unfold rowAt; rw [mk_at h]; rfl
theorem mk_self {l : List Row} : mkL l.length (rowAt l) = l := by
  apply List.ext_getElem?
  intro j
  by_cases hj : j < l.length
  · rw [mk_at hj, List.getElem?_eq_getElem hj, row_of hj]
  · rw [List.getElem?_eq_none (by rw [mk_len]; omega), List.getElem?_eq_none (by omega)]
def goodL (l : List Row) : Prop := ∀ i, in64T (rowAt l i).f0
def neg (c : TRat) : TRat := ⟨IntKind.wrap .i64 (0 - c.f0), c.f1⟩
theorem neg_in {c : TRat} (h : in64R c) : in64R (neg c) := by
  refine ⟨?_, h.2⟩
  unfold neg
  constructor
  · dsimp only; rw [IntKind.wrap_i64]; omega
  · dsimp only; rw [IntKind.wrap_i64]; omega
def lessT (a p : TTerm) (c : TRat) : TTerm × Int := if (mulT p (neg c)).2 = 0 then addT a (mulT p (neg c)).1 else (zT, (mulT p (neg c)).2)
theorem lessT_in {a p : TTerm} {c : TRat} : in64T (lessT a p c).1 := by
  unfold lessT; split
  · exact addT_good.1
  · exact z_in
def skip (rows : List Row) (a v i : Nat) : Bool := decide (i = a) || decide ((atT (rowAt rows i).f0 v).f0 = 0)
def lessAt (rows : List Row) (p : TTerm) (v i : Nat) : TTerm × Int := lessT (rowAt rows i).f0 p (atT (rowAt rows i).f0 v)
def newR (rows : List Row) (p : TTerm) (a v i : Nat) : Row := if i = a then ⟨p, (v : Int)⟩ else if skip rows a v i then rowAt rows i else ⟨(lessAt rows p v i).1, (rowAt rows i).f1⟩
def badR (rows : List Row) (p : TTerm) (a v i : Nat) : Bool := !skip rows a v i && !decide ((lessAt rows p v i).2 = 0)
def invT (rows : List Row) (a v : Nat) : TRat × Int := divR ⟨1, 1⟩ (atT (rowAt rows a).f0 v)
def pivT (rows : List Row) (a v : Nat) : TTerm × Int := mulT (rowAt rows a).f0 (invT rows a v).1
def pivB (rows : List Row) (a v : Nat) : Bool := decide ((invT rows a v).2 = 0) && decide ((pivT rows a v).2 = 0)
def takeP (rows : List Row) (a v : Nat) : Option (List Row) :=
  if pivB rows a v then (match fst rows.length (badR rows (pivT rows a v).1 a v) with | some _ => none | none => some (mkL rows.length (newR rows (pivT rows a v).1 a v))) else none
theorem new_good {rows : List Row} {a v : Nat} (h : goodL rows) {i : Nat} : in64T (newR rows (pivT rows a v).1 a v i).f0 := by
  unfold newR
  split
  · exact mulT_good.1
  · split
    · exact h i
    · exact lessT_in
theorem mkL_good {n : Nat} {f : Nat → Row} (h : ∀ i, in64T (f i).f0) : goodL (mkL n f) := by
  intro i
  by_cases hi : i < n
  · rw [row_mk hi]; exact h i
  · unfold rowAt; rw [List.getElem?_eq_none (by rw [mk_len]; omega)]; exact z_in
theorem take_good {rows r : List Row} {a v : Nat} (h : goodL rows) (e : takeP rows a v = some r) : goodL r ∧ r.length = rows.length := by
  unfold takeP at e
  split at e
  · split at e
    · cases e
    · cases e; exact ⟨mkL_good fun i => new_good h, mk_len⟩
  · cases e
theorem keepP {s : TGauss_system} {t : TTerm} {e : Int} : m_gauss_system_keep s t e = some (t, ⟨s.f0, s.f1 || !decide (e = 0)⟩) := by
  unfold m_gauss_system_keep
  cases s.f1 <;> rfl
theorem timesP {s : TGauss_system} {t : TTerm} {r : TRat} (ht : in64T t) (hr : in64R r) : m_gauss_system_times s t r = some ((mulT t r).1, ⟨s.f0, s.f1 || !decide ((mulT t r).2 = 0)⟩) := by
  unfold m_gauss_system_times
  rw [scaleP ht hr]
  simp only [some_bind', keepP]
theorem over_loop {s : TGauss_system} {a2 a1 : Nat} {r : TTerm × TGauss_system} {l : List Row} (hl : l.length = s.f0.length) (hb : s.f0.length ≤ 1000) : ∀ k i : Nat, i + k = s.f0.length → loopO (m_gauss_system_take_L0 s a2 a1 r) ((i : Int), true, l) = some (true, l) := by
  intro k
  induction k with
  | zero =>
    intro i hi
    refine loopO_inr ?_
    unfold m_gauss_system_take_L0
    dsimp only
    rw [decide_eq_false (by omega)]; rfl
  | succ k ih =>
    intro i hi
    have hb : m_gauss_system_take_L0 s a2 a1 r ((i : Int), true, l) = some (.inl (((i + 1 : Nat) : Int), true, l)) := by
      unfold m_gauss_system_take_L0
      dsimp only
      rw [decide_eq_true (show (i : Int) < (s.f0.length : Int) by omega), ifB_true, rq_true (decide_eq_true (by omega)), rq_true (decide_eq_true (by omega)), row_gi (by omega)]
      simp only [some_bind', atP]
      have : (ifB (decide ((i : Int) = (a1 : Int))) (some true) (ifB (decide ((atT (rowAt l i).f0 a2).f0 = 0)) (some true) (some true)) : Option Bool) = some true := by
        cases decide ((i : Int) = (a1 : Int)) <;> cases decide ((atT (rowAt l i).f0 a2).f0 = 0) <;> rfl
      rw [this]
      simp only [some_bind', ifB_true]
      rw [wrap_succ (by omega)]
    rw [loopO_inl hb]
    exact ih (i + 1) (by omega)
theorem take_loop {rows : List Row} {a v : Nat} (ha : a < rows.length) (hg : goodL rows) (hb : rows.length ≤ 1000) {p : TTerm} (hp : in64T p) {sy : TGauss_system} :
    ∀ k i : Nat, i + k = rows.length → (∃ l', loopO (m_gauss_system_take_L0 ⟨rows, false⟩ (v : Int) (a : Int) (p, sy)) ((i : Int), false, mkL rows.length fun j => if j < i then newR rows p a v j else if j = a then ⟨p, (v : Int)⟩ else rowAt rows j) =
      some (!(List.range' i k).all (fun j => !badR rows p a v j), l') ∧ l'.length = rows.length ∧ ((List.range' i k).all (fun j => !badR rows p a v j) = true → l' = mkL rows.length (newR rows p a v))) := by
  intro k
  induction k with
  | zero =>
    intro i hi
    refine ⟨_, loopO_inr (x := (false, mkL rows.length fun j => if j < i then newR rows p a v j else if j = a then ⟨p, (v : Int)⟩ else rowAt rows j)) ?_, mk_len, fun _ => mk_congr fun j hj => if_pos (by omega)⟩
    unfold m_gauss_system_take_L0
    dsimp only
    rw [decide_eq_false (by omega)]; rfl
  | succ k ih =>
    intro i hi
    obtain ⟨cur, hcur⟩ : ∃ cur, cur = mkL rows.length fun j => if j < i then newR rows p a v j else if j = a then ⟨p, (v : Int)⟩ else rowAt rows j := ⟨_, rfl⟩
    have hil : i < rows.length := by omega
    have hc : gi cur (i : Int) = some (if i = a then ⟨p, (v : Int)⟩ else rowAt rows i) := by rw [hcur, mk_gi hil, if_neg (Nat.lt_irrefl i)]
    have cl : cur.length = rows.length := by rw [hcur, mk_len]
    rw [← hcur, List.range'_succ, List.all_cons]
    have next : ∀ {x : Row}, newR rows p a v i = x → mkL rows.length (fun j => if j < i + 1 then newR rows p a v j else if j = a then ⟨p, (v : Int)⟩ else rowAt rows j) = cur.set i x := by
      intro x hx
      rw [hcur, mk_set]
      refine mk_congr fun j hj => ?_
      by_cases h1 : j = i
      · subst h1; rw [if_pos (by omega), if_pos rfl, hx]
      · rw [if_neg h1]
        by_cases h2 : j < i
        · rw [if_pos (by omega), if_pos h2]
        · rw [if_neg (by omega), if_neg h2]
    have nsk : skip rows a v i = true → cur.set i (newR rows p a v i) = cur := by
      intro h
      rw [hcur, mk_set]
      refine mk_congr fun j hj => ?_
      by_cases h1 : j = i
      · subst h1
        rw [if_pos rfl, if_neg (Nat.lt_irrefl _)]
        unfold newR
        by_cases h2 : j = a
        · rw [if_pos h2, if_pos h2]
        · rw [if_neg h2, if_neg h2, if_pos h]
      · rw [if_neg h1]
    have start : m_gauss_system_take_L0 ⟨rows, false⟩ (v : Int) (a : Int) (p, sy) ((i : Int), false, cur) = (if skip rows a v i then some (.inl (((i + 1 : Nat) : Int), false, cur)) else
        (if (mulT p (neg (atT (rowAt rows i).f0 v))).2 = 0 then some (.inl (((i + 1 : Nat) : Int), !decide ((lessAt rows p v i).2 = 0), cur.set i ⟨(lessAt rows p v i).1, (rowAt rows i).f1⟩)) else some (.inl (((i + 1 : Nat) : Int), true, cur)))) := by
      unfold m_gauss_system_take_L0
      dsimp only
      rw [decide_eq_true (show (i : Int) < (rows.length : Int) by omega), ifB_true, rq_true (decide_eq_true (by omega)), rq_true (decide_eq_true (by omega)), hc]
      simp only [some_bind', atP]
      unfold skip
      by_cases h1 : i = a
      · rw [decide_eq_true (show (i : Int) = (a : Int) by omega), decide_eq_true h1]
        simp only [ifB_true, some_bind', Bool.true_or, if_true]
        rw [wrap_succ (by omega)]
      · rw [decide_eq_false (show ¬ (i : Int) = (a : Int) by omega), decide_eq_false h1, if_neg h1]
        simp only [ifB_false, Bool.false_or]
        by_cases h2 : (atT (rowAt rows i).f0 v).f0 = 0
        · rw [decide_eq_true h2]
          simp only [ifB_true, some_bind', if_true]
          rw [wrap_succ (by omega)]
        · rw [decide_eq_false h2]
          have hn : in64R (⟨IntKind.wrap .i64 (0 - (atT (rowAt rows i).f0 v).f0), (atT (rowAt rows i).f0 v).f1⟩ : TRat) := neg_in (at_in (hg i) v)
          simp only [ifB_false, some_bind', Bool.false_eq_true, if_false, timesP hp hn, Bool.false_or]
          show _ = (if (mulT p (neg (atT (rowAt rows i).f0 v))).2 = 0 then _ else _)
          have e0 : (⟨IntKind.wrap .i64 (0 - (atT (rowAt rows i).f0 v).f0), (atT (rowAt rows i).f0 v).f1⟩ : TRat) = neg (atT (rowAt rows i).f0 v) := rfl
          rw [e0]
          by_cases h3 : (mulT p (neg (atT (rowAt rows i).f0 v))).2 = 0
          · rw [decide_eq_true h3, if_pos h3]
            simp only [Bool.not_true, Bool.not_false, ifB_true, addP (hg i) mulT_good.1, some_bind', keepP, Bool.false_or, hc, if_neg h1]
            rw [wrap_succ (by omega)]
            unfold lessAt lessT
            rw [if_pos h3]
            rfl
          · rw [decide_eq_false h3, if_neg h3]
            simp only [Bool.not_false, Bool.not_true, ifB_false, some_bind']
            rw [wrap_succ (by omega)]
    have bad0 : badR rows p a v i = (!skip rows a v i && !decide ((lessAt rows p v i).2 = 0)) := rfl
    cases hs : skip rows a v i with
    | true =>
      rw [hs, if_pos rfl] at start
      rw [loopO_inl start]
      have e1 := next (x := newR rows p a v i) rfl
      rw [nsk hs] at e1
      rw [hs] at bad0
      rw [bad0, ← e1]
      exact ih (i + 1) (by omega)
    | false =>
      rw [hs, if_neg (by decide)] at start
      rw [hs] at bad0
      by_cases h3 : (mulT p (neg (atT (rowAt rows i).f0 v))).2 = 0
      · rw [if_pos h3] at start
        rw [loopO_inl start]
        by_cases h4 : (lessAt rows p v i).2 = 0
        · rw [decide_eq_true h4] at bad0 ⊢
          have e1 := next (x := ⟨(lessAt rows p v i).1, (rowAt rows i).f1⟩) (by
            unfold newR
            have : ¬ i = a := by intro e; unfold skip at hs; simp [e] at hs
            rw [if_neg this, hs]; rfl)
          rw [bad0, ← e1]
          exact ih (i + 1) (by omega)
        · rw [decide_eq_false h4] at bad0 ⊢
          rw [bad0]
          refine ⟨cur.set i ⟨(lessAt rows p v i).1, (rowAt rows i).f1⟩, over_loop (s := ⟨rows, false⟩) (by rw [List.length_set, cl]) hb k (i + 1) (by dsimp only; omega), by rw [List.length_set, cl], fun h => by simp at h⟩
      · rw [if_neg h3] at start
        rw [loopO_inl start]
        have h4 : ¬ (lessAt rows p v i).2 = 0 := by unfold lessAt lessT; rw [if_neg h3]; exact h3
        rw [decide_eq_false h4] at bad0
        rw [bad0]
        exact ⟨cur, over_loop (s := ⟨rows, false⟩) cl hb k (i + 1) (by dsimp only; omega), cl, fun h => by simp at h⟩
theorem i1 : in64R ⟨1, 1⟩ := by decide
theorem takeE {rows : List Row} {a v : Nat} (ha : a < rows.length) (hg : goodL rows) (hb : rows.length ≤ 1000) :
    ∃ s, m_gauss_system_take ⟨rows, false⟩ (a : Int) (v : Int) = some s ∧ s.f0.length = rows.length ∧ (match takeP rows a v with | some r => s = ⟨r, false⟩ | none => s.f1 = true) := by
  unfold m_gauss_system_take
  dsimp only
  rw [rq_true (decide_eq_true (by omega)), rq_true (decide_eq_true (by omega)), row_gi ha]
  simp only [some_bind', atP, dR i1 (at_in (hg a) v), ifB_false]
  rw [timesP (hg a) (div_good _ _).1]
  simp only [some_bind', row_gi ha]
  have hset : rows.set a ⟨(pivT rows a v).1, (v : Int)⟩ = mkL rows.length fun j => if j < 0 then newR rows (pivT rows a v).1 a v j else if j = a then ⟨(pivT rows a v).1, (v : Int)⟩ else rowAt rows j := by
    have := mk_self (l := rows)
    rw [← this, mk_set, mk_len]
    refine mk_congr fun j hj => ?_
    rw [if_neg (Nat.not_lt_zero j), this]
  show ∃ s, (Option.bind (loopO (m_gauss_system_take_L0 ⟨rows, false⟩ (v : Int) (a : Int) ((pivT rows a v).1, ⟨rows, (!decide ((invT rows a v).2 = 0)) || !decide ((pivT rows a v).2 = 0)⟩)) (((0 : Nat) : Int), ((!decide ((invT rows a v).2 = 0)) || !decide ((pivT rows a v).2 = 0)), rows.set a ⟨(pivT rows a v).1, (v : Int)⟩)) _) = some s ∧ _
  have eb : ((!decide ((invT rows a v).2 = 0)) || !decide ((pivT rows a v).2 = 0)) = !pivB rows a v := by unfold pivB; rw [Bool.not_and]
  rw [eb]
  unfold takeP
  cases hq : pivB rows a v with
  | false =>
    rw [show (!false) = true from rfl, over_loop (s := ⟨rows, false⟩) (by rw [List.length_set]) hb rows.length 0 (by dsimp only; omega)]
    exact ⟨_, rfl, by dsimp only; rw [List.length_set], rfl⟩
  | true =>
    rw [hset]
    obtain ⟨l', h1, h2, h3⟩ := take_loop ha hg hb (p := (pivT rows a v).1) (v := v) (sy := ⟨rows, false⟩) mulT_good.1 rows.length 0 (by omega)
    rw [show (!true) = false from rfl, h1]
    rw [← List.range_eq_range'] at h3 ⊢
    refine ⟨_, rfl, h2, ?_⟩
    rw [if_pos rfl]
    cases hf : fst rows.length (badR rows (pivT rows a v).1 a v) with
    | some i =>
      have := fst_some hf
      show (!_) = true
      rw [Bool.not_eq_true']
      rw [List.all_eq_false]
      exact ⟨i, List.mem_range.2 this.1, by rw [this.2]; decide⟩
    | none =>
      have hall : (List.range rows.length).all (fun j => !badR rows (pivT rows a v).1 a v j) = true := List.all_eq_true.2 fun j hj => by rw [fst_none.1 hf j (List.mem_range.1 hj)]; rfl
      rw [h3 hall, hall]
      rfl
end Go.E
end
section
set_option linter.all false
set_option maxRecDepth 10000
namespace Go.E
open Go Go.Proofs Go.Eng
def hit (rows : List Row) (v i : Nat) : Bool := decide ((rowAt rows i).f1 = -1) && !decide ((atT (rowAt rows i).f0 v).f0 = 0)
def pick (rows : List Row) (v : Nat) : Option Nat := fst rows.length (hit rows v)
def stepP (rows : List Row) (v : Nat) : Option (List Row) := match pick rows v with | none => some rows | some a => takeP rows a v
def runF (rows : List Row) : List Nat → Option (List Row)
  | [] => some rows
  | v :: vs => match stepP rows v with | none => none | some r => runF r vs
theorem hit1P {r : Row} {v : Nat} : m_gauss_system_solve_1 r (v : Int) = some (decide (r.f1 = -1) && !decide ((atT r.f0 v).f0 = 0)) := by
  unfold m_gauss_system_solve_1
  rw [atP]
  cases decide (r.f1 = -1) <;> rfl
theorem pickP {rows : List Row} {v : Nat} (hb : rows.length ≤ 1000) : m_slices_IndexFunc_gauss_row rows (fun x0 => m_gauss_system_solve_1 x0 (v : Int)) = some (match pick rows v with | some i => (i : Int) | none => -1) := by
  unfold m_slices_IndexFunc_gauss_row
  rw [show ((0 : Int)) = ((0 : Nat) : Int) from rfl, loopO_first (b := m_slices_IndexFunc_gauss_row_L0 rows _) (fun i : Nat => (i : Int)) rows.length (hit rows v) (fun i => (i : Int)) () ?_ ?_]
  · unfold pick
    cases fst rows.length (hit rows v) <;> rfl
  · intro i hi _
    unfold m_slices_IndexFunc_gauss_row_L0
    dsimp only
    rw [decide_eq_true (show (i : Int) < (rows.length : Int) by omega), ifB_true, row_gi hi]
    simp only [some_bind', hit1P]
    rw [wrap_succ (by omega)]
    show ifB (hit rows v i) _ _ = _
    cases hit rows v i <;> rfl
  · intro _
    unfold m_slices_IndexFunc_gauss_row_L0
    dsimp only
    rw [decide_eq_false (show ¬ (rows.length : Int) < (rows.length : Int) by omega)]
    rfl
theorem over_steps {l : List Row} (hb : l.length ≤ 1000) : ∀ k i : Nat, i + k = 8 → loopO m_gauss_system_solve_L0 ((i : Int), true, l) = some (true, l) := by
  intro k
  induction k with
  | zero =>
    intro i hi
    refine loopO_inr ?_
    unfold m_gauss_system_solve_L0
    dsimp only
    rw [decide_eq_false (by omega)]; rfl
  | succ k ih =>
    intro i hi
    have hb : m_gauss_system_solve_L0 ((i : Int), true, l) = some (.inl (((i + 1 : Nat) : Int), true, l)) := by
      unfold m_gauss_system_solve_L0
      dsimp only
      rw [decide_eq_true (show (i : Int) < 8 by omega), ifB_true, pickP hb, wrap_succ (by omega)]
      simp only [some_bind']
      cases pick l i with
      | none => rfl
      | some a =>
        dsimp only
        rw [decide_eq_true (show (0 : Int) ≤ (a : Int) by omega)]; rfl
    rw [loopO_inl hb]
    exact ih (i + 1) (by omega)
theorem step_good {rows r : List Row} {v : Nat} (h : goodL rows) (e : stepP rows v = some r) : goodL r ∧ r.length = rows.length := by
  unfold stepP at e
  split at e
  · cases e; exact ⟨h, rfl⟩
  · exact take_good h e
theorem steps_loop : ∀ (k i : Nat) (rows : List Row), i + k = 8 → goodL rows → rows.length ≤ 1000 → ∃ b l, loopO m_gauss_system_solve_L0 ((i : Int), false, rows) = some (b, l) ∧ (match runF rows (List.range' i k) with | some r => b = false ∧ l = r | none => b = true) := by
  intro k
  induction k with
  | zero =>
    intro i rows hi hg hb
    refine ⟨_, _, loopO_inr (x := (false, rows)) ?_, rfl, rfl⟩
    unfold m_gauss_system_solve_L0
    dsimp only
    rw [decide_eq_false (by omega)]; rfl
  | succ k ih =>
    intro i rows hi hg hb
    rw [List.range'_succ]
    show ∃ b l, _ ∧ (match (match stepP rows i with | none => none | some r => runF r (List.range' (i + 1) k)) with | some r => b = false ∧ l = r | none => b = true)
    cases hp : pick rows i with
    | none =>
      have hb' : m_gauss_system_solve_L0 ((i : Int), false, rows) = some (.inl (((i + 1 : Nat) : Int), false, rows)) := by
        unfold m_gauss_system_solve_L0
        dsimp only
        rw [decide_eq_true (show (i : Int) < 8 by omega), ifB_true, pickP hb, hp, wrap_succ (by omega)]
        rfl
      rw [loopO_inl hb', show stepP rows i = some rows by unfold stepP; rw [hp]]
      exact ih (i + 1) rows (by omega) hg hb
    | some a =>
      have ha : a < rows.length := (fst_some hp).1
      obtain ⟨s, hs, hsl, hm⟩ := takeE (v := i) ha hg hb
      have hb' : m_gauss_system_solve_L0 ((i : Int), false, rows) = some (.inl (((i + 1 : Nat) : Int), s.f1, s.f0)) := by
        unfold m_gauss_system_solve_L0
        dsimp only
        rw [decide_eq_true (show (i : Int) < 8 by omega), ifB_true, pickP hb, hp, wrap_succ (by omega)]
        simp only [some_bind']
        rw [decide_eq_true (show (0 : Int) ≤ (a : Int) by omega)]
        simp only [ifB_true, Bool.not_false, some_bind', hs]
      rw [loopO_inl hb', show stepP rows i = takeP rows a i by unfold stepP; rw [hp]]
      cases ht : takeP rows a i with
      | none =>
        rw [ht] at hm
        rw [hm]
        exact ⟨true, s.f0, over_steps (by omega) k (i + 1) (by omega), rfl⟩
      | some r =>
        rw [ht] at hm
        subst hm
        have hg' := take_good hg ht
        exact ih (i + 1) r (by omega) hg'.1 (by omega)
def key (l : List Row) (i : Nat) : Int := (rowAt l i).f1
def inKeys (l : List Row) : Prop := ∀ i, -1 ≤ key l i ∧ key l i < 8
theorem keys_perm {l l' : List Row} (h : l'.Perm l) (hk : inKeys l) : inKeys l' := by
  intro i
  unfold key
  by_cases hi : i < l'.length
  · have hm : l'[i] ∈ l := h.mem_iff.1 (List.getElem_mem hi)
    obtain ⟨j, hj, e⟩ := List.getElem_of_mem hm
    have := hk j
    unfold key at this
    rw [← row_of hi, ← e, row_of hj]; exact this
  · unfold rowAt; rw [List.getElem?_eq_none (by omega)]; exact ⟨by decide, by decide⟩
theorem cmpP {a b : Row} (ha : -1 ≤ a.f1 ∧ a.f1 < 8) (hb : -1 ≤ b.f1 ∧ b.f1 < 8) : m_gauss_Solve_2 a b = some (a.f1 - b.f1) := by
  unfold m_gauss_Solve_2
  rw [wrap_i64 (by omega) (by omega)]
noncomputable abbrev cmpF : Row → Row → Option Int := fun x0 x1 => m_gauss_Solve_2 x0 x1
structure Ins (rows : List Row) (i : Nat) (s : Int × List Row) (j : Nat) : Prop where
  a : s.1 = (j : Int)
  le : j ≤ i
  p : s.2.Perm rows
  o : ∀ x y, x < y → y ≤ i → x ≠ j → y ≠ j → key s.2 x ≤ key s.2 y
  u : ∀ y, j < y → y ≤ i → key s.2 j ≤ key s.2 y
theorem ins_loop {rows : List Row} {i : Nat} (hi : i < rows.length) (hb : rows.length ≤ 1000) (hk : inKeys rows) {l : List Row} (h : Ins rows i ((i : Int), l) i) :
    ∃ r, loopO (m_slices_insertionSortCmpFunc__gauss_row_L1 0 cmpF) ((i : Int), l) = some r ∧ (r.Perm rows ∧ ∀ x y, x < y → y ≤ i → key r x ≤ key r y) := by
  refine loopO_total (fun s => ∃ j, Ins rows i s j) (fun s => s.1.toNat) _ ?_ _ ⟨i, h⟩
  rintro ⟨_, l⟩ ⟨j, ⟨rfl, hle, hp, ho, hu⟩⟩
  dsimp only at hp ho hu
  have hl := hp.length_eq
  have kk := keys_perm hp hk
  by_cases hz : j = 0
  · right
    refine ⟨l, ?_, hp, fun x y h1 h2 => ?_⟩
    · unfold m_slices_insertionSortCmpFunc__gauss_row_L1
      dsimp only
      rw [decide_eq_false (show ¬ (0 : Int) < (j : Int) by omega)]
      rfl
    · by_cases e : x = j
      · subst e; exact hu y (by omega) h2
      · exact ho x y h1 h2 e (by omega)
  · have e1 : IntKind.wrap .i64 ((j : Int) - 1) = ((j - 1 : Nat) : Int) := by rw [wrap_i64 (by omega) (by omega)]; omega
    have g1 : gi l (j : Int) = some (rowAt l j) := row_gi (by omega)
    have g2 : gi l ((j - 1 : Nat) : Int) = some (rowAt l (j - 1)) := row_gi (by omega)
    have c1 := cmpP (a := rowAt l j) (b := rowAt l (j - 1)) (kk j) (kk (j - 1))
    by_cases hlt : key l j < key l (j - 1)
    · left
      obtain ⟨l2, hl2⟩ : ∃ l2, l2 = (l.set j (rowAt l (j - 1))).set (j - 1) (rowAt l j) := ⟨_, rfl⟩
      have kl : ∀ x, key l2 x = if x = j - 1 then key l j else if x = j then key l (j - 1) else key l x := by
        intro x
        have hc : l2[x]? = if x = j - 1 then some (rowAt l j) else if x = j then some (rowAt l (j - 1)) else l[x]? := by
          rw [hl2, List.getElem?_set]
          by_cases h1 : j - 1 = x
          · rw [if_pos h1, if_pos (by rw [List.length_set]; omega), if_pos h1.symm]
          · rw [if_neg h1, if_neg (fun e => h1 e.symm), List.getElem?_set]
            by_cases h2 : j = x
            · rw [if_pos h2, if_pos (by omega), if_pos h2.symm]
            · rw [if_neg h2, if_neg (fun e => h2 e.symm)]
        unfold key
        unfold rowAt at hc ⊢
        rw [hc]
        split
        · rfl
        · split <;> rfl
      have hp2 : l2.Perm l := by
        have := List.set_set_perm («as» := l) (i := j) (j := j - 1) (by omega) (by omega)
        rw [row_of (by omega), row_of (by omega)] at this
        rw [hl2]; exact this
      refine ⟨(((j - 1 : Nat) : Int), l2), ?_, ⟨j - 1, rfl, by omega, hp2.trans hp, ?_, ?_⟩, by dsimp only; omega⟩
      · unfold m_slices_insertionSortCmpFunc__gauss_row_L1
        dsimp only
        rw [decide_eq_true (show (0 : Int) < (j : Int) by omega), e1, rq_true (decide_eq_true (show (0 : Int) ≤ (j : Int) by omega)), rq_true (decide_eq_true (show (j : Int) < (l.length : Int) by omega)), rq_true (decide_eq_true (show (0 : Int) ≤ ((j - 1 : Nat) : Int) by omega)), rq_true (decide_eq_true (show ((j - 1 : Nat) : Int) < (l.length : Int) by omega)), g1, g2]
        simp only [ifB_true, some_bind', c1]
        have : decide ((rowAt l j).f1 - (rowAt l (j - 1)).f1 < 0) = true := decide_eq_true (by unfold key at hlt; omega)
        rw [this]
        simp only [ifB_true, Int.toNat_natCast]
        have g3 : gi (l.set j (rowAt l (j - 1))) ((j - 1 : Nat) : Int) = some (rowAt (l.set j (rowAt l (j - 1))) (j - 1)) := row_gi (by rw [List.length_set]; omega)
        rw [g3, some_bind', ← hl2]
      · intro x y h1 h2 h3 h4
        dsimp only
        rw [kl, kl, if_neg h3, if_neg h4]
        by_cases hx : x = j
        · rw [if_pos hx, if_neg (by omega)]
          exact ho (j - 1) y (by omega) h2 (by omega) (by omega)
        · rw [if_neg hx]
          by_cases hy : y = j
          · rw [if_pos hy]
            exact ho x (j - 1) (by omega) (by omega) hx (by omega)
          · rw [if_neg hy]
            exact ho x y h1 h2 hx hy
      · intro y h1 h2
        dsimp only
        rw [kl, kl, if_pos rfl, if_neg (by omega)]
        by_cases hy : y = j
        · rw [if_pos hy]; omega
        · rw [if_neg hy]; exact hu y (by omega) h2
    · right
      refine ⟨l, ?_, hp, fun x y h1 h2 => ?_⟩
      · unfold m_slices_insertionSortCmpFunc__gauss_row_L1
        dsimp only
        rw [decide_eq_true (show (0 : Int) < (j : Int) by omega), e1, rq_true (decide_eq_true (show (0 : Int) ≤ (j : Int) by omega)), rq_true (decide_eq_true (show (j : Int) < (l.length : Int) by omega)), rq_true (decide_eq_true (show (0 : Int) ≤ ((j - 1 : Nat) : Int) by omega)), rq_true (decide_eq_true (show ((j - 1 : Nat) : Int) < (l.length : Int) by omega)), g1, g2]
        simp only [ifB_true, some_bind', c1]
        have : decide ((rowAt l j).f1 - (rowAt l (j - 1)).f1 < 0) = false := decide_eq_false (by unfold key at hlt; omega)
        rw [this]
        rfl
      · by_cases hx : x = j
        · subst hx; exact hu y h1 h2
        · by_cases hy : y = j
          · subst hy
            by_cases e : x = y - 1
            · subst e; omega
            · have := ho x (y - 1) (by omega) (by omega) hx (by omega)
              omega
          · exact ho x y h1 h2 hx hy
theorem sortP {rows : List Row} (hb : rows.length ≤ 12) (hk : inKeys rows) : ∃ s, m_slices_SortStableFunc_gauss_row rows cmpF = some s ∧ s.Perm rows ∧ ∀ x y, x < y → y < rows.length → key s x ≤ key s y := by
  have ins : ∃ s, m_slices_insertionSortCmpFunc__gauss_row rows 0 (rows.length : Int) cmpF = some s ∧ s.Perm rows ∧ ∀ x y, x < y → y < rows.length → key s x ≤ key s y := by
    unfold m_slices_insertionSortCmpFunc__gauss_row
    have main : ∀ (k i : Nat) (l : List Row), i + k = rows.length → 1 ≤ i → l.Perm rows → (∀ x y, x < y → y < i → key l x ≤ key l y) → ∃ s, loopO (m_slices_insertionSortCmpFunc__gauss_row_L0 (rows.length : Int) 0 cmpF) ((i : Int), l) = some s ∧ s.Perm rows ∧ ∀ x y, x < y → y < rows.length → key s x ≤ key s y := by
      intro k
      induction k with
      | zero =>
        intro i l hi _ hp ho
        refine ⟨l, loopO_inr ?_, hp, fun x y h1 h2 => ho x y h1 (by omega)⟩
        unfold m_slices_insertionSortCmpFunc__gauss_row_L0
        dsimp only
        rw [decide_eq_false (by omega)]; rfl
      | succ k ih =>
        intro i l hi h1 hp ho
        obtain ⟨r, hr, hrp, hro⟩ := ins_loop (i := i) (rows := rows) (by omega) (by omega) hk (l := l) ⟨rfl, Nat.le_refl _, hp, fun x y a b c d => ho x y a (by omega), fun y a b => by omega⟩
        have hb : m_slices_insertionSortCmpFunc__gauss_row_L0 (rows.length : Int) 0 cmpF ((i : Int), l) = some (.inl (((i + 1 : Nat) : Int), r)) := by
          unfold m_slices_insertionSortCmpFunc__gauss_row_L0
          dsimp only
          rw [decide_eq_true (show (i : Int) < (rows.length : Int) by omega), ifB_true, hr, wrap_succ (by omega)]
          rfl
        rw [loopO_inl hb]
        exact ih (i + 1) r (by omega) (by omega) hrp fun x y a b => hro x y a (by omega)
    rw [show IntKind.wrap .i64 ((0 : Int) + 1) = ((1 : Nat) : Int) from rfl]
    by_cases h0 : rows.length = 0
    · refine ⟨rows, ?_, .refl _, fun x y h1 h2 => by omega⟩
      rw [loopO_inr (x := rows)]
      · rfl
      · unfold m_slices_insertionSortCmpFunc__gauss_row_L0
        dsimp only
        rw [decide_eq_false (by omega)]; rfl
    · obtain ⟨s, hs, h⟩ := main (rows.length - 1) 1 rows (by omega) (by omega) (.refl _) fun x y h1 h2 => by omega
      exact ⟨s, by rw [hs]; rfl, h⟩
  obtain ⟨s, hs, h⟩ := ins
  refine ⟨s, ?_, h⟩
  unfold m_slices_SortStableFunc_gauss_row m_slices_stableCmpFunc__gauss_row
  rw [loopO_inr (x := ((0 : Int), rows))]
  · simp only [some_bind', hs]
    rw [loopO_inr (x := ())]
    · rfl
    · unfold m_slices_stableCmpFunc__gauss_row_L1
      dsimp only
      rw [decide_eq_false (by omega)]; rfl
  · unfold m_slices_stableCmpFunc__gauss_row_L0
    dsimp only
    rw [decide_eq_false (by omega)]; rfl
end Go.E
end
section
set_option linter.all false
set_option maxRecDepth 10000
namespace Go.E
open Go Go.Proofs Go.Eng
theorem mk_succ {α : Type} {n : Nat} {f : Nat → α} : mkL (n + 1) f = mkL n f ++ [f n] := by unfold mkL; rw [List.range_succ, List.map_append]; rfl
def tAt (l : List TTerm) (i : Nat) : TTerm := (l[i]?).getD zT
theorem t_gi {l : List TTerm} {i : Nat} (h : i < l.length) : gi l (i : Int) = some (tAt l i) := by rw [gi_of h]; unfold tAt; rw [List.getElem?_eq_getElem h]; rfl
theorem t_of {l : List TTerm} {i : Nat} (h : i < l.length) : l[i] = tAt l i := by unfold tAt; rw [List.getElem?_eq_getElem h]; rfl
def inL (l : List TTerm) : Prop := ∀ t ∈ l, in64T t
theorem t_in {l : List TTerm} (h : inL l) (i : Nat) : in64T (tAt l i) := by
  unfold tAt
  cases hq : l[i]? with
  | none => exact z_in
  | some t => exact h t (List.mem_of_getElem? hq)
def startL (l : List TTerm) : List Row := mkL l.length fun i => ⟨ownT (tAt l i), -1⟩
theorem own_in {t : TTerm} (h : in64T t) : in64T (ownT t) := by
  unfold ownT; split
  · exact trim_in h
  · exact ⟨n64, (fun _ h => by cases h), Nat.zero_le _⟩
structure W (rows : List Row) (v : Nat) : Prop where
  g : goodL rows
  r : ∀ i, i < rows.length → key rows i = -1 ∨ ∃ u : Nat, u < v ∧ key rows i = (u : Int)
  d : ∀ i j, i < rows.length → j < rows.length → key rows i ≠ -1 → key rows i = key rows j → i = j
theorem start_W {l : List TTerm} (h : inL l) : W (startL l) 0 := by
  have hk : ∀ i, i < (startL l).length → key (startL l) i = -1 := fun i hi => by
    unfold key startL; rw [row_mk (by unfold startL at hi; rwa [mk_len] at hi)]
  exact ⟨mkL_good fun i => own_in (t_in h i), fun i hi => .inl (hk i hi), fun i j hi hj hn => absurd (hk i hi) hn⟩
theorem take_some {rows r : List Row} {a v : Nat} (e : takeP rows a v = some r) : pivB rows a v = true ∧ (∀ i, i < rows.length → badR rows (pivT rows a v).1 a v i = false) ∧ r = mkL rows.length (newR rows (pivT rows a v).1 a v) := by
  unfold takeP at e
  split at e
  · rename_i h
    split at e
    · cases e
    · rename_i h2
      cases e
      exact ⟨h, fst_none.1 h2, rfl⟩
  · cases e
theorem take_key {rows r : List Row} {a v : Nat} (e : takeP rows a v = some r) {i : Nat} (hi : i < rows.length) : key r i = if i = a then (v : Int) else key rows i := by
  obtain ⟨_, _, rfl⟩ := take_some e
  unfold key
  rw [row_mk hi]
  unfold newR
  by_cases h : i = a
  · rw [if_pos h, if_pos h]
  · rw [if_neg h, if_neg h]
    split <;> rfl
theorem pick_some {rows : List Row} {v a : Nat} (h : pick rows v = some a) : a < rows.length ∧ key rows a = -1 ∧ (atT (rowAt rows a).f0 v).f0 ≠ 0 := by
  obtain ⟨h1, h2⟩ := fst_some h
  unfold hit at h2
  simp at h2
  exact ⟨h1, h2.1, h2.2⟩
theorem step_W {rows r : List Row} {v : Nat} (h : W rows v) (e : stepP rows v = some r) : W r (v + 1) := by
  unfold stepP at e
  cases hp : pick rows v with
  | none =>
    rw [hp] at e
    cases e
    exact ⟨h.g, fun i hi => (h.r i hi).imp id fun ⟨u, h1, h2⟩ => ⟨u, by omega, h2⟩, h.d⟩
  | some a =>
    rw [hp] at e
    dsimp only at e
    obtain ⟨ha, _, _⟩ := pick_some hp
    obtain ⟨hg, hl⟩ := take_good h.g e
    refine ⟨hg, fun i hi => ?_, fun i j hi hj hn he => ?_⟩
    · rw [take_key e (by omega)]
      split
      · exact .inr ⟨v, by omega, rfl⟩
      · exact (h.r i (by omega)).imp id fun ⟨u, h1, h2⟩ => ⟨u, by omega, h2⟩
    · rw [take_key e (by omega)] at hn he
      rw [take_key e (by omega)] at he
      have hv : ∀ k, k < rows.length → key rows k ≠ (v : Int) := fun k hk => by
        rcases h.r k hk with h1 | ⟨u, h1, h2⟩ <;> omega
      by_cases h1 : i = a
      · rw [if_pos h1] at he
        by_cases h2 : j = a
        · omega
        · rw [if_neg h2] at he
          exact absurd he.symm (hv j (by omega))
      · rw [if_neg h1] at he hn
        by_cases h2 : j = a
        · rw [if_pos h2] at he
          exact absurd he (hv i (by omega))
        · rw [if_neg h2] at he
          exact h.d i j (by omega) (by omega) hn he
theorem run_W : ∀ (k i : Nat) (rows r : List Row), W rows i → runF rows (List.range' i k) = some r → W r (i + k) ∧ r.length = rows.length := by
  intro k
  induction k with
  | zero => intro i rows r h e; cases e; exact ⟨h, rfl⟩
  | succ k ih =>
    intro i rows r h e
    rw [List.range'_succ] at e
    unfold runF at e
    cases hs : stepP rows i with
    | none => rw [hs] at e; cases e
    | some r1 =>
      rw [hs] at e
      obtain ⟨h1, h2⟩ := ih (i + 1) r1 r (step_W h hs) e
      exact ⟨by rw [show i + (k + 1) = i + 1 + k by omega]; exact h1, by rw [h2, (step_good h.g hs).2]⟩
def idxV (rows : List Row) (u : Nat) : Option Nat := fst rows.length fun i => decide (key rows i = (u : Int))
def pairs (rows : List Row) (v : Nat) : List (Nat × Nat) := (List.range v).filterMap fun u => (idxV rows u).map fun i => (i, u)
def usedR (rows : List Row) : List Row := (pairs rows 8).map fun p => rowAt rows p.1
theorem pair_mem {rows : List Row} {v : Nat} {p : Nat × Nat} (h : p ∈ pairs rows v) : p.1 < rows.length ∧ p.2 < v ∧ key rows p.1 = (p.2 : Int) := by
  unfold pairs at h
  obtain ⟨u, hu, h⟩ := List.mem_filterMap.1 h
  obtain ⟨i, hi, rfl⟩ := Option.map_eq_some_iff.1 h
  have := fst_some hi
  simp at this
  exact ⟨this.1, List.mem_range.1 hu, this.2⟩
def badC (r : Row) : Bool := decide (r.f1 = -1) && !decide (r.f0.f1.f0 = 0)
def endP (r : List Row) : List TTerm × List Int × Int := if r.any badC then ([], [], 1) else ((usedR r).map fun x => x.f0, (usedR r).map fun x => x.f1, 0)
def solP (l : List TTerm) : List TTerm × List Int × Int :=
  if l.any (fun t => !rt t) then ([], [], 2) else match runF (startL l) (List.range 8) with | none => ([], [], 2) | some r => endP r
theorem asc_eq : ∀ {l l' : List Row}, l.Pairwise (fun a b => a.f1 < b.f1) → l'.Pairwise (fun a b => a.f1 < b.f1) → (∀ x, x ∈ l ↔ x ∈ l') → l = l'
  | [], [], _, _, _ => rfl
  | [], a :: l', _, _, h => by have := (h a).2 List.mem_cons_self; cases this
  | a :: l, [], _, _, h => by have := (h a).1 List.mem_cons_self; cases this
  | a :: l, b :: l', h1, h2, h => by
    obtain ⟨ha, k1⟩ := List.pairwise_cons.1 h1
    obtain ⟨hb, k2⟩ := List.pairwise_cons.1 h2
    have e : a = b := by
      rcases List.mem_cons.1 ((h a).1 List.mem_cons_self) with e | e
      · exact e
      · rcases List.mem_cons.1 ((h b).2 List.mem_cons_self) with e' | e'
        · exact e'.symm
        · have := ha b e'; have := hb a e; omega
    subst e
    refine congrArg (List.cons a) (asc_eq k1 k2 fun x => ⟨fun hx => ?_, fun hx => ?_⟩)
    · rcases List.mem_cons.1 ((h x).1 (List.mem_cons_of_mem _ hx)) with e | e
      · subst e; have := ha x hx; omega
      · exact e
    · rcases List.mem_cons.1 ((h x).2 (List.mem_cons_of_mem _ hx)) with e | e
      · subst e; have := hb x hx; omega
      · exact e
theorem used_asc {rows : List Row} : (usedR rows).Pairwise fun a b => a.f1 < b.f1 := by
  unfold usedR
  rw [List.pairwise_map]
  have : (pairs rows 8).Pairwise fun p q => p.2 < q.2 := by
    unfold pairs
    refine List.Pairwise.filterMap _ (fun a a' h b hb b' hb' => ?_) List.pairwise_lt_range
    obtain ⟨i, _, rfl⟩ := Option.map_eq_some_iff.1 hb
    obtain ⟨i', _, rfl⟩ := Option.map_eq_some_iff.1 hb'
    exact h
  refine List.Pairwise.imp_of_mem (fun {p q} hp hq h => ?_) this
  have h1 := (pair_mem hp).2.2
  have h2 := (pair_mem hq).2.2
  unfold key at h1 h2
  omega
theorem used_mem {rows : List Row} (h : W rows 8) (x : Row) : x ∈ usedR rows ↔ x ∈ rows ∧ x.f1 ≠ -1 := by
  constructor
  · intro hx
    unfold usedR at hx
    obtain ⟨p, hp, rfl⟩ := List.mem_map.1 hx
    obtain ⟨h1, h2, h3⟩ := pair_mem hp
    refine ⟨by rw [← row_of h1]; exact List.getElem_mem h1, ?_⟩
    unfold key at h3; omega
  · rintro ⟨hx, hn⟩
    obtain ⟨i, hi, rfl⟩ := List.getElem_of_mem hx
    rw [row_of hi] at hn ⊢
    rcases h.r i hi with h1 | ⟨u, h1, h2⟩
    · exact absurd h1 hn
    · unfold usedR
      refine List.mem_map.2 ⟨(i, u), ?_, rfl⟩
      unfold pairs
      refine List.mem_filterMap.2 ⟨u, List.mem_range.2 h1, ?_⟩
      cases hq : idxV rows u with
      | none =>
        have := fst_none.1 hq i hi
        simp [h2] at this
      | some j =>
        have hj := fst_some hq
        simp at hj
        rw [h.d i j hi hj.1 hn (by rw [h2, hj.2])]; rfl
theorem idxT {l : List TTerm} {f : TTerm → Option Bool} {g : TTerm → Bool} (h : l.length ≤ 1000) (hf : ∀ o ∈ l, f o = some (g o)) : m_slices_ContainsFunc_api_Term l f = some (l.any g) := by
  unfold m_slices_ContainsFunc_api_Term m_slices_IndexFunc_api_Term
  rw [show ((0 : Int)) = ((0 : Nat) : Int) from rfl, loopO_first (b := m_slices_IndexFunc_api_Term_L0 l f) (fun i : Nat => (i : Int)) l.length (fun i => match l[i]? with | some o => g o | none => false) (fun i => (i : Int)) () ?_ ?_]
  · cases hq : fst l.length (fun i => match l[i]? with | some o => g o | none => false) with
    | none =>
      rw [fst_none] at hq
      have : l.any g = false := by
        rw [List.any_eq_false]
        intro x hx
        obtain ⟨i, hi, rfl⟩ := List.getElem_of_mem hx
        have := hq i hi
        rw [List.getElem?_eq_getElem hi] at this
        simpa using this
      rw [this]; rfl
    | some i =>
      obtain ⟨h1, h2⟩ := fst_some hq
      rw [List.getElem?_eq_getElem h1] at h2
      have : l.any g = true := List.any_eq_true.2 ⟨_, List.getElem_mem h1, h2⟩
      rw [this]
      simp only [some_bind']
      rw [decide_eq_true (show ((0 : Nat) : Int) ≤ (i : Int) by omega)]
  · intro i hi _
    unfold m_slices_IndexFunc_api_Term_L0
    simp only [lt_cast, decide_eq_true hi, ifB_true, gi_of hi, some_bind', hf _ (List.getElem_mem hi), List.getElem?_eq_getElem hi]
    rw [wrap_succ (by omega)]
    cases g l[i] <;> rfl
  · intro _
    unfold m_slices_IndexFunc_api_Term_L0
    simp only [lt_cast, Nat.lt_irrefl, decide_false, ifB_false]
theorem start_loop {l : List TTerm} (h : inL l) (hl : l.length ≤ 12) : loopO (m_gauss_Solve_L0 l) (0, []) = some (startL l) := by
  have main := loopO_count (b := m_gauss_Solve_L0 l) l.length (fun i s => s = ((i : Int), mkL i fun i => (⟨ownT (tAt l i), -1⟩ : Row))) (fun r => r = startL l) ?_ ?_ (s := (0, [])) rfl
  · obtain ⟨r, hr, rfl⟩ := main
    exact hr
  · rintro i _ hi rfl
    left
    unfold m_gauss_Solve_L0
    dsimp only
    rw [decide_eq_true (show (i : Int) < (l.length : Int) by omega), ifB_true, t_gi hi]
    simp only [some_bind', ownP (t_in h i)]
    rw [rq_true (decide_eq_true (by rw [mk_len]; simp; omega)), wrap_succ (by omega)]
    exact ⟨_, rfl, by rw [mk_succ]⟩
  · rintro _ rfl
    unfold m_gauss_Solve_L0
    dsimp only
    rw [decide_eq_false (by omega)]
    exact ⟨_, rfl, rfl⟩
theorem end_loop {r s : List Row} {sy : TGauss_system} (hs : s.Perm r) (hw : W r 8) (hl : r.length ≤ 12) (hsy : sy.f0.length = s.length) (ho : ∀ x y, x < y → y < r.length → key s x ≤ key s y) :
    Option.bind (loopO (m_gauss_Solve_L1 sy s) ([], [], 0)) (fun z => (match z with  | .inl (v41, v43) =>  (some ((v41, v43, 0)))  | .inr r => (some r))) = some (endP r) := by
  have sl := hs.length_eq
  have key1 := loopO_first (b := m_gauss_Solve_L1 sy s) (fun i : Nat => (((s.take i).filter fun x => !decide (x.f1 = -1)).map (fun x => x.f0), ((s.take i).filter fun x => !decide (x.f1 = -1)).map (fun x => x.f1), (i : Int))) s.length (fun i => badC (rowAt s i))
    (fun _ => ([], [], 1)) ((s.filter fun x => !decide (x.f1 = -1)).map (fun x => x.f0), (s.filter fun x => !decide (x.f1 = -1)).map (fun x => x.f1)) ?_ ?_
  · rw [show (([], [], 0) : List TTerm × List Int × Int) = (((s.take 0).filter fun x => !decide (x.f1 = -1)).map (fun x => x.f0), ((s.take 0).filter fun x => !decide (x.f1 = -1)).map (fun x => x.f1), ((0 : Nat) : Int)) from rfl, key1]
    unfold endP
    have hm : ∀ x, x ∈ s ↔ x ∈ r := fun x => hs.mem_iff
    cases hq : fst s.length (fun i => badC (rowAt s i)) with
    | some i =>
      obtain ⟨h1, h2⟩ := fst_some hq
      have : r.any badC = true := List.any_eq_true.2 ⟨rowAt s i, (hm _).1 (by rw [← row_of h1]; exact List.getElem_mem h1), h2⟩
      rw [this]; rfl
    | none =>
      have hn := fst_none.1 hq
      have : r.any badC = false := by
        rw [List.any_eq_false]
        intro x hx
        obtain ⟨i, hi, rfl⟩ := List.getElem_of_mem ((hm x).2 hx)
        have := hn i hi
        rw [row_of hi, this]; decide
      rw [this]
      have e : (s.filter fun x => !decide (x.f1 = -1)) = usedR r := by
        refine asc_eq ?_ used_asc fun x => ?_
        · have h1 : s.Pairwise fun a b => a.f1 = -1 ∨ b.f1 = -1 ∨ a.f1 < b.f1 := by
            have hd : s.Pairwise fun a b => a.f1 = -1 ∨ b.f1 = -1 ∨ a.f1 ≠ b.f1 := by
              refine hs.symm.pairwise ?_ fun {x y} h => by
                rcases h with h | h | h
                · exact .inr (.inl h)
                · exact .inl h
                · exact .inr (.inr fun e => h e.symm)
              rw [List.pairwise_iff_getElem]
              intro i j hi hj hij
              by_cases h1 : r[i].f1 = -1
              · exact .inl h1
              · refine .inr (.inr fun e => ?_)
                have := hw.d i j hi hj (by unfold key; rw [← row_of hi]; exact h1) (by unfold key; rw [← row_of hi, ← row_of hj]; exact e)
                omega
            have hle : s.Pairwise fun a b => a.f1 ≤ b.f1 := by
              rw [List.pairwise_iff_getElem]
              intro i j hi hj hij
              have := ho i j hij (by omega)
              unfold key at this
              rw [row_of hi, row_of hj]; exact this
            exact (hd.and hle).imp fun h => by
              rcases h with ⟨h | h | h, h'⟩
              · exact .inl h
              · exact .inr (.inl h)
              · exact .inr (.inr (by omega))
          refine List.Pairwise.imp_of_mem (fun {p q} hp hq h => ?_) (h1.filter _)
          have hp := (List.mem_filter.1 hp).2
          have hq := (List.mem_filter.1 hq).2
          simp at hp hq
          rcases h with h | h | h
          · exact absurd h hp
          · exact absurd h hq
          · exact h
        · rw [used_mem hw, List.mem_filter, hm]
          simp
      rw [e]; rfl
  · intro i hi _
    unfold m_gauss_Solve_L1
    dsimp only
    rw [decide_eq_true (show (i : Int) < (sy.f0.length : Int) by omega), ifB_true, rq_true (decide_eq_true (show (0 : Int) ≤ (i : Int) by omega)), rq_true rfl, row_gi hi]
    simp only [some_bind']
    have e0 : s.take (i + 1) = s.take i ++ [rowAt s i] := by rw [List.take_add_one, List.getElem?_eq_getElem hi, row_of hi]; rfl
    have fl : ((s.take i).filter fun x => !decide (x.f1 = -1)).length ≤ 12 := Nat.le_trans (List.length_filter_le _ _) (by rw [List.length_take]; omega)
    rw [wrap_succ (by omega), e0, List.filter_append, List.map_append, List.map_append]
    unfold badC
    by_cases h1 : (rowAt s i).f1 = -1
    · rw [decide_eq_true h1]
      simp only [Bool.not_true, ifB_false, Bool.true_and]
      have e1 : List.filter (fun x : Row => !decide (x.f1 = -1)) [rowAt s i] = [] := by simp [h1]
      rw [e1]
      by_cases h2 : (rowAt s i).f0.f1.f0 = 0
      · rw [decide_eq_true h2]
        simp only [Bool.not_true, ifB_false, some_bind', List.map_nil, List.append_nil]
        rfl
      · rw [decide_eq_false h2]
        rfl
    · rw [decide_eq_false h1]
      have e1 : List.filter (fun x : Row => !decide (x.f1 = -1)) [rowAt s i] = [rowAt s i] := by simp [h1]
      rw [e1]
      simp only [Bool.not_false, ifB_true]
      rw [rq_true (decide_eq_true (by rw [List.length_map]; simp; omega)), rq_true (decide_eq_true (by rw [List.length_map]; simp; omega))]
      rfl
  · intro _
    unfold m_gauss_Solve_L1
    dsimp only
    rw [decide_eq_false (by omega)]
    rw [List.take_length]; rfl
theorem solveE {l : List TTerm} (h : inL l) (hl : l.length ≤ 12) : m_gauss_Solve l = some (solP l) := by
  unfold m_gauss_Solve solP
  rw [decide_eq_false (show ¬ 400 < (l.length : Int) by omega), idxT (g := fun t => !rt t) (by omega) fun t ht => by unfold m_gauss_Solve_1; rw [tR (h t ht)]; rfl]
  simp only [ifB_false, some_bind']
  cases l.any (fun t => !rt t) with
  | true => rfl
  | false =>
    simp only [ifB_false, start_loop h hl, some_bind', Bool.false_eq_true, if_false]
    have hw := start_W h
    have sl : (startL l).length = l.length := mk_len
    obtain ⟨b, l', h1, h2⟩ := steps_loop 8 0 (startL l) (by omega) hw.g (by omega)
    have h1' : m_gauss_system_solve ⟨startL l, false⟩ = some ⟨l', b⟩ := by
      unfold m_gauss_system_solve
      dsimp only
      rw [show ((0 : Int)) = ((0 : Nat) : Int) from rfl, h1]; rfl
    rw [h1', ← List.range_eq_range'] at *
    simp only [some_bind']
    cases hr : runF (startL l) (List.range 8) with
    | none =>
      rw [hr] at h2
      dsimp only at h2
      rw [h2]; rfl
    | some r =>
      rw [hr] at h2
      obtain ⟨rfl, rfl⟩ := h2
      simp only [ifB_false]
      rw [List.range_eq_range'] at hr
      obtain ⟨w8, rl⟩ := run_W 8 0 _ _ hw hr
      have hk : inKeys l' := fun i => by
        by_cases hi : i < l'.length
        · rcases w8.r i hi with h | ⟨u, h1, h2⟩ <;> omega
        · unfold key rowAt; rw [List.getElem?_eq_none (by omega)]; exact ⟨by decide, by decide⟩
      obtain ⟨s, s1, s2, s3⟩ := sortP (rows := l') (by omega) hk
      have s1' : m_slices_SortStableFunc_gauss_row l' (fun x0 x1 => m_gauss_Solve_2 x0 x1) = some s := s1
      rw [s1']
      simp only [some_bind']
      exact end_loop s2 (by simpa using w8) (by omega) s2.length_eq.symm s3
end Go.E
end
section
set_option linter.all false
set_option maxRecDepth 10000
namespace Go.E
open Go Go.Proofs Go.Eng
theorem pairs_len {rows : List Row} {v : Nat} : (pairs rows v).length ≤ v := by
  unfold pairs
  exact Nat.le_trans (List.length_filterMap_le _ _) (by simp)
end Go.E
end
section
set_option linter.all false
set_option maxRecDepth 10000
namespace Go.E
open Go Go.Proofs Go.Eng
theorem eqR_self {r : TRat} : eqTRat r r = true := by unfold eqTRat; simp
theorem idxI {l : List Int} {x : Int} (hl : l.length ≤ 1000) : m_slices_Contains_int l x = some (l.any fun y => decide (x = y)) := by
  unfold m_slices_Contains_int m_slices_Index_int
  rw [show ((0 : Int)) = ((0 : Nat) : Int) from rfl, loopO_first (b := m_slices_Index_int_L0 l x) (fun i : Nat => (i : Int)) l.length (fun i => match l[i]? with | some o => decide (x = o) | none => false) (fun i => (i : Int)) () ?_ ?_]
  · cases hq : fst l.length (fun i => match l[i]? with | some o => decide (x = o) | none => false) with
    | none =>
      rw [fst_none] at hq
      have : l.any (fun y => decide (x = y)) = false := by
        rw [List.any_eq_false]
        intro x hx
        obtain ⟨i, hi, rfl⟩ := List.getElem_of_mem hx
        have := hq i hi
        rw [List.getElem?_eq_getElem hi] at this
        simpa using this
      rw [this]; rfl
    | some i =>
      obtain ⟨h1, h2⟩ := fst_some hq
      rw [List.getElem?_eq_getElem h1] at h2
      have : l.any (fun y => decide (x = y)) = true := List.any_eq_true.2 ⟨_, List.getElem_mem h1, h2⟩
      rw [this]
      simp only [some_bind']
      rw [decide_eq_true (show ((0 : Nat) : Int) ≤ (i : Int) by omega)]
  · intro i hi _
    unfold m_slices_Index_int_L0
    simp only [lt_cast, decide_eq_true hi, ifB_true, gi_of hi, some_bind', List.getElem?_eq_getElem hi]
    rw [wrap_succ (by omega)]
    cases decide (x = l[i]) <;> rfl
  · intro _
    unfold m_slices_Index_int_L0
    simp only [lt_cast, Nat.lt_irrefl, decide_false, ifB_false]
abbrev w1 : List TTerm := [⟨[⟨1, 1⟩, ⟨1, 1⟩], ⟨-1, 1⟩⟩, ⟨[⟨1, 1⟩, ⟨-1, 1⟩], ⟨0, 1⟩⟩]
abbrev w2 : List TTerm := [⟨[], ⟨1, 1⟩⟩]
theorem in64T_of {t : TTerm} (h : (decide (t.f0.length ≤ 1000) && decide (in64R t.f1) && t.f0.all fun r => decide (in64R r)) = true) : in64T t := by
  simp only [Bool.and_eq_true, decide_eq_true_eq, List.all_eq_true] at h
  exact ⟨h.1.2, h.2, h.1.1⟩
theorem used_in {r : List Row} (h : goodL r) : inL ((usedR r).map fun x => x.f0) := by
  intro t ht
  obtain ⟨x, hx, rfl⟩ := List.mem_map.1 ht
  unfold usedR at hx
  obtain ⟨p, _, rfl⟩ := List.mem_map.1 hx
  exact h p.1
end Go.E
end
section
set_option linter.all false
set_option maxRecDepth 10000
namespace Go.E
open Go Go.Proofs Go.Eng
def qv (r : TRat) : Rat := BallQ.q r.f0 r.f1
theorem rr_right {r : TRat} (h : rr r = true) : BallQ.Right r.f0 r.f1 := of_decide_eq_true h
theorem qv_inj {a b : TRat} (ha : in64R a) (hb : in64R b) (ra : rr a = true) (rb : rr b = true) (e : qv a = qv b) : a = b := by
  obtain ⟨h1, h2⟩ := BallQ.right_inj (rr_right ra) ha.1 ha.2 (rr_right rb) hb.1 hb.2 e
  cases a; cases b; cases h1; cases h2; rfl
theorem qv_zero {r : TRat} (h : rr r = true) : r.f0 = 0 ↔ qv r = 0 := by
  unfold qv BallQ.q
  obtain ⟨h0, _, _⟩ := rr_right h
  rw [Rat.mkRat_eq_zero (by omega)]
theorem qv_n : qv ⟨0, 1⟩ = 0 := by decide +kernel
theorem qv_1 : qv ⟨1, 1⟩ = 1 := by decide +kernel
theorem out_q {x : Rat} (h : (toR (BallQ.out x)).2 = 0) : qv (toR (BallQ.out x)).1 = x := by
  by_cases hf : BallQ.fits x
  · rw [out_ok hf]; exact BallQ.q_self x
  · rw [out_over hf] at h; cases h
theorem addR_q {a b : TRat} (h : (addR a b).2 = 0) : rr a = true ∧ rr b = true ∧ qv (addR a b).1 = qv a + qv b := by
  unfold addR addS at h ⊢
  split at h
  · rename_i hc
    rw [if_pos hc]
    exact ⟨decide_eq_true hc.1, decide_eq_true hc.2, out_q h⟩
  · cases h
theorem mulR_q {a b : TRat} (h : (mulR a b).2 = 0) : rr a = true ∧ rr b = true ∧ qv (mulR a b).1 = qv a * qv b := by
  unfold mulR mulS at h ⊢
  split at h
  · rename_i hc
    rw [if_pos hc]
    exact ⟨decide_eq_true hc.1, decide_eq_true hc.2, out_q h⟩
  · cases h
theorem inv_q {n d : Int} (h : BallQ.Right n d) (hz : n ≠ 0) : BallQ.q (invN n d) (n.natAbs : Int) = (BallQ.q n d)⁻¹ := by
  obtain ⟨h0, _, _⟩ := h
  unfold BallQ.q
  rw [BallQ.q_div, BallQ.q_div]
  obtain ⟨D, rfl⟩ : ∃ D : Nat, d = (D : Int) := ⟨d.toNat, by omega⟩
  have hD : (D : Rat) ≠ 0 := BallQ.cast_ne (by omega)
  rw [Int.toNat_natCast, Int.toNat_natCast]
  unfold invN
  by_cases hn : n < 0
  · rw [if_pos hn]
    obtain ⟨N, rfl⟩ : ∃ N : Nat, n = -(N : Int) := ⟨n.natAbs, by omega⟩
    have hN : (N : Rat) ≠ 0 := BallQ.cast_ne (by omega)
    rw [Int.natAbs_neg, Int.natAbs_natCast]
    simp only [Rat.intCast_neg, Rat.intCast_natCast]
    grind
  · rw [if_neg hn]
    obtain ⟨N, rfl⟩ : ∃ N : Nat, n = (N : Int) := ⟨n.natAbs, by omega⟩
    have hN : (N : Rat) ≠ 0 := BallQ.cast_ne (by omega)
    rw [Int.natAbs_natCast]
    simp only [Rat.intCast_natCast]
    grind
theorem divR_q {a b : TRat} (hb : in64R b) (h : (divR a b).2 = 0) : rr a = true ∧ rr b = true ∧ qv b ≠ 0 ∧ qv (divR a b).1 = qv a * (qv b)⁻¹ := by
  unfold divR divS at h ⊢
  split at h
  · rename_i hc
    rw [if_pos hc]
    unfold mulS at h ⊢
    split at h
    · rename_i hc2
      rw [if_pos hc2]
      refine ⟨decide_eq_true hc.1, decide_eq_true hc.2.1, fun e => hc.2.2 ((qv_zero (decide_eq_true hc.2.1)).2 e), ?_⟩
      rw [out_q h, inv_q hc.2.1 hc.2.2]; rfl
    · cases h
  · cases h
theorem neg_q {c : TRat} (hc : in64R c) (h : rr c = true) : rr (neg c) = true ∧ qv (neg c) = -qv c := by
  have hr := rr_right h
  have e : neg c = ⟨-c.f0, c.f1⟩ := by
    unfold neg
    obtain ⟨⟨n1, n2⟩, _⟩ := hc
    have := hr.2.1
    rw [wrap_i64 (by omega) (by omega)]; simp
  rw [e]
  have := right_neg hr hc.1
  exact ⟨decide_eq_true this.1, this.2.2⟩
def V (t : TTerm) (i : Nat) : Rat := qv (atT t i)
def K (t : TTerm) : Rat := qv t.f1
def Cn (t : TTerm) : Prop := ∀ n, t.f0.length = n + 1 → (atT t n).f0 ≠ 0
structure Ok (t : TTerm) : Prop where
  i : in64T t
  r : rt t = true
  c : Cn t
theorem cut_zero {l : List TRat} : ∀ {n : Nat}, n ≤ l.length → ∀ i (h : i < l.length), i < n → cutN l n ≤ i → (l[i]).f0 = 0 := by
  intro n
  induction n with
  | zero => intro _ i _ hi; omega
  | succ n ih =>
    intro hn i h hi hc
    rw [cutN_succ (by omega)] at hc
    by_cases hz : (l[n]).f0 = 0
    · rw [if_pos hz] at hc
      by_cases e : i = n
      · subst e; exact hz
      · exact ih (by omega) i h (by omega) hc
    · rw [if_neg hz] at hc; omega
theorem cut_last {l : List TRat} : ∀ {n : Nat}, n ≤ l.length → ∀ m, cutN l n = m + 1 → ∃ h : m < l.length, (l[m]).f0 ≠ 0 := by
  intro n
  induction n with
  | zero => intro _ m h; cases h
  | succ n ih =>
    intro hn m h
    rw [cutN_succ (by omega)] at h
    by_cases hz : (l[n]).f0 = 0
    · rw [if_pos hz] at h; exact ih (by omega) m h
    · rw [if_neg hz] at h
      obtain rfl : n = m := by omega
      exact ⟨by omega, hz⟩
theorem trim_at {t : TTerm} {i : Nat} : atT (trimT t) i = if i < cutN t.f0 t.f0.length then atT t i else ⟨0, 1⟩ := by
  unfold atT trimT
  dsimp only
  rw [List.getElem?_take]
  split <;> rfl
theorem trim_V {t : TTerm} (h : rt t = true) (i : Nat) : V (trimT t) i = V t i := by
  unfold V
  rw [trim_at]
  split
  · rfl
  · rename_i hc
    by_cases hi : i < t.f0.length
    · have hz := cut_zero (Nat.le_refl _) i hi hi (by omega)
      have ha := at_rr h i
      have e : atT t i = t.f0[i] := by unfold atT; rw [List.getElem?_eq_getElem hi]; rfl
      rw [e] at ha ⊢
      rw [qv_n, (qv_zero ha).1 hz]
    · unfold atT; rw [List.getElem?_eq_none (by omega)]; rfl
theorem trim_cn {t : TTerm} : Cn (trimT t) := by
  intro n h
  have hc := cutN_le t.f0 t.f0.length
  unfold trimT at h
  dsimp only at h
  rw [List.length_take] at h
  obtain ⟨h1, h2⟩ := cut_last (Nat.le_refl _) n (show cutN t.f0 t.f0.length = n + 1 by omega)
  rw [trim_at, if_pos (by omega)]
  unfold atT
  rw [List.getElem?_eq_getElem h1]; exact h2
theorem lst_at {f : Nat → TRat × Int} {k : TRat} {n i : Nat} : atT ⟨lst f n, k⟩ i = if i < n then (f i).1 else ⟨0, 1⟩ := by
  unfold atT lst
  dsimp only
  rw [List.getElem?_map]
  by_cases h : i < n
  · rw [List.getElem?_range h, if_pos h]; rfl
  · rw [List.getElem?_eq_none (by rw [List.length_range]; omega), if_neg h]; rfl
theorem each_ok {k : TRat × Int} {f : Nat → TRat × Int} {n : Nat} (h : n ≤ 8) (hk : in64R k.1 ∧ (k.2 = 0 → rr k.1 = true)) (hf : ∀ i, in64R (f i).1 ∧ ((f i).2 = 0 → rr (f i).1 = true)) (e : (eachT k f n).2 = 0) :
    Ok (eachT k f n).1 ∧ k.2 = 0 ∧ (∀ i, i < n → (f i).2 = 0) ∧ K (eachT k f n).1 = qv k.1 ∧ ∀ i, V (eachT k f n).1 i = if i < n then qv (f i).1 else 0 := by
  have g := each_good h hk hf
  unfold eachT at e g ⊢
  by_cases hz : k.2 = 0
  · rw [if_pos hz] at e g ⊢
    cases hq : fst n (bad f) with
    | some i =>
      rw [hq] at e
      have := (fst_some hq).2
      unfold bad at this
      simp at this
      exact absurd e this
    | none =>
      have hb0 := fst_none.1 hq
      have hz2 : ∀ i, i < n → (f i).2 = 0 := fun i hi => by have := hb0 i hi; unfold bad at this; simpa using this
      rw [hq] at g
      have hr := lst_rt (f := f) h (hk.2 hz) fun i hi => (hf i).2 (hz2 i hi)
      refine ⟨⟨g.1, g.2 rfl, trim_cn⟩, hz, hz2, rfl, fun i => ?_⟩
      dsimp only
      rw [trim_V hr]
      unfold V
      rw [lst_at]
      split
      · rfl
      · exact qv_n
  · rw [if_neg hz] at e; exact absurd e hz
theorem at_far {t : TTerm} {i : Nat} (h : t.f0.length ≤ i) : V t i = 0 := by
  unfold V atT; rw [List.getElem?_eq_none h]; exact qv_n
theorem addT_q {a b : TTerm} (h : (addT a b).2 = 0) : Ok (addT a b).1 ∧ K (addT a b).1 = K a + K b ∧ ∀ i, V (addT a b).1 i = V a i + V b i := by
  unfold addT at h ⊢
  split at h
  · rename_i hc
    rw [if_pos hc]
    simp only [Bool.and_eq_true] at hc
    have h1 := rt_len hc.1
    have h2 := rt_len hc.2
    obtain ⟨o, k0, f0, kq, vq⟩ := each_ok (by omega) (add_good _ _) (fun i => add_good _ _) h
    refine ⟨o, by rw [kq]; exact (addR_q k0).2.2, fun i => ?_⟩
    rw [vq]
    split
    · rename_i hi; exact (addR_q (f0 i hi)).2.2
    · rw [at_far (by omega), at_far (by omega)]; grind
  · cases h
theorem mulT_q {a : TTerm} {r : TRat} (h : (mulT a r).2 = 0) : rr r = true ∧ Ok (mulT a r).1 ∧ K (mulT a r).1 = K a * qv r ∧ ∀ i, V (mulT a r).1 i = V a i * qv r := by
  unfold mulT at h ⊢
  split at h
  · rename_i hc
    rw [if_pos hc]
    simp only [Bool.and_eq_true] at hc
    have h1 := rt_len hc.1
    obtain ⟨o, k0, f0, kq, vq⟩ := each_ok (by omega) (mul_good _ _) (fun i => mul_good _ _) h
    refine ⟨hc.2, o, by rw [kq]; exact (mulR_q k0).2.2, fun i => ?_⟩
    rw [vq]
    split
    · rename_i hi; exact (mulR_q (f0 i hi)).2.2
    · rw [at_far (by omega)]; grind
  · cases h
theorem lessT_q {a p : TTerm} {c : TRat} (hc : in64R c) (rc : rr c = true) (h : (lessT a p c).2 = 0) : Ok (lessT a p c).1 ∧ K (lessT a p c).1 = K a - qv c * K p ∧ ∀ i, V (lessT a p c).1 i = V a i - qv c * V p i := by
  unfold lessT at h ⊢
  split at h
  · rename_i hm
    rw [if_pos hm]
    obtain ⟨_, _, mk, mv⟩ := mulT_q hm
    obtain ⟨o, ak, av⟩ := addT_q h
    obtain ⟨_, hn⟩ := neg_q hc rc
    refine ⟨o, by rw [ak, mk, hn]; grind, fun i => by rw [av, mv, hn]; grind⟩
  · rename_i hm; exact absurd h hm
theorem ok_eq {a b : TTerm} (ha : Ok a) (hb : Ok b) (hk : K a = K b) (hv : ∀ i, V a i = V b i) : a = b := by
  have hl : a.f0.length = b.f0.length := by
    rcases Nat.lt_trichotomy a.f0.length b.f0.length with h | h | h
    · exfalso
      have h1 := hb.c (b.f0.length - 1) (by omega)
      have h2 := hv (b.f0.length - 1)
      rw [at_far (by omega)] at h2
      exact h1 ((qv_zero (at_rr hb.r _)).2 h2.symm)
    · exact h
    · exfalso
      have h1 := ha.c (a.f0.length - 1) (by omega)
      have h2 := hv (a.f0.length - 1)
      rw [at_far (t := b) (by omega)] at h2
      exact h1 ((qv_zero (at_rr ha.r _)).2 h2)
  have e1 : a.f1 = b.f1 := by
    have r1 := ha.r; have r2 := hb.r
    unfold rt at r1 r2
    simp only [Bool.and_eq_true] at r1 r2
    exact qv_inj ha.i.k hb.i.k r1.1.2 r2.1.2 hk
  have e0 : a.f0 = b.f0 := by
    apply List.ext_getElem hl
    intro i h1 h2
    have e := qv_inj (at_in ha.i i) (at_in hb.i i) (at_rr ha.r i) (at_rr hb.r i) (hv i)
    unfold atT at e
    rw [List.getElem?_eq_getElem h1, List.getElem?_eq_getElem h2] at e
    exact e
  cases a; cases b; cases e0; cases e1; rfl
theorem own_q {t : TTerm} (h : in64T t) (hr : rt t = true) : Ok (ownT t) ∧ K (ownT t) = K t ∧ ∀ i, V (ownT t) i = V t i := by
  unfold ownT
  rw [if_pos hr]
  exact ⟨⟨trim_in h, trim_rt hr, trim_cn⟩, rfl, trim_V hr⟩
theorem own_ok {t : TTerm} (h : Ok t) : ownT t = t := by
  obtain ⟨o, k, v⟩ := own_q h.i h.r
  exact ok_eq o h k v
def Sm : Nat → (Nat → Rat) → Rat
  | 0, _ => 0
  | n + 1, f => Sm n f + f n
theorem Sm_congr {n : Nat} {f g : Nat → Rat} (h : ∀ i, i < n → f i = g i) : Sm n f = Sm n g := by
  induction n with
  | zero => rfl
  | succ n ih => unfold Sm; rw [ih fun i hi => h i (by omega), h n (by omega)]
theorem Sm_sub {n : Nat} {f g : Nat → Rat} {c : Rat} : Sm n (fun i => f i - c * g i) = Sm n f - c * Sm n g := by
  induction n with
  | zero => unfold Sm; grind
  | succ n ih => unfold Sm; rw [ih]; grind
theorem Sm_mul {n : Nat} {f : Nat → Rat} {c : Rat} : Sm n (fun i => f i * c) = Sm n f * c := by
  induction n with
  | zero => unfold Sm; grind
  | succ n ih => unfold Sm; rw [ih]; grind
theorem Sm_zero {n : Nat} {f : Nat → Rat} (h : ∀ i, i < n → f i = 0) : Sm n f = 0 := by
  induction n with
  | zero => rfl
  | succ n ih => unfold Sm; rw [ih fun i hi => h i (by omega), h n (by omega)]; grind
def ev (t : TTerm) (x : Nat → Rat) : Rat := K t + Sm 8 fun i => V t i * x i
theorem ev_less {a p t : TTerm} {c : Rat} {x : Nat → Rat} (hk : K t = K a - c * K p) (hv : ∀ i, V t i = V a i - c * V p i) : ev t x = ev a x - c * ev p x := by
  unfold ev
  rw [hk, Sm_congr (g := fun i => V a i * x i - c * (V p i * x i)) fun i _ => by rw [hv]; grind, Sm_sub]; grind
theorem ev_mul {a t : TTerm} {c : Rat} {x : Nat → Rat} (hk : K t = K a * c) (hv : ∀ i, V t i = V a i * c) : ev t x = ev a x * c := by
  unfold ev
  rw [hk, Sm_congr (g := fun i => V a i * x i * c) fun i _ => by rw [hv]; grind, Sm_mul]; grind
theorem ev_own {t : TTerm} {x : Nat → Rat} (h : in64T t) (hr : rt t = true) : ev (ownT t) x = ev t x := by
  obtain ⟨_, k, v⟩ := own_q h hr
  unfold ev
  rw [k, Sm_congr fun i _ => by rw [v]]
end Go.E
end
section
set_option linter.all false
set_option maxRecDepth 10000
namespace Go.E
open Go Go.Proofs Go.Eng
theorem take_q {rows r : List Row} {a v : Nat} (ha : a < rows.length) (hg : goodL rows) (hok : ∀ i, i < rows.length → Ok (rowAt rows i).f0) (e : takeP rows a v = some r) :
    ∃ p, V (rowAt rows a).f0 v ≠ 0 ∧ Ok p ∧ (K p = K (rowAt rows a).f0 * (V (rowAt rows a).f0 v)⁻¹ ∧ ∀ i, V p i = V (rowAt rows a).f0 i * (V (rowAt rows a).f0 v)⁻¹) ∧
      (rowAt r a).f0 = p ∧ ∀ i, i < rows.length → i ≠ a → Ok (rowAt r i).f0 ∧ K (rowAt r i).f0 = K (rowAt rows i).f0 - V (rowAt rows i).f0 v * K p ∧ ∀ j, V (rowAt r i).f0 j = V (rowAt rows i).f0 j - V (rowAt rows i).f0 v * V p j := by
  obtain ⟨hb, hbad, rfl⟩ := take_some e
  obtain ⟨p, hp⟩ : ∃ p, p = (pivT rows a v).1 := ⟨_, rfl⟩
  unfold pivB at hb
  simp only [Bool.and_eq_true, decide_eq_true_eq] at hb
  obtain ⟨h1, h2⟩ := hb
  obtain ⟨_, r1, nz, iq⟩ := divR_q (at_in (hg a) v) h1
  obtain ⟨_, pok, pk, pv⟩ := mulT_q h2
  have iq' : qv (invT rows a v).1 = (V (rowAt rows a).f0 v)⁻¹ := by
    show qv (divR ⟨1, 1⟩ _).1 = _
    rw [iq, qv_1]
    show 1 * (V (rowAt rows a).f0 v)⁻¹ = _
    grind
  refine ⟨p, nz, by rw [hp]; exact pok, ⟨by rw [hp, ← iq']; exact pk, fun i => by rw [hp, ← iq']; exact pv i⟩, ?_, fun i hi hne => ?_⟩
  · rw [row_mk ha]; unfold newR; rw [if_pos rfl, hp]
  · rw [row_mk hi]
    have hb := hbad i hi
    rw [← hp] at hb ⊢
    unfold newR
    rw [if_neg hne]
    by_cases hs : skip rows a v i = true
    · rw [if_pos hs]
      have hz : V (rowAt rows i).f0 v = 0 := by
        unfold skip at hs
        simp [hne] at hs
        exact (qv_zero (at_rr (hok i hi).r v)).1 hs
      rw [hz]
      exact ⟨hok i hi, by grind, fun j => by grind⟩
    · rw [if_neg hs]
      unfold badR at hb
      rw [Bool.not_eq_true] at hs
      rw [hs] at hb
      simp at hb
      exact lessT_q (at_in (hg i) v) (at_rr (hok i hi).r v) hb
structure Rf (rows : List Row) (v : Nat) : Prop where
  w : W rows v
  ok : ∀ i, i < rows.length → Ok (rowAt rows i).f0
  un : ∀ i, i < rows.length → key rows i = -1 → ∀ u, u < v → V (rowAt rows i).f0 u = 0
  pv : ∀ i (u : Nat), i < rows.length → key rows i = (u : Int) → V (rowAt rows i).f0 u = 1 ∧ (∀ w, w < u → V (rowAt rows i).f0 w = 0) ∧ ∀ j, j < rows.length → j ≠ i → V (rowAt rows j).f0 u = 0
def Sat (rows : List Row) (x : Nat → Rat) : Prop := ∀ i, i < rows.length → ev (rowAt rows i).f0 x = 0
theorem take_sat {rows r : List Row} {a v : Nat} {x : Nat → Rat} (h : Rf rows v) (ha : a < rows.length) (e : takeP rows a v = some r) : Sat r x ↔ Sat rows x := by
  obtain ⟨p, nz, pok, ⟨pk, pv⟩, pr, po⟩ := take_q ha h.w.g h.ok e
  have rl := (take_good h.w.g e).2
  have ep := ev_mul (x := x) pk pv
  have hz : ev p x = 0 ↔ ev (rowAt rows a).f0 x = 0 := by rw [ep]; grind
  constructor
  · intro hs i hi
    have hp : ev p x = 0 := by rw [← pr]; exact hs a (by omega)
    by_cases hne : i = a
    · subst hne; exact hz.1 hp
    · obtain ⟨_, k, w⟩ := po i hi hne
      have := ev_less (x := x) k w
      have h2 := hs i (by omega)
      rw [h2, hp] at this
      grind
  · intro hs i hi
    have hp : ev p x = 0 := hz.2 (hs a ha)
    by_cases hne : i = a
    · subst hne; rw [pr]; exact hp
    · obtain ⟨_, k, w⟩ := po i (by omega) hne
      rw [ev_less k w, hs i (by omega), hp]; grind
theorem take_Rf {rows r : List Row} {a v : Nat} (h : Rf rows v) (hp : pick rows v = some a) (e : takeP rows a v = some r) : Rf r (v + 1) := by
  obtain ⟨ha, hk, _⟩ := pick_some hp
  obtain ⟨p, nz, pok, ⟨pk, pv⟩, pr, po⟩ := take_q ha h.w.g h.ok e
  have rl := (take_good h.w.g e).2
  have p1 : V p v = 1 := by rw [pv]; grind
  have p0 : ∀ u, u < v → V p u = 0 := fun u hu => by rw [pv, h.un a ha hk u hu]; grind
  have kv : ∀ k, k < rows.length → key rows k ≠ (v : Int) := fun k hk => by
    rcases h.w.r k hk with h1 | ⟨u, h1, h2⟩ <;> omega
  refine ⟨step_W h.w (by unfold stepP; rw [hp]; exact e), fun i hi => ?_, fun i hi hki u hu => ?_, fun i u hi hki => ?_⟩
  · by_cases hne : i = a
    · subst hne; rw [pr]; exact pok
    · exact (po i (by omega) hne).1
  · rw [take_key e (by omega)] at hki
    have hne : i ≠ a := by intro hne; rw [if_pos hne] at hki; omega
    rw [if_neg hne] at hki
    obtain ⟨_, _, w⟩ := po i (by omega) hne
    rw [w]
    by_cases hu' : u = v
    · subst hu'; rw [p1]; grind
    · rw [h.un i (by omega) hki u (by omega), p0 u (by omega)]; grind
  · rw [take_key e (by omega)] at hki
    by_cases hne : i = a
    · subst hne
      rw [if_pos rfl] at hki
      obtain rfl : v = u := by omega
      rw [pr]
      refine ⟨p1, p0, fun j hj hji => ?_⟩
      obtain ⟨_, _, w⟩ := po j (by omega) hji
      rw [w, p1]; grind
    · rw [if_neg hne] at hki
      have huv : u < v := by
        rcases h.w.r i (by omega) with h1 | ⟨u', h1, h2⟩ <;> omega
      obtain ⟨h1, h2, h3⟩ := h.pv i u (by omega) hki
      obtain ⟨_, _, w⟩ := po i (by omega) hne
      refine ⟨by rw [w, h1, p0 u huv]; grind, fun x hx => by rw [w, h2 x hx, p0 x (by omega)]; grind, fun j hj hji => ?_⟩
      by_cases hja : j = a
      · subst hja; rw [pr]; exact p0 u huv
      · obtain ⟨_, _, w'⟩ := po j (by omega) hja
        rw [w', h3 j (by omega) hji, p0 u huv]; grind
theorem step_Rf {rows r : List Row} {v : Nat} (h : Rf rows v) (e : stepP rows v = some r) : Rf r (v + 1) ∧ ∀ x, Sat r x ↔ Sat rows x := by
  cases hp : pick rows v with
  | none =>
    have e0 := e
    unfold stepP at e
    rw [hp] at e
    cases e
    refine ⟨⟨step_W h.w e0, h.ok, fun i hi hk u hu => ?_, h.pv⟩, fun x => Iff.rfl⟩
    by_cases hu' : u = v
    · subst hu'
      have := fst_none.1 hp i hi
      unfold hit at this
      unfold key at hk
      rw [decide_eq_true hk] at this
      simp at this
      exact (qv_zero (at_rr (h.ok i hi).r u)).1 this
    · exact h.un i hi hk u (by omega)
  | some a =>
    have e0 := e
    unfold stepP at e
    rw [hp] at e
    exact ⟨take_Rf h hp e, fun x => take_sat h (pick_some hp).1 e⟩
theorem run_Rf : ∀ (k i : Nat) (rows r : List Row), Rf rows i → runF rows (List.range' i k) = some r → Rf r (i + k) ∧ ∀ x, Sat r x ↔ Sat rows x := by
  intro k
  induction k with
  | zero => intro i rows r h e; cases e; exact ⟨h, fun x => Iff.rfl⟩
  | succ k ih =>
    intro i rows r h e
    rw [List.range'_succ] at e
    unfold runF at e
    cases hs : stepP rows i with
    | none => rw [hs] at e; cases e
    | some r1 =>
      rw [hs] at e
      obtain ⟨s1, s2⟩ := step_Rf h hs
      obtain ⟨h1, h2⟩ := ih (i + 1) r1 r s1 e
      exact ⟨by rw [show i + (k + 1) = i + 1 + k by omega]; exact h1, fun x => (h2 x).trans (s2 x)⟩
theorem start_Rf {l : List TTerm} (h : inL l) (hr : ∀ t ∈ l, rt t = true) : Rf (startL l) 0 ∧ ∀ x, Sat (startL l) x ↔ ∀ t ∈ l, ev t x = 0 := by
  have sl : (startL l).length = l.length := mk_len
  have hw := start_W h
  have rw0 : ∀ i, i < l.length → rowAt (startL l) i = ⟨ownT (tAt l i), -1⟩ := fun i hi => by unfold startL; rw [row_mk hi]
  have ht : ∀ i, i < l.length → tAt l i ∈ l := fun i hi => by rw [← t_of hi]; exact List.getElem_mem hi
  refine ⟨⟨hw, fun i hi => ?_, fun i hi hk u hu => by omega, fun i u hi hk => ?_⟩, fun x => ⟨fun hs t htl => ?_, fun hs i hi => ?_⟩⟩
  · rw [sl] at hi
    rw [rw0 i hi]
    exact (own_q (t_in h i) (hr _ (ht i hi))).1
  · rcases hw.r i hi with h1 | ⟨u', h1, h2⟩ <;> omega
  · obtain ⟨i, hi, rfl⟩ := List.getElem_of_mem htl
    have := hs i (by omega)
    rw [rw0 i hi, ev_own (t_in h i) (hr _ (ht i hi))] at this
    rw [t_of hi]; exact this
  · rw [sl] at hi
    rw [rw0 i hi, ev_own (t_in h i) (hr _ (ht i hi))]
    exact hs _ (ht i hi)
structure Red (U : List Row) : Prop where
  asc : U.Pairwise fun a b => a.f1 < b.f1
  ok : ∀ r ∈ U, Ok r.f0
  pv : ∀ r ∈ U, ∃ u : Nat, u < 8 ∧ r.f1 = (u : Int) ∧ V r.f0 u = 1 ∧ (∀ w, w < u → V r.f0 w = 0) ∧ ∀ s ∈ U, s.f1 ≠ r.f1 → V s.f0 u = 0
theorem used_Red {r : List Row} (h : Rf r 8) : Red (usedR r) := by
  refine ⟨used_asc, fun x hx => ?_, fun x hx => ?_⟩
  · unfold usedR at hx
    obtain ⟨p, hp, rfl⟩ := List.mem_map.1 hx
    exact h.ok _ (pair_mem hp).1
  · unfold usedR at hx
    obtain ⟨p, hp, rfl⟩ := List.mem_map.1 hx
    obtain ⟨p1, p2, p3⟩ := pair_mem hp
    obtain ⟨h1, h2, h3⟩ := h.pv _ _ p1 p3
    refine ⟨p.2, p2, p3, h1, h2, fun s hs hne => ?_⟩
    unfold usedR at hs
    obtain ⟨q, hq, rfl⟩ := List.mem_map.1 hs
    exact h3 _ (pair_mem hq).1 fun e => hne (by rw [e])
theorem sol_sem {l : List TTerm} (h : inL l) : ((solP l).2.2 = 2) ∨ ((∀ t ∈ l, rt t = true) ∧ (((solP l).2.2 = 1 ∧ (solP l).1 = [] ∧ (solP l).2.1 = [] ∧ ∀ x, ¬ ∀ t ∈ l, ev t x = 0) ∨
    ∃ r, W r 8 ∧ solP l = ((usedR r).map (fun x => x.f0), (usedR r).map (fun x => x.f1), 0) ∧ Red (usedR r) ∧ ∀ x, (∀ t ∈ l, ev t x = 0) ↔ ∀ s ∈ usedR r, ev s.f0 x = 0)) := by
  unfold solP
  cases hb : l.any (fun t => !rt t) with
  | true => exact .inl rfl
  | false =>
    have hr : ∀ t ∈ l, rt t = true := fun t ht => by
      have := List.any_eq_false.1 hb t ht
      simpa using this
    obtain ⟨s0, s1⟩ := start_Rf h hr
    rw [if_neg (by decide)]
    cases hq : runF (startL l) (List.range 8) with
    | none => exact .inl rfl
    | some r =>
      right
      refine ⟨hr, ?_⟩
      rw [List.range_eq_range'] at hq
      obtain ⟨f, fs⟩ := run_Rf 8 0 _ _ s0 hq
      have f : Rf r 8 := by simpa using f
      dsimp only
      unfold endP
      cases hc : r.any badC with
      | true =>
        left
        refine ⟨rfl, rfl, rfl, fun x hx => ?_⟩
        obtain ⟨y, hy, hyb⟩ := List.any_eq_true.1 hc
        obtain ⟨i, hi, rfl⟩ := List.getElem_of_mem hy
        rw [row_of hi] at hyb
        unfold badC at hyb
        simp at hyb
        have h1 := (fs x).2 ((s1 x).2 hx) i hi
        unfold ev at h1
        rw [Sm_zero fun j hj => by rw [f.un i hi hyb.1 j hj]; grind] at h1
        have ho := (f.ok i hi).r
        unfold rt at ho
        simp only [Bool.and_eq_true] at ho
        have : K (rowAt r i).f0 = 0 := by grind
        exact hyb.2 ((qv_zero ho.1.2).2 this)
      | false =>
        right
        refine ⟨r, f.w, rfl, used_Red f, fun x => ?_⟩
        rw [← s1 x, ← fs x]
        constructor
        · intro hs s hsu
          have := ((used_mem f.w s).1 hsu).1
          obtain ⟨i, hi, rfl⟩ := List.getElem_of_mem this
          rw [row_of hi]; exact hs i hi
        · intro hs i hi
          by_cases hk : key r i = -1
          · unfold ev
            rw [Sm_zero fun j hj => by rw [f.un i hi hk j hj]; grind]
            have := List.any_eq_false.1 hc _ (List.getElem_mem hi)
            rw [row_of hi] at this
            unfold badC at this
            unfold key at hk
            rw [decide_eq_true hk] at this
            simp at this
            have ho := (f.ok i hi).r
            unfold rt at ho
            simp only [Bool.and_eq_true] at ho
            have := (qv_zero ho.1.2).1 this
            show K (rowAt r i).f0 + 0 = 0
            unfold K; rw [this]; grind
          · exact hs _ ((used_mem f.w _).2 ⟨by rw [← row_of hi]; exact List.getElem_mem hi, hk⟩)
end Go.E
end
section
set_option linter.all false
set_option maxRecDepth 10000
namespace Go.E
open Go Go.Proofs Go.Eng
def piv (U : List Row) (w : Nat) : Option Row := U.find? fun r => decide (r.f1 = (w : Int))
end Go.E
end
section
set_option linter.all false
set_option maxRecDepth 10000
namespace Go.E
open Go Go.Proofs Go.Eng
theorem r1_ok : rr ⟨1, 1⟩ = true := by decide +kernel
theorem mulR_one {r : TRat} (hr : in64R r) (h : rr r = true) : (mulR r ⟨1, 1⟩).2 = 0 := by
  unfold mulR mulS
  have hq := (BallQ.q_right (rr_right h) hr.1 hr.2).2.2
  rw [if_pos ⟨rr_right h, rr_right r1_ok⟩]
  have e : BallQ.q r.f0 r.f1 * BallQ.q 1 1 = BallQ.q r.f0 r.f1 := by
    have : BallQ.q 1 1 = 1 := qv_1
    rw [this]; grind
  show (toR (BallQ.out (BallQ.q r.f0 r.f1 * BallQ.q 1 1))).2 = 0
  rw [e, out_ok hq]; rfl
theorem mulT_one {t : TTerm} (h : Ok t) : mulT t ⟨1, 1⟩ = (t, 0) := by
  have rk : rr t.f1 = true := by
    have := h.r; unfold rt at this; simp only [Bool.and_eq_true] at this; exact this.1.2
  have e2 : (mulT t ⟨1, 1⟩).2 = 0 := by
    unfold mulT
    rw [h.r, r1_ok, Bool.and_self, if_pos rfl]
    unfold eachT
    rw [if_pos (mulR_one h.i.k rk)]
    have : fst t.f0.length (bad fun i => mulR (atT t i) ⟨1, 1⟩) = none := fst_none.2 fun i hi => by
      unfold bad
      rw [mulR_one (at_in h.i i) (at_rr h.r i)]; rfl
    rw [this]
  obtain ⟨_, o, k, v⟩ := mulT_q e2
  have e1 : (mulT t ⟨1, 1⟩).1 = t := ok_eq o h (by rw [k, qv_1]; grind) fun i => by rw [v, qv_1]; grind
  exact Prod.ext e1 e2
theorem div_one : divR ⟨1, 1⟩ ⟨1, 1⟩ = (⟨1, 1⟩, 0) := by
  have h2 : (divR ⟨1, 1⟩ ⟨1, 1⟩).2 = 0 := by decide +kernel
  have h0 : (divR ⟨1, 1⟩ ⟨1, 1⟩).1.f0 = 1 := by decide +kernel
  have h1 : (divR ⟨1, 1⟩ ⟨1, 1⟩).1.f1 = 1 := by decide +kernel
  refine Prod.ext ?_ h2
  cases hq : (divR ⟨1, 1⟩ ⟨1, 1⟩).1
  rw [hq] at h0 h1
  dsimp only at h0 h1
  rw [h0, h1]
end Go.E
end
section
set_option linter.all false
set_option maxRecDepth 10000
namespace Go.E
open Go Go.Proofs Go.Eng
def cmpR (a b : TRat) : Int := if rr a && rr b then (if qv a < qv b then -1 else if qv a = qv b then 0 else 1) else 0
theorem q_lt {a b c d : Int} (h : BallQ.Right a b) (ha : BallQ.In64 a) (hb : BallQ.In64 b) (k : BallQ.Right c d) (hc : BallQ.In64 c) (hd : BallQ.In64 d) : BallQ.q a b < BallQ.q c d ↔ a * d < c * b := by
  obtain ⟨h0, h1, _⟩ := BallQ.q_right h ha hb
  obtain ⟨k0, k1, _⟩ := BallQ.q_right k hc hd
  rw [Rat.lt_iff, h0, h1, k0, k1]
theorem eqR_ne {a b : TRat} (h : a ≠ b) : eqTRat a b = false := by
  cases a; cases b
  unfold eqTRat
  rw [Bool.eq_false_iff]
  intro e
  simp only [Bool.and_eq_true, decide_eq_true_eq] at e
  exact h (by rw [e.1, e.2])
theorem cmpE {a b : TRat} (ha : in64R a) (hb : in64R b) : m_rat_Compare a b = some (cmpR a b) := by
  unfold m_rat_Compare cmpR
  rw [rR ha]
  simp only [some_bind']
  cases h1 : rr a with
  | false => rfl
  | true =>
    rw [rR hb]
    simp only [some_bind']
    cases h2 : rr b with
    | false => rfl
    | true =>
      simp only [Bool.not_true, ifB_false, Bool.and_self, if_true]
      by_cases e : a = b
      · subst e
        rw [eqR_self, if_neg (Rat.lt_irrefl), if_pos rfl]; rfl
      · rw [eqR_ne e]
        have ra := rr_right h1
        have rb := rr_right h2
        have hw : IntKind.wrap .i64 (0 - b.f0) = -b.f0 := by
          obtain ⟨⟨n1, n2⟩, _⟩ := hb
          have := rb.2.1
          rw [wrap_i64 (by omega) (by omega)]; omega
        have i1 : BallQ.In64 (-b.f0) := by
          obtain ⟨⟨n1, n2⟩, _⟩ := hb
          have := rb.2.1
          constructor <;> omega
        have l1 : qv a < qv b ↔ a.f0 * b.f1 < b.f0 * a.f1 := q_lt ra ha.1 ha.2 rb hb.1 hb.2
        have l2 : qv b < qv a ↔ b.f0 * a.f1 < a.f0 * b.f1 := q_lt rb hb.1 hb.2 ra ha.1 ha.2
        have hne : qv a ≠ qv b := fun h => e (qv_inj ha hb h1 h2 h)
        have hval : a.f0 * b.f1 + -b.f0 * a.f1 = a.f0 * b.f1 - b.f0 * a.f1 := by rw [Int.neg_mul]; omega
        have h0 : a.f0 * b.f1 + -b.f0 * a.f1 ≠ 0 := by
          rw [hval]
          intro h
          by_cases h1 : qv a < qv b
          · rw [l1] at h1; omega
          · by_cases h2 : qv b < qv a
            · rw [l2] at h2; omega
            · exact hne (Rat.le_antisymm (Rat.not_lt.1 h2) (Rat.not_lt.1 h1))
        unfold m_rat_sum
        rw [hw, rq_true (decide_eq_true ⟨ha.1, hb.2, i1, ha.2, h0⟩)]
        simp only [some_bind', ifB_false]
        by_cases hlt : qv a < qv b
        · rw [if_pos hlt, decide_eq_true (by rw [hval]; rw [l1] at hlt; omega)]; rfl
        · rw [if_neg hlt, if_neg hne, decide_eq_false (by rw [hval]; rw [l1] at hlt; omega)]; rfl
def subR (a b : TRat) : TRat × Int := if rr b then addR a (neg b) else (⟨0, 0⟩, 2)
theorem subE {a b : TRat} (ha : in64R a) (hb : in64R b) : m_rat_Sub a b = some (subR a b) := by
  unfold m_rat_Sub subR m_rat_minus
  rw [rR hb]
  cases rr b with
  | false => rfl
  | true =>
    have := aR ha (neg_in hb)
    unfold neg at this
    simp only [some_bind', Bool.not_true, ifB_false, this]
    rfl
theorem sub_good (a b : TRat) : in64R (subR a b).1 ∧ ((subR a b).2 = 0 → rr (subR a b).1 = true) := by
  unfold subR
  split
  · exact add_good _ _
  · exact ⟨z64, fun e => by cases e⟩
def valL : List TRat → List TRat → TRat → TRat × Int
  | c :: cs, a :: xs, s => if (mulR c a).2 = 0 then (if (addR s (mulR c a).1).2 = 0 then valL cs xs (addR s (mulR c a).1).1 else (⟨0, 0⟩, (addR s (mulR c a).1).2)) else (⟨0, 0⟩, (mulR c a).2)
  | [], _, s => (s, 0)
  | _ :: _, [], s => (s, 0)
def valT (t : TTerm) (at' : List TRat) : TRat × Int := if rt t && (at'.take 8).all rr then valL t.f0 (at'.take 8) t.f1 else (⟨0, 0⟩, 2)
theorem valL_nil {cs : List TRat} {s : TRat} : valL cs [] s = (s, 0) := by cases cs <;> rfl
theorem valL_in : ∀ (cs xs : List TRat) (s : TRat), in64R s → in64R (valL cs xs s).1
  | [], _, s, h => by cases ‹List TRat› <;> exact h
  | c :: cs, [], s, h => h
  | c :: cs, a :: xs, s, h => by
    unfold valL
    split
    · split
      · exact valL_in cs xs _ (add_good _ _).1
      · exact z64
    · exact z64
theorem valT_in {t : TTerm} {l : List TRat} (h : in64T t) : in64R (valT t l).1 := by
  unfold valT
  split
  · exact valL_in _ _ _ h.k
  · exact z64
theorem valE {t : TTerm} {l : List TRat} (ht : in64T t) (hl : ∀ r ∈ l, in64R r) (hn : l.length ≤ 1000) : m_term_Value t l = some (valT t l) := by
  unfold m_term_Value valT
  have e1 : (if 8 < (l.length : Int) then (8 : Int) else (l.length : Int)) = ((min 8 l.length : Nat) : Int) := by split <;> omega
  have ek : l.take (min 8 l.length) = l.take 8 := by
    by_cases h : l.length ≤ 8
    · rw [Nat.min_eq_right h, List.take_of_length_le h, List.take_length]
    · rw [Nat.min_eq_left (by omega)]
  rw [e1, subL_take (Nat.min_le_right _ _), ek]
  simp only [some_bind']
  rw [tR ht]
  have kin : ∀ r ∈ l.take 8, in64R r := fun r hr => hl r (List.mem_of_mem_take hr)
  have klen : (l.take 8).length ≤ 8 := by simp; omega
  generalize l.take 8 = k at kin klen ⊢
  have hk : m_term_Right ⟨k, ⟨0, 1⟩⟩ = some (k.all rr) := by
    rw [tR ⟨n64, kin, by dsimp only; omega⟩]
    unfold rt
    dsimp only
    rw [decide_eq_true klen, nR]; simp
  unfold m_term_nought
  cases hr : rt t with
  | false => rfl
  | true =>
    simp only [some_bind', Bool.not_true, ifB_false, hk]
    cases hkr : k.all rr with
    | false => rfl
    | true =>
      simp only [Bool.not_true, ifB_false, Bool.and_self, if_true]
      have e2 : (if (k.length : Int) < (t.f0.length : Int) then (k.length : Int) else (t.f0.length : Int)) = ((min k.length t.f0.length : Nat) : Int) := by split <;> omega
      rw [e2, subL_take (Nat.min_le_right _ _)]
      simp only [some_bind']
      have lt := rt_len hr
      obtain ⟨n, hn'⟩ : ∃ n, n = min k.length t.f0.length := ⟨_, rfl⟩
      rw [← hn']
      have tl : (t.f0.take n).length = n := by rw [List.length_take]; omega
      have main : ∀ (j i : Nat) (s : TRat), i + j = n → in64R s → loopO (m_term_Value_L0 (t.f0.take n) k) ((i : Int), s.f0, s.f1) = some (if (valL (t.f0.drop i) (k.drop i) s).2 = 0 then .inl ((valL (t.f0.drop i) (k.drop i) s).1.f0, (valL (t.f0.drop i) (k.drop i) s).1.f1) else .inr (⟨0, 0⟩, (valL (t.f0.drop i) (k.drop i) s).2)) := by
        intro j
        induction j with
        | zero =>
          intro i s hi hs
          have : valL (t.f0.drop i) (k.drop i) s = (s, 0) := by
            by_cases h : i < t.f0.length
            · rw [List.drop_of_length_le (l := k) (by omega), valL_nil]
            · rw [List.drop_of_length_le (l := t.f0) (by omega)]; rfl
          rw [this]
          refine loopO_inr ?_
          unfold m_term_Value_L0
          dsimp only
          rw [tl, decide_eq_false (by omega)]; rfl
        | succ j ih =>
          intro i s hi hs
          have h1 : i < t.f0.length := by omega
          have h2 : i < k.length := by omega
          have g1 : gi (t.f0.take n) (i : Int) = some t.f0[i] := by rw [gi_of (by omega), List.getElem_take]
          rw [List.drop_eq_getElem_cons h1, List.drop_eq_getElem_cons h2]
          have b : m_term_Value_L0 (t.f0.take n) k ((i : Int), s.f0, s.f1) = if (mulR t.f0[i] k[i]).2 = 0 then (if (addR s (mulR t.f0[i] k[i]).1).2 = 0 then some (.inl (((i + 1 : Nat) : Int), (addR s (mulR t.f0[i] k[i]).1).1.f0, (addR s (mulR t.f0[i] k[i]).1).1.f1)) else some (.inr (.inr (⟨0, 0⟩, (addR s (mulR t.f0[i] k[i]).1).2)))) else some (.inr (.inr (⟨0, 0⟩, (mulR t.f0[i] k[i]).2))) := by
            unfold m_term_Value_L0
            dsimp only
            rw [tl, decide_eq_true (show (i : Int) < (n : Int) by omega), ifB_true, g1, gi_of h2]
            simp only [some_bind', mR (ht.c _ (List.getElem_mem h1)) (kin _ (List.getElem_mem h2))]
            by_cases c1 : (mulR t.f0[i] k[i]).2 = 0
            · rw [if_pos c1, decide_eq_true c1]
              have := aR (a := ⟨s.f0, s.f1⟩) hs (mul_good t.f0[i] k[i]).1
              simp only [Bool.not_true, ifB_false, this, some_bind']
              by_cases c2 : (addR s (mulR t.f0[i] k[i]).1).2 = 0
              · rw [if_pos c2]
                rw [decide_eq_true c2, wrap_succ (by omega)]; rfl
              · rw [if_neg c2]
                rw [decide_eq_false c2]; rfl
            · rw [if_neg c1, decide_eq_false c1]; rfl
          unfold valL
          by_cases c1 : (mulR t.f0[i] k[i]).2 = 0
          · rw [if_pos c1] at b ⊢
            by_cases c2 : (addR s (mulR t.f0[i] k[i]).1).2 = 0
            · rw [if_pos c2] at b ⊢
              rw [loopO_inl b]
              exact ih (i + 1) _ (by omega) (add_good _ _).1
            · rw [if_neg c2] at b ⊢
              rw [loopO_inr b, if_neg c2]
          · rw [if_neg c1] at b ⊢
            rw [loopO_inr b, if_neg c1]
      have := main n 0 t.f1 (by omega) ht.k
      rw [List.drop_zero, List.drop_zero] at this
      rw [show ((0 : Int)) = ((0 : Nat) : Int) from rfl, this]
      have sz : ∀ cs xs s, (valL cs xs s).2 ≠ 0 → (valL cs xs s).1 = ⟨0, 0⟩ := by
        intro cs
        induction cs with
        | nil => intro xs s h; exact absurd rfl h
        | cons c cs ih =>
          intro xs s h
          cases xs with
          | nil => exact absurd rfl h
          | cons a xs =>
            unfold valL at h ⊢
            split
            · rename_i c1
              rw [if_pos c1] at h
              split
              · rename_i c2
                rw [if_pos c2] at h
                exact ih _ _ h
              · rfl
            · rfl
      by_cases hz : (valL t.f0 k t.f1).2 = 0
      · rw [if_pos hz]
        simp only [some_bind']
        show some (_, (0 : Int)) = _
        rw [← hz]
      · rw [if_neg hz]
        simp only [some_bind']
        rw [← sz _ _ _ hz]
end Go.E
end
section
set_option linter.all false
set_option maxRecDepth 10000
namespace Go.E
open Go Go.Proofs Go.Eng
theorem termE {o : Bool} {t : TTerm} {e : Int} : m_bound_engine_term ⟨o⟩ t e = some (t, ⟨o || !decide (e = 0)⟩) := by
  unfold m_bound_engine_term
  cases o <;> rfl
theorem ratE {o : Bool} {t : TRat} {e : Int} : m_bound_engine_rat ⟨o⟩ t e = some (t, ⟨o || !decide (e = 0)⟩) := by
  unfold m_bound_engine_rat
  cases o <;> rfl
def plainT : TTerm → List Row → Option TTerm
  | t, [] => some t
  | t, r :: U => if (atT t r.f1.toNat).f0 = 0 then plainT t U else if (lessT t r.f0 (atT t r.f1.toNat)).2 = 0 then plainT (lessT t r.f0 (atT t r.f1.toNat)).1 U else none
structure GoodU (U : List Row) : Prop where
  t : ∀ r ∈ U, in64T r.f0
  v : ∀ r ∈ U, 0 ≤ r.f1 ∧ r.f1 < 8
  l : U.length ≤ 8
theorem plain_over {U : List Row} (hU : GoodU U) : ∀ (k i : Nat) (t : TTerm), i + k = U.length → loopO (m_bound_engine_plain_L0 (U.map fun x => x.f0) (U.map fun x => x.f1)) ((i : Int), true, t.f0, t.f1.f0, t.f1.f1) = some (true, t.f0, t.f1.f0, t.f1.f1) := by
  intro k
  induction k with
  | zero =>
    intro i t hi
    refine loopO_inr ?_
    unfold m_bound_engine_plain_L0
    dsimp only
    rw [List.length_map, decide_eq_false (by omega)]; rfl
  | succ k ih =>
    intro i t hi
    have hlt : i < U.length := by omega
    have hl := hU.l
    have hv := hU.v _ (List.getElem_mem hlt)
    have hb : m_bound_engine_plain_L0 (U.map fun x => x.f0) (U.map fun x => x.f1) ((i : Int), true, t.f0, t.f1.f0, t.f1.f1) = some (.inl (((i + 1 : Nat) : Int), true, t.f0, t.f1.f0, t.f1.f1)) := by
      unfold m_bound_engine_plain_L0
      dsimp only
      rw [List.length_map, decide_eq_true (show (i : Int) < (U.length : Int) by omega), ifB_true, gi_of (by rw [List.length_map]; exact hlt), gi_of (by rw [List.length_map]; exact hlt), List.getElem_map, List.getElem_map]
      have e : U[i].f1 = ((U[i].f1.toNat : Nat) : Int) := by omega
      simp only [some_bind']
      rw [e, atP, wrap_succ (by omega)]
      simp only [some_bind']
      cases decide ((atT ⟨t.f0, ⟨t.f1.f0, t.f1.f1⟩⟩ U[i].f1.toNat).f0 = 0) <;> rfl
    rw [loopO_inl hb]
    exact ih (i + 1) t (by omega)
theorem plain_loop {U : List Row} (hU : GoodU U) : ∀ (k i : Nat) (t : TTerm), i + k = U.length → in64T t → ∃ b t', loopO (m_bound_engine_plain_L0 (U.map fun x => x.f0) (U.map fun x => x.f1)) ((i : Int), false, t.f0, t.f1.f0, t.f1.f1) = some (b, t'.f0, t'.f1.f0, t'.f1.f1) ∧ in64T t' ∧
    (match plainT t (U.drop i) with | some t1 => b = false ∧ t' = t1 | none => b = true) := by
  intro k
  induction k with
  | zero =>
    intro i t hi ht
    refine ⟨false, t, ?_, ht, ?_⟩
    · refine loopO_inr ?_
      unfold m_bound_engine_plain_L0
      dsimp only
      rw [List.length_map, decide_eq_false (by omega)]; rfl
    · rw [List.drop_of_length_le (by omega)]
      exact ⟨rfl, rfl⟩
  | succ k ih =>
    intro i t hi ht
    have hlt : i < U.length := by omega
    have hl := hU.l
    have hv := hU.v _ (List.getElem_mem hlt)
    have e : U[i].f1 = ((U[i].f1.toNat : Nat) : Int) := by omega
    rw [List.drop_eq_getElem_cons hlt]
    have hin : in64T U[i].f0 := hU.t _ (List.getElem_mem hlt)
    have hc : in64R (atT t U[i].f1.toNat) := at_in ht _
    have hb : m_bound_engine_plain_L0 (U.map fun x => x.f0) (U.map fun x => x.f1) ((i : Int), false, t.f0, t.f1.f0, t.f1.f1) =
        if (atT t U[i].f1.toNat).f0 = 0 then some (.inl (((i + 1 : Nat) : Int), false, t.f0, t.f1.f0, t.f1.f1))
        else if (mulT U[i].f0 (neg (atT t U[i].f1.toNat))).2 = 0 then some (.inl (((i + 1 : Nat) : Int), !decide ((lessT t U[i].f0 (atT t U[i].f1.toNat)).2 = 0), (lessT t U[i].f0 (atT t U[i].f1.toNat)).1.f0, (lessT t U[i].f0 (atT t U[i].f1.toNat)).1.f1.f0, (lessT t U[i].f0 (atT t U[i].f1.toNat)).1.f1.f1))
        else some (.inl (((i + 1 : Nat) : Int), true, t.f0, t.f1.f0, t.f1.f1)) := by
      unfold m_bound_engine_plain_L0
      dsimp only
      rw [List.length_map, decide_eq_true (show (i : Int) < (U.length : Int) by omega), ifB_true, gi_of (by rw [List.length_map]; exact hlt), gi_of (by rw [List.length_map]; exact hlt), List.getElem_map, List.getElem_map]
      simp only [some_bind']
      rw [e, Int.toNat_natCast, atP, wrap_succ (by omega)]
      simp only [some_bind']
      have et : (⟨t.f0, ⟨t.f1.f0, t.f1.f1⟩⟩ : TTerm) = t := rfl
      rw [et]
      by_cases hz : (atT t U[i].f1.toNat).f0 = 0
      · rw [if_pos hz, decide_eq_true hz]; rfl
      · rw [if_neg hz, decide_eq_false hz]
        have hs := scaleP hin (neg_in hc)
        unfold neg at hs
        simp only [Bool.not_false, ifB_true, some_bind', hs, termE, Bool.false_or]
        by_cases hm : (mulT U[i].f0 (neg (atT t U[i].f1.toNat))).2 = 0
        · have hm' := hm
          unfold neg at hm'
          rw [if_pos hm, decide_eq_true hm']
          have ha := addP (b := (mulT U[i].f0 (neg (atT t U[i].f1.toNat))).1) ht mulT_good.1
          unfold neg at ha
          simp only [Bool.not_true, Bool.not_false, ifB_true, some_bind', ha, termE, Bool.false_or]
          unfold lessT
          rw [if_pos hm]
          unfold neg
          rfl
        · have hm' := hm
          unfold neg at hm'
          rw [if_neg hm, decide_eq_false hm']
          rfl
    unfold plainT
    by_cases hz : (atT t U[i].f1.toNat).f0 = 0
    · rw [if_pos hz] at hb ⊢
      rw [loopO_inl hb]
      exact ih (i + 1) t (by omega) ht
    · rw [if_neg hz] at hb ⊢
      by_cases hm : (mulT U[i].f0 (neg (atT t U[i].f1.toNat))).2 = 0
      · rw [if_pos hm] at hb
        rw [loopO_inl hb]
        by_cases hq : (lessT t U[i].f0 (atT t U[i].f1.toNat)).2 = 0
        · rw [if_pos hq, decide_eq_true hq]
          exact ih (i + 1) _ (by omega) lessT_in
        · rw [if_neg hq, decide_eq_false hq]
          exact ⟨true, _, plain_over hU k (i + 1) _ (by omega), lessT_in, rfl⟩
      · rw [if_neg hm] at hb
        have hq : ¬ (lessT t U[i].f0 (atT t U[i].f1.toNat)).2 = 0 := by unfold lessT; rw [if_neg hm]; exact hm
        rw [loopO_inl hb, if_neg hq]
        exact ⟨true, t, plain_over hU k (i + 1) t (by omega), ht, rfl⟩
theorem plainE {U : List Row} (hU : GoodU U) {r : TRow} (hr : in64T r.f1) (o : Bool) : ∃ b t', m_bound_engine_plain ⟨o⟩ r (U.map fun x => x.f0) (U.map fun x => x.f1) = some (⟨r.f0, t'⟩, ⟨b⟩) ∧ in64T t' ∧ (o = true → b = true) ∧
    (o = false → match plainT r.f1 U with | some t1 => b = false ∧ t' = t1 | none => b = true) := by
  unfold m_bound_engine_plain
  cases o with
  | true =>
    have := plain_over hU U.length 0 r.f1 (by omega)
    dsimp only
    rw [show ((0 : Int)) = ((0 : Nat) : Int) from rfl, this]
    exact ⟨true, r.f1, rfl, hr, fun _ => rfl, (fun h => by cases h)⟩
  | false =>
    obtain ⟨b, t', h1, h2, h3⟩ := plain_loop hU U.length 0 r.f1 (by omega) hr
    dsimp only
    rw [show ((0 : Int)) = ((0 : Nat) : Int) from rfl, h1]
    exact ⟨b, t', rfl, h2, (fun h => by cases h), fun _ => h3⟩
def absR (c : TRat) : TRat := ⟨if c.f0 < 0 then IntKind.wrap .i64 (0 - c.f0) else c.f0, c.f1⟩
theorem abs_in {c : TRat} (h : in64R c) : in64R (absR c) := by
  refine ⟨?_, h.2⟩
  unfold absR
  dsimp only
  split
  · constructor <;> (rw [IntKind.wrap_i64]; omega)
  · exact h.1
def divT (t : TTerm) (c : TRat) : TTerm × Int := if (divR ⟨1, 1⟩ (absR c)).2 = 0 then mulT t (divR ⟨1, 1⟩ (absR c)).1 else (zT, (divR ⟨1, 1⟩ (absR c)).2)
theorem divT_in {t : TTerm} {c : TRat} : in64T (divT t c).1 := by
  unfold divT
  split
  · exact mulT_good.1
  · exact z_in
theorem one64 : in64R ⟨1, 1⟩ := by decide
theorem divideE {r : TRow} {c : TRat} (hr : in64T r.f1) (hc : in64R c) (o : Bool) : ∃ b t', m_bound_engine_divide ⟨o⟩ r c = some (⟨r.f0, t'⟩, ⟨b⟩) ∧ in64T t' ∧ (o = true → b = true) ∧ (o = false → if (divT r.f1 c).2 = 0 then b = false ∧ t' = (divT r.f1 c).1 else b = true) := by
  unfold m_bound_engine_divide
  have e : (ifB (decide (c.f0 < 0)) (some (IntKind.wrap .i64 (0 - c.f0))) (some c.f0) : Option Int) = some (absR c).f0 := by
    unfold absR
    dsimp only
    by_cases h : c.f0 < 0
    · rw [decide_eq_true h, if_pos h]; rfl
    · rw [decide_eq_false h, if_neg h]; rfl
  rw [e]
  simp only [some_bind']
  have e2 : (⟨(absR c).f0, c.f1⟩ : TRat) = absR c := rfl
  rw [e2, dR one64 (abs_in hc)]
  simp only [some_bind', ratE]
  have hd := div_good ⟨1, 1⟩ (absR c)
  cases o with
  | true => exact ⟨true, r.f1, rfl, hr, fun _ => rfl, (fun h => by cases h)⟩
  | false =>
    by_cases h1 : (divR ⟨1, 1⟩ (absR c)).2 = 0
    · rw [decide_eq_true h1]
      simp only [Bool.not_true, Bool.not_false, Bool.or_self, ifB_true, scaleP hr hd.1, some_bind', termE, Bool.false_or]
      refine ⟨_, _, rfl, mulT_good.1, (fun h => by cases h), fun _ => ?_⟩
      unfold divT
      rw [if_pos h1]
      split
      · rename_i h2; rw [decide_eq_true h2]; exact ⟨rfl, rfl⟩
      · rename_i h2; rw [decide_eq_false h2]; rfl
    · rw [decide_eq_false h1]
      refine ⟨true, r.f1, rfl, hr, fun _ => rfl, fun _ => ?_⟩
      unfold divT
      rw [if_neg h1, if_neg h1]
end Go.E
end
section
set_option linter.all false
set_option maxRecDepth 10000
namespace Go.E
open Go Go.Proofs Go.Eng
def inW (l : List TRow) : Prop := ∀ r ∈ l, in64T r.f1
def cOf (v : Nat) (r : TRow) : TRat := atT r.f1 v
def isLow (v : Nat) (r : TRow) : Bool := decide (0 < (cOf v r).f0)
def isUp (v : Nat) (r : TRow) : Bool := decide ((cOf v r).f0 < 0)
def isNone (v : Nat) (r : TRow) : Bool := decide ((cOf v r).f0 = 0)
def divW (v : Nat) (r : TRow) : TRow := ⟨r.f0, (divT r.f1 (cOf v r)).1⟩
def okW (v : Nat) (r : TRow) : Bool := isNone v r || decide ((divT r.f1 (cOf v r)).2 = 0)
def lowW (v : Nat) (l : List TRow) : List TRow := (l.filter (isLow v)).map (divW v)
def upW (v : Nat) (l : List TRow) : List TRow := (l.filter (isUp v)).map (divW v)
def nxW (v : Nat) (l : List TRow) : List TRow := l.filter (isNone v)
theorem filter_snoc {α : Type} {p : α → Bool} {l : List α} {x : α} : (l ++ [x]).filter p = if p x then l.filter p ++ [x] else l.filter p := by
  rw [List.filter_append]
  cases h : p x <;> simp [h]
theorem take_snoc {α : Type} {l : List α} {i : Nat} (h : i < l.length) : l.take (i + 1) = l.take i ++ [l[i]] := by
  rw [List.take_succ, List.getElem?_eq_getElem h]; rfl
structure D0 (rows : List TRow) (v i : Nat) (s : List TRow × Int × Bool × List TRow × List TRow) : Prop where
  at_ : s.2.1 = (i : Int)
  n : s.1.length + s.2.2.2.1.length + s.2.2.2.2.length = i
  a : inW s.1
  b : inW s.2.2.2.1
  c : inW s.2.2.2.2
  f : s.2.2.1 = false → (rows.take i).all (okW v) = true ∧ s.1 = nxW v (rows.take i) ∧ s.2.2.2.1 = lowW v (rows.take i) ∧ s.2.2.2.2 = upW v (rows.take i)
  t : s.2.2.1 = true → (rows.take i).all (okW v) = false
theorem inW_snoc {l : List TRow} {r : TRow} (h : inW l) (hr : in64T r.f1) : inW (l ++ [r]) := fun x hx => by
  rcases List.mem_append.1 hx with hx | hx
  · exact h x hx
  · rw [List.mem_singleton] at hx; subst hx; exact hr
theorem drop_loop0 {rows : List TRow} {v : Nat} (hr : inW rows) (hl : rows.length ≤ 400) : ∃ s, loopO (m_bound_engine_drop_L0 rows (v : Int)) ([], 0, false, [], []) = some s ∧ D0 rows v rows.length (s.1, (rows.length : Int), s.2.1, s.2.2.1, s.2.2.2) := by
  refine loopO_count rows.length (fun i s => D0 rows v i s) _ ?_ ?_ ⟨rfl, rfl, (fun _ h => by cases h), (fun _ h => by cases h), (fun _ h => by cases h), (fun _ => ⟨rfl, rfl, rfl, rfl⟩), (fun h => by cases h)⟩
  · rintro i ⟨nx, _, o, lo, up⟩ hi ⟨rfl, hn, ha, hb, hc, hf, ht⟩
    left
    dsimp only at hn ha hb hc hf ht
    have hin := hr _ (List.getElem_mem hi)
    have hcin : in64R (cOf v rows[i]) := at_in hin v
    unfold m_bound_engine_drop_L0
    dsimp only
    rw [decide_eq_true (show (i : Int) < (rows.length : Int) by omega), ifB_true, gi_of hi]
    simp only [some_bind', atP]
    rw [wrap_succ (by omega)]
    have tk := take_snoc hi
    obtain ⟨b, t', e1, e2, e3, e4⟩ := divideE (r := rows[i]) hin hcin o
    unfold cOf at e1
    by_cases c1 : 0 < (cOf v rows[i]).f0
    · have c1' : 0 < (atT rows[i].f1 v).f0 := c1
      rw [decide_eq_true c1']
      simp only [ifB_true, e1, some_bind']
      rw [rq_true (decide_eq_true (by simp; omega))]
      refine ⟨_, rfl, rfl, by simp; omega, ha, inW_snoc hb e2, hc, ?_, ?_⟩
      · intro hbf
        dsimp only at hbf
        have ho : o = false := by cases o; rfl; exact absurd (e3 rfl) (by rw [hbf]; decide)
        obtain ⟨f1, f2, f3, f4⟩ := hf ho
        have e4 := e4 ho
        split at e4
        · rename_i hd
          rw [tk]
          refine ⟨?_, ?_, ?_, ?_⟩
          · rw [List.all_append, f1]; simp [okW, hd]
          · show nx = nxW v _
            unfold nxW; rw [filter_snoc, if_neg (by unfold isNone; simp; omega)]; exact f2
          · show lo ++ _ = lowW v _
            unfold lowW; rw [filter_snoc, if_pos (by unfold isLow; simpa using c1), List.map_append, f3, e4.2]; rfl
          · show up = upW v _
            unfold upW; rw [filter_snoc, if_neg (by unfold isUp; simp; omega)]; exact f4
        · rw [hbf] at e4; cases e4
      · intro hbt
        dsimp only at hbt
        rw [tk, List.all_append]
        cases o with
        | true => rw [ht rfl]; rfl
        | false =>
          have e4 := e4 rfl
          split at e4
          · rw [hbt] at e4; cases e4.1
          · rename_i hd
            have : okW v rows[i] = false := by unfold okW isNone; rw [decide_eq_false hd, decide_eq_false (by omega)]; rfl
            simp [this]
    · have c1' : ¬ 0 < (atT rows[i].f1 v).f0 := c1
      rw [decide_eq_false c1']
      by_cases c2 : (cOf v rows[i]).f0 < 0
      · have c2' : (atT rows[i].f1 v).f0 < 0 := c2
        rw [decide_eq_true c2']
        simp only [ifB_true, ifB_false, e1, some_bind']
        rw [rq_true (decide_eq_true (by simp; omega))]
        refine ⟨_, rfl, rfl, by simp; omega, ha, hb, inW_snoc hc e2, ?_, ?_⟩
        · intro hbf
          dsimp only at hbf
          have ho : o = false := by cases o; rfl; exact absurd (e3 rfl) (by rw [hbf]; decide)
          obtain ⟨f1, f2, f3, f4⟩ := hf ho
          have e4 := e4 ho
          split at e4
          · rename_i hd
            rw [tk]
            refine ⟨?_, ?_, ?_, ?_⟩
            · rw [List.all_append, f1]; simp [okW, hd]
            · show nx = nxW v _
              unfold nxW; rw [filter_snoc, if_neg (by unfold isNone; simp; omega)]; exact f2
            · show lo = lowW v _
              unfold lowW; rw [filter_snoc, if_neg (by unfold isLow; simp; omega)]; exact f3
            · show up ++ _ = upW v _
              unfold upW; rw [filter_snoc, if_pos (by unfold isUp; simpa using c2), List.map_append, f4, e4.2]; rfl
          · rw [hbf] at e4; cases e4
        · intro hbt
          dsimp only at hbt
          rw [tk, List.all_append]
          cases o with
          | true => rw [ht rfl]; rfl
          | false =>
            have e4 := e4 rfl
            split at e4
            · rw [hbt] at e4; cases e4.1
            · rename_i hd
              have : okW v rows[i] = false := by unfold okW isNone; rw [decide_eq_false hd, decide_eq_false (by omega)]; rfl
              simp [this]
      · have c2' : ¬ (atT rows[i].f1 v).f0 < 0 := c2
        rw [decide_eq_false c2']
        simp only [ifB_false, some_bind']
        rw [rq_true (decide_eq_true (by simp; omega))]
        have hz : isNone v rows[i] = true := by unfold isNone; simp; omega
        refine ⟨_, rfl, rfl, by simp; omega, inW_snoc ha hin, hb, hc, ?_, ?_⟩
        · intro hbf
          dsimp only at hbf
          obtain ⟨f1, f2, f3, f4⟩ := hf hbf
          rw [tk]
          refine ⟨?_, ?_, ?_, ?_⟩
          · rw [List.all_append, f1]; simp [okW, hz]
          · show nx ++ _ = nxW v _
            unfold nxW; rw [filter_snoc, if_pos hz, f2]; rfl
          · show lo = lowW v _
            unfold lowW; rw [filter_snoc, if_neg (by unfold isLow; simp; omega)]; exact f3
          · show up = upW v _
            unfold upW; rw [filter_snoc, if_neg (by unfold isUp; simp; omega)]; exact f4
        · intro hbt
          dsimp only at hbt
          rw [tk, List.all_append, ht hbt]; rfl
  · rintro ⟨nx, _, o, lo, up⟩ ⟨rfl, hn, ha, hb, hc, hf, ht⟩
    refine ⟨(nx, o, lo, up), ?_, rfl, hn, ha, hb, hc, hf, ht⟩
    unfold m_bound_engine_drop_L0
    dsimp only
    rw [decide_eq_false (by omega)]; rfl
def sumW (a b : TRow) : TRow := ⟨if a.f0 < b.f0 then b.f0 else a.f0, (addT a.f1 b.f1).1⟩
def badS (a b : TRow) : Bool := !decide ((addT a.f1 b.f1).2 = 0)
theorem drop_loop2 {up : List TRow} {a : TRow} (hu : inW up) (ha : in64T a.f1) {m : Nat} (hm : up.length ≤ 400) : ∀ (k i : Nat) (acc : List TRow) (o : Bool), i + k = up.length → acc.length + k ≤ 400 →
    loopO (m_bound_engine_drop_L2 up a) (acc, (i : Int), o) = some (acc ++ (up.drop i).map (sumW a), o || (up.drop i).any (badS a)) := by
  intro k
  induction k with
  | zero =>
    intro i acc o hi hb
    rw [List.drop_of_length_le (by omega)]
    refine loopO_inr ?_
    unfold m_bound_engine_drop_L2
    dsimp only
    rw [decide_eq_false (by omega)]
    simp [ifB_false]
  | succ k ih =>
    intro i acc o hi hb
    have hlt : i < up.length := by omega
    have e : m_bound_engine_drop_L2 up a (acc, (i : Int), o) = some (.inl (acc ++ [sumW a up[i]], ((i + 1 : Nat) : Int), o || badS a up[i])) := by
      unfold m_bound_engine_drop_L2
      dsimp only
      rw [decide_eq_true (show (i : Int) < (up.length : Int) by omega), ifB_true, gi_of hlt]
      simp only [some_bind', addP ha (hu _ (List.getElem_mem hlt)), termE]
      rw [rq_true (decide_eq_true (by simp; omega)), wrap_succ (by omega)]
      rfl
    rw [loopO_inl e, ih (i + 1) _ _ (by omega) (by simp; omega), List.drop_eq_getElem_cons hlt, List.map_cons, List.any_cons, List.append_assoc, Bool.or_assoc]
    rfl
theorem drop_loop1 {lo up : List TRow} (hl : inW lo) (hu : inW up) {n0 : Nat} (hn : n0 + lo.length * up.length ≤ 400) (hm : up.length ≤ 400) (hlo : lo.length ≤ 400) : ∀ (k i : Nat) (acc : List TRow) (o : Bool), i + k = lo.length → acc.length = n0 + i * up.length →
    loopO (m_bound_engine_drop_L1 lo up) (acc, (i : Int), o) = some (acc ++ (lo.drop i).flatMap (fun a => up.map (sumW a)), o || (lo.drop i).any (fun a => up.any (badS a))) := by
  intro k
  induction k with
  | zero =>
    intro i acc o hi hb
    rw [List.drop_of_length_le (by omega)]
    refine loopO_inr ?_
    unfold m_bound_engine_drop_L1
    dsimp only
    rw [decide_eq_false (by omega)]
    simp [ifB_false]
  | succ k ih =>
    intro i acc o hi hb
    have hlt : i < lo.length := by omega
    have hmul : (i + 1) * up.length ≤ lo.length * up.length := Nat.mul_le_mul_right _ (by omega)
    rw [Nat.add_mul, Nat.one_mul] at hmul
    have h2 := drop_loop2 (a := lo[i]) hu (hl _ (List.getElem_mem hlt)) (m := 0) hm up.length 0 acc o (by omega) (by omega)
    have e : m_bound_engine_drop_L1 lo up (acc, (i : Int), o) = some (.inl (acc ++ up.map (sumW lo[i]), ((i + 1 : Nat) : Int), o || up.any (badS lo[i]))) := by
      unfold m_bound_engine_drop_L1
      dsimp only
      rw [decide_eq_true (show (i : Int) < (lo.length : Int) by omega), ifB_true, gi_of hlt]
      simp only [some_bind']
      rw [show ((0 : Int)) = ((0 : Nat) : Int) from rfl, h2]
      simp only [some_bind', List.drop_zero]
      rw [wrap_succ (by omega)]
    rw [loopO_inl e, ih (i + 1) _ _ (by omega) (by simp [Nat.add_mul]; omega), List.drop_eq_getElem_cons hlt, List.flatMap_cons, List.any_cons, List.append_assoc, Bool.or_assoc]
def dropP (rows : List TRow) (v : Nat) : Option (TBound_stage × List TRow) :=
  if rows.all (okW v) && decide ((nxW v rows).length + (lowW v rows).length * (upW v rows).length ≤ 400) && !((lowW v rows).any fun a => (upW v rows).any (badS a)) then some (⟨lowW v rows, upW v rows⟩, nxW v rows ++ (lowW v rows).flatMap fun a => (upW v rows).map (sumW a)) else none
theorem dropE {rows : List TRow} {v : Nat} (hr : inW rows) (hl : rows.length ≤ 400) : ∃ s n o, m_bound_engine_drop ⟨false⟩ rows (v : Int) = some (s, n, ⟨o⟩) ∧ (match dropP rows v with | some (s', n') => o = false ∧ s = s' ∧ n = n' | none => o = true) := by
  unfold m_bound_engine_drop
  obtain ⟨⟨nx, o, lo, up⟩, h1, ⟨_, hn, ha, hb, hc, hf, ht⟩⟩ := drop_loop0 (v := v) hr hl
  dsimp only at hn ha hb hc hf ht
  dsimp only
  rw [h1]
  simp only [some_bind']
  rw [List.take_length] at hf ht
  cases o with
  | true =>
    refine ⟨_, _, _, rfl, ?_⟩
    unfold dropP
    rw [ht rfl]; rfl
  | false =>
    obtain ⟨f1, f2, f3, f4⟩ := hf rfl
    have hmul : lo.length * up.length ≤ 400 * 400 := Nat.mul_le_mul (by omega) (by omega)
    have w1 : IntKind.wrap .i64 ((lo.length : Int) * (up.length : Int)) = ((lo.length * up.length : Nat) : Int) := by
      rw [← Int.natCast_mul, wrap_i64 (by omega) (by omega)]
    have w2 : IntKind.wrap .i64 ((nx.length : Int) + ((lo.length * up.length : Nat) : Int)) = ((nx.length + lo.length * up.length : Nat) : Int) := by
      rw [wrap_i64 (by omega) (by omega)]; omega
    simp only [ifB_false, some_bind', w1, w2]
    unfold dropP
    rw [f1, ← f2, ← f3, ← f4]
    by_cases hbig : nx.length + lo.length * up.length ≤ 400
    · rw [decide_eq_false (by omega), decide_eq_true hbig]
      have l1 := drop_loop1 hb hc (n0 := nx.length) hbig (by omega) (by omega) lo.length 0 nx false (by omega) (by omega)
      simp only [ifB_false]
      rw [show ((0 : Int)) = ((0 : Nat) : Int) from rfl, l1]
      simp only [some_bind', List.drop_zero, Bool.false_or, Bool.true_and]
      refine ⟨_, _, _, rfl, ?_⟩
      cases hq : lo.any fun a => up.any (badS a) with
      | true => rfl
      | false => exact ⟨rfl, rfl, rfl⟩
    · rw [decide_eq_true (by omega), decide_eq_false hbig]
      exact ⟨_, _, _, rfl, rfl⟩
theorem drop_in {rows : List TRow} {v : Nat} {s : TBound_stage} {n : List TRow} (h : dropP rows v = some (s, n)) (hr : inW rows) : inW s.f0 ∧ inW s.f1 ∧ inW n ∧ n.length ≤ 400 := by
  unfold dropP at h
  split at h
  · rename_i hc
    cases h
    simp only [Bool.and_eq_true, decide_eq_true_eq] at hc
    refine ⟨fun r hr' => ?_, fun r hr' => ?_, fun r hr' => ?_, ?_⟩
    · unfold lowW at hr'; obtain ⟨x, _, rfl⟩ := List.mem_map.1 hr'; exact divT_in
    · unfold upW at hr'; obtain ⟨x, _, rfl⟩ := List.mem_map.1 hr'; exact divT_in
    · rcases List.mem_append.1 hr' with h | h
      · exact hr _ (List.mem_filter.1 h).1
      · obtain ⟨a, _, h⟩ := List.mem_flatMap.1 h
        obtain ⟨b, _, rfl⟩ := List.mem_map.1 h
        exact addT_good.1
    · have : ∀ l : List TRow, (l.flatMap fun a => (upW v rows).map (sumW a)).length = l.length * (upW v rows).length := by
        intro l
        induction l with
        | nil => simp
        | cons a l ih => rw [List.flatMap_cons, List.length_append, ih, List.length_map, List.length_cons, Nat.add_mul]; omega
      rw [List.length_append, this]; exact hc.1.2
  · cases h
end Go.E
end
section
set_option linter.all false
set_option maxRecDepth 10000
namespace Go.E
open Go Go.Proofs Go.Eng
def better (low : Bool) (y best : TRat) : Bool := if low then decide (0 < cmpR y best) else decide (cmpR y best < 0)
def sgnR (low : Bool) (x : TRat) : TRat := if low then neg x else x
def edgeL (at' : List TRat) (low : Bool) : List TRow → Bool → TRat → Option TRat
  | [], _, best => some best
  | r :: rs, first, best => if (valT r.f1 at').2 = 0 then edgeL at' low rs false (if first || better low (sgnR low (valT r.f1 at').1) best then sgnR low (valT r.f1 at').1 else best) else none
def inR (l : List TRat) : Prop := ∀ r ∈ l, in64R r
theorem sgn_in {low : Bool} {x : TRat} (h : in64R x) : in64R (sgnR low x) := by
  unfold sgnR; split
  · exact neg_in h
  · exact h
theorem edge_over {rows : List TRow} {l : List TRat} {low : Bool} (hr : inW rows) (hl : inR l) (hn : l.length ≤ 1000) (best : TRat) (hb : in64R best) : ∃ x c, m_bound_engine_edge ⟨true⟩ rows l low = some (x, c, ⟨true⟩, l) ∧ in64R x := by
  unfold m_bound_engine_edge
  dsimp only
  cases rows with
  | nil =>
    rw [loopO_inr (x := .inl (true, 0, 0))]
    · exact ⟨_, _, rfl, z64⟩
    · unfold m_bound_engine_edge_L0
      dsimp only
      rw [decide_eq_false (by simp)]; rfl
  | cons r rs =>
    rw [loopO_inr (x := .inr (⟨0, 0⟩, true, ⟨true⟩, l))]
    · exact ⟨_, _, rfl, z64⟩
    · unfold m_bound_engine_edge_L0
      dsimp only
      rw [decide_eq_true (by simp), ifB_true, show ((0 : Int)) = ((0 : Nat) : Int) from rfl, gi_of (by simp)]
      have := valE (hr r (by simp)) hl hn
      simp only [some_bind', List.getElem_cons_zero, this, ratE, Bool.true_or, ifB_true]
theorem edge_loop {rows : List TRow} {l : List TRat} {low : Bool} (hr : inW rows) (hl : inR l) (hn : l.length ≤ 1000) (hrl : rows.length ≤ 1000) : ∀ (k i : Nat) (best : TRat), i + k = rows.length → in64R best →
    (match edgeL l low (rows.drop i) (decide (i = 0)) best with
      | some x => in64R x ∧ loopO (m_bound_engine_edge_L0 rows l low) ((i : Int), false, best.f0, best.f1) = some (.inl (false, x.f0, x.f1))
      | none => ∃ x, in64R x ∧ loopO (m_bound_engine_edge_L0 rows l low) ((i : Int), false, best.f0, best.f1) = some (.inr (x, true, ⟨true⟩, l))) := by
  intro k
  induction k with
  | zero =>
    intro i best hi hb
    rw [List.drop_of_length_le (by omega)]
    refine ⟨hb, loopO_inr ?_⟩
    unfold m_bound_engine_edge_L0
    dsimp only
    rw [decide_eq_false (by omega)]; rfl
  | succ k ih =>
    intro i best hi hb
    have hlt : i < rows.length := by omega
    have hin := hr _ (List.getElem_mem hlt)
    have hv := valE hin hl hn
    have hvi : in64R (valT rows[i].f1 l).1 := valT_in hin
    rw [List.drop_eq_getElem_cons hlt]
    have e : m_bound_engine_edge_L0 rows l low ((i : Int), false, best.f0, best.f1) = if (valT rows[i].f1 l).2 = 0 then some (.inl (((i + 1 : Nat) : Int), false, (if decide (i = 0) || better low (sgnR low (valT rows[i].f1 l).1) best then sgnR low (valT rows[i].f1 l).1 else best).f0, (if decide (i = 0) || better low (sgnR low (valT rows[i].f1 l).1) best then sgnR low (valT rows[i].f1 l).1 else best).f1)) else some (.inr (.inr (best, true, ⟨true⟩, l))) := by
      unfold m_bound_engine_edge_L0
      dsimp only
      rw [decide_eq_true (show (i : Int) < (rows.length : Int) by omega), ifB_true, gi_of hlt]
      simp only [some_bind', hv, ratE, Bool.false_or]
      by_cases hz : (valT rows[i].f1 l).2 = 0
      · rw [if_pos hz, decide_eq_true hz]
        simp only [Bool.not_true, ifB_false]
        have es : (ifB low (some (IntKind.wrap .i64 (0 - (valT rows[i].f1 l).1.f0))) (some (valT rows[i].f1 l).1.f0) : Option Int) = some (sgnR low (valT rows[i].f1 l).1).f0 := by
          unfold sgnR; cases low <;> rfl
        have e1 : (sgnR low (valT rows[i].f1 l).1).f1 = (valT rows[i].f1 l).1.f1 := by unfold sgnR; cases low <;> rfl
        rw [es]
        simp only [some_bind']
        rw [← e1]
        have ec := cmpE (a := ⟨(sgnR low (valT rows[i].f1 l).1).f0, (sgnR low (valT rows[i].f1 l).1).f1⟩) (b := ⟨best.f0, best.f1⟩) (sgn_in hvi) hb
        rw [ec]
        simp only [some_bind']
        have ei : decide ((i : Int) = 0) = decide (i = 0) := decide_eq_decide.2 (by omega)
        rw [ei, wrap_succ (by omega)]
        have eb : (ifB (decide (i = 0)) (some true) (ifB low (ifB (decide (0 < cmpR ⟨(sgnR low (valT rows[i].f1 l).1).f0, (sgnR low (valT rows[i].f1 l).1).f1⟩ ⟨best.f0, best.f1⟩)) (some true) (some false)) (some (decide (cmpR ⟨(sgnR low (valT rows[i].f1 l).1).f0, (sgnR low (valT rows[i].f1 l).1).f1⟩ ⟨best.f0, best.f1⟩ < 0)))) : Option Bool) = some (decide (i = 0) || better low (sgnR low (valT rows[i].f1 l).1) best) := by
          unfold better
          show (ifB (decide (i = 0)) (some true) (ifB low (ifB (decide (0 < cmpR (sgnR low (valT rows[i].f1 l).1) best)) (some true) (some false)) (some (decide (cmpR (sgnR low (valT rows[i].f1 l).1) best < 0)))) : Option Bool) = _
          cases decide (i = 0) with
          | true => rfl
          | false =>
            cases low with
            | true => cases decide (0 < cmpR (sgnR true (valT rows[i].f1 l).1) best) <;> rfl
            | false => rfl
        rw [eb]
        simp only [some_bind']
        cases decide (i = 0) || better low (sgnR low (valT rows[i].f1 l).1) best <;> rfl
      · rw [if_neg hz, decide_eq_false hz]; rfl
    unfold edgeL
    by_cases hz : (valT rows[i].f1 l).2 = 0
    · rw [if_pos hz] at e ⊢
      rw [loopO_inl e]
      have := ih (i + 1) (if decide (i = 0) || better low (sgnR low (valT rows[i].f1 l).1) best then sgnR low (valT rows[i].f1 l).1 else best) (by omega) (by split; exact sgn_in hvi; exact hb)
      rw [decide_eq_false (show ¬ i + 1 = 0 by omega)] at this
      exact this
    · rw [if_neg hz] at e ⊢
      rw [loopO_inr e]
      exact ⟨best, hb, rfl⟩
def edgeP (rows : List TRow) (at' : List TRat) (low : Bool) : Option TRat := edgeL at' low rows true ⟨0, 0⟩
theorem edgeE {rows : List TRow} {l : List TRat} {low : Bool} (hr : inW rows) (hl : inR l) (hn : l.length ≤ 1000) (hrl : rows.length ≤ 1000) :
    (match edgeP rows l low with
      | some x => in64R x ∧ m_bound_engine_edge ⟨false⟩ rows l low = some (x, !rows.isEmpty, ⟨false⟩, l)
      | none => ∃ x c, in64R x ∧ m_bound_engine_edge ⟨false⟩ rows l low = some (x, c, ⟨true⟩, l)) := by
  have := edge_loop (low := low) hr hl hn hrl rows.length 0 ⟨0, 0⟩ (by omega) z64
  rw [List.drop_zero, decide_eq_true rfl] at this
  unfold edgeP m_bound_engine_edge
  dsimp only
  have ee : decide (0 < (rows.length : Int)) = !rows.isEmpty := by cases rows <;> simp
  split at this
  · rename_i x hx
    refine ⟨this.1, ?_⟩
    rw [show loopO (m_bound_engine_edge_L0 rows l low) (0, false, 0, 0) = _ from this.2]
    simp only [some_bind']
    rw [ee]
  · rename_i hx
    obtain ⟨x, h1, h2⟩ := this
    refine ⟨x, true, h1, ?_⟩
    rw [show loopO (m_bound_engine_edge_L0 rows l low) (0, false, 0, 0) = _ from h2]; rfl
def ok1 (x : TRat × Int) : Option TRat := if x.2 = 0 then some x.1 else none
def chooseP (s : TBound_stage) (at' : List TRat) : Option TRat :=
  match edgeP s.f0 at' true, edgeP s.f1 at' false with
  | some lo, some hi => if s.f0.isEmpty && s.f1.isEmpty then some ⟨0, 1⟩ else if s.f1.isEmpty then ok1 (addR lo ⟨1, 1⟩) else if s.f0.isEmpty then ok1 (subR hi ⟨1, 1⟩) else (match ok1 (addR lo hi) with | some x => ok1 (mulR x ⟨1, 2⟩) | none => none)
  | _, _ => none
theorem half64 : in64R ⟨1, 2⟩ := by decide
theorem chooseE {s : TBound_stage} {l : List TRat} (h0 : inW s.f0) (h1 : inW s.f1) (hl : inR l) (hn : l.length ≤ 1000) (n0 : s.f0.length ≤ 1000) (n1 : s.f1.length ≤ 1000) :
    ∃ x o, m_bound_engine_choose ⟨false⟩ s l = some (x, ⟨o⟩, l) ∧ in64R x ∧ (match chooseP s l with | some y => o = false ∧ x = y | none => o = true) := by
  unfold m_bound_engine_choose chooseP
  have a := edgeE (low := true) h0 hl hn n0
  have b := edgeE (low := false) h1 hl hn n1
  cases ha : edgeP s.f0 l true with
  | none =>
    rw [ha] at a
    obtain ⟨x, c, i1, e1⟩ := a
    obtain ⟨y, c', e2, i2⟩ := edge_over (low := false) h1 hl hn ⟨0, 0⟩ z64
    rw [e1]
    simp only [some_bind', e2, ifB_true]
    exact ⟨_, _, rfl, n64, rfl⟩
  | some lo =>
    rw [ha] at a
    obtain ⟨i1, e1⟩ := a
    rw [e1]
    simp only [some_bind']
    cases hb : edgeP s.f1 l false with
    | none =>
      rw [hb] at b
      obtain ⟨y, c, i2, e2⟩ := b
      rw [e2]
      simp only [some_bind', ifB_true]
      exact ⟨_, _, rfl, n64, rfl⟩
    | some hi =>
      rw [hb] at b
      obtain ⟨i2, e2⟩ := b
      rw [e2]
      simp only [some_bind', ifB_false]
      have fin : ∀ (x : TRat × Int), in64R x.1 → ∃ y o, (some (x.1, (⟨!decide (x.2 = 0)⟩ : TBound_engine), l) : Option (TRat × TBound_engine × List TRat)) = some (y, ⟨o⟩, l) ∧ in64R y ∧ (match ok1 x with | some z => o = false ∧ y = z | none => o = true) := fun x hx => by
        refine ⟨x.1, !decide (x.2 = 0), rfl, hx, ?_⟩
        unfold ok1
        split
        · rename_i h; split at h
          · rename_i hz; cases h; rw [decide_eq_true hz]; exact ⟨rfl, rfl⟩
          · cases h
        · rename_i h; split at h
          · cases h
          · rename_i hz; rw [decide_eq_false hz]; rfl
      cases f0 : s.f0.isEmpty with
      | true =>
        cases f1 : s.f1.isEmpty with
        | true => exact ⟨_, _, rfl, n64, rfl, rfl⟩
        | false =>
          simp only [Bool.not_true, Bool.not_false, ifB_true, ifB_false, some_bind', subE i2 one64, ratE, Bool.false_or, Bool.and_false, Bool.false_eq_true, if_false, if_true]
          exact fin _ (sub_good _ _).1
      | false =>
        cases f1 : s.f1.isEmpty with
        | true =>
          simp only [Bool.not_true, Bool.not_false, ifB_true, ifB_false, some_bind', aR i1 one64, ratE, Bool.false_or, Bool.and_true, Bool.false_eq_true, if_false, if_true]
          exact fin _ (add_good _ _).1
        | false =>
          simp only [Bool.not_true, Bool.not_false, ifB_true, ifB_false, some_bind', aR i1 i2, ratE, Bool.false_or, Bool.and_self, Bool.false_eq_true, if_false, if_true]
          by_cases hz : (addR lo hi).2 = 0
          · have : ok1 (addR lo hi) = some (addR lo hi).1 := by unfold ok1; rw [if_pos hz]
            rw [this, decide_eq_true hz]
            simp only [Bool.not_true, ifB_false, mR (add_good lo hi).1 half64, some_bind', ratE, Bool.false_or]
            exact fin _ (mul_good _ _).1
          · have : ok1 (addR lo hi) = none := by unfold ok1; rw [if_neg hz]
            rw [this, decide_eq_false hz]
            exact ⟨_, _, rfl, (add_good lo hi).1, rfl⟩
end Go.E
end
section
set_option linter.all false
set_option maxRecDepth 10000
namespace Go.E
open Go Go.Proofs Go.Eng
def stAt (st : List TBound_stage) (k : Nat) : TBound_stage := (st[k]?).getD ⟨[], []⟩
def inSt (st : List TBound_stage) : Prop := ∀ s ∈ st, inW s.f0 ∧ inW s.f1 ∧ s.f0.length ≤ 1000 ∧ s.f1.length ≤ 1000
def witV (piv : List Int) (st : List TBound_stage) : Nat → List TRat → Option (List TRat)
  | 0, l => some l
  | k + 1, l => if piv.any (fun y => decide ((k : Int) = y)) then witV piv st k l else match chooseP (stAt st k) l with
    | some x => witV piv st k (l.set k x)
    | none => none
theorem inR_set {l : List TRat} {k : Nat} {x : TRat} (h : inR l) (hx : in64R x) : inR (l.set k x) := fun r hr => by
  rcases List.mem_or_eq_of_mem_set hr with hr | rfl
  · exact h r hr
  · exact hx
theorem wit_over0 {piv : List Int} {st : List TBound_stage} {i : Int} {l : List TRat} : loopO (m_bound_engine_witness_L0 piv st) (i, true, l) = some (true, l) := by
  refine loopO_inr ?_
  unfold m_bound_engine_witness_L0
  dsimp only
  cases decide (0 ≤ i) <;> rfl
theorem wit_loop0 {piv : List Int} {st : List TBound_stage} (hp : piv.length ≤ 1000) (hst : inSt st) (hs8 : st.length = 8) : ∀ (k : Nat) (l : List TRat), k ≤ 8 → inR l → l.length = 8 →
    ∃ o l', loopO (m_bound_engine_witness_L0 piv st) ((k : Int) - 1, false, l) = some (o, l') ∧ inR l' ∧ l'.length = 8 ∧ (match witV piv st k l with | some l1 => o = false ∧ l' = l1 | none => o = true) := by
  intro k
  induction k with
  | zero =>
    intro l _ hl h8
    refine ⟨false, l, loopO_inr ?_, hl, h8, rfl, rfl⟩
    unfold m_bound_engine_witness_L0
    dsimp only
    rw [decide_eq_false (by omega)]; rfl
  | succ k ih =>
    intro l hk hl h8
    have ek : ((k + 1 : Nat) : Int) - 1 = (k : Int) := by omega
    rw [ek]
    have hks : k < st.length := by omega
    have hmem : stAt st k ∈ st := by unfold stAt; rw [List.getElem?_eq_getElem hks]; exact List.getElem_mem hks
    obtain ⟨s0, s1, s2, s3⟩ := hst _ hmem
    have eg : gi st (k : Int) = some (stAt st k) := by rw [gi_of hks]; unfold stAt; rw [List.getElem?_eq_getElem hks]; rfl
    obtain ⟨x, o, e1, e2, e3⟩ := chooseE (s := stAt st k) s0 s1 hl (by omega) s2 s3
    have ew : IntKind.wrap .i64 ((k : Int) - 1) = (k : Int) - 1 := by rw [wrap_i64 (by omega) (by omega)]
    unfold witV
    cases hc : piv.any fun y => decide ((k : Int) = y) with
    | true =>
      have hb : m_bound_engine_witness_L0 piv st ((k : Int), false, l) = some (.inl ((k : Int) - 1, false, l)) := by
        unfold m_bound_engine_witness_L0
        dsimp only
        rw [decide_eq_true (by omega)]
        simp only [ifB_true, some_bind', idxI hp, hc, Bool.not_false, Bool.not_true, ifB_false, ew]
      rw [loopO_inl hb, if_pos rfl]
      exact ih l (by omega) hl h8
    | false =>
      have hb : m_bound_engine_witness_L0 piv st ((k : Int), false, l) = some (.inl ((k : Int) - 1, o, l.set k x)) := by
        unfold m_bound_engine_witness_L0
        dsimp only
        rw [decide_eq_true (show (0 : Int) ≤ (k : Int) by omega)]
        simp only [ifB_true, some_bind', idxI hp, hc, Bool.not_false, eg, e1]
        rw [rq_true rfl, rq_true (decide_eq_true (show (k : Int) < (l.length : Int) by omega)), gi_of (by omega)]
        simp only [some_bind', ew, Int.toNat_natCast]
      rw [loopO_inl hb, if_neg (by decide)]
      cases hy : chooseP (stAt st k) l with
      | some y =>
        rw [hy] at e3
        obtain ⟨rfl, rfl⟩ := e3
        exact ih (l.set k x) (by omega) (inR_set (k := k) hl e2) (by rw [List.length_set]; exact h8)
      | none =>
        rw [hy] at e3
        subst e3
        exact ⟨true, l.set k x, wit_over0, inR_set (k := k) hl e2, by rw [List.length_set]; exact h8, rfl⟩
def witU : List Row → List TRat → Option (List TRat)
  | [], l => some l
  | r :: U, l => if (valT r.f0 l).2 = 0 then witU U (l.set r.f1.toNat (neg (valT r.f0 l).1)) else none
theorem wit_loop1 {U : List Row} (hU : GoodU U) : ∀ (k i : Nat) (l : List TRat), i + k = U.length → inR l → l.length = 8 →
    ∃ o l', loopO (m_bound_engine_witness_L1 (U.map fun x => x.f0) (U.map fun x => x.f1)) ((i : Int), false, l) = some (o, l') ∧ inR l' ∧ l'.length = 8 ∧ (match witU (U.drop i) l with | some l1 => o = false ∧ l' = l1 | none => o = true) := by
  have hUl := hU.l
  intro k
  induction k with
  | zero =>
    intro i l hi hl h8
    rw [List.drop_of_length_le (by omega)]
    refine ⟨false, l, loopO_inr ?_, hl, h8, rfl, rfl⟩
    unfold m_bound_engine_witness_L1
    dsimp only
    rw [List.length_map, decide_eq_false (by omega)]; rfl
  | succ k ih =>
    intro i l hi hl h8
    have hlt : i < U.length := by omega
    have hin := hU.t _ (List.getElem_mem hlt)
    have hv := hU.v _ (List.getElem_mem hlt)
    have e : U[i].f1 = ((U[i].f1.toNat : Nat) : Int) := by omega
    have hvi : in64R (valT U[i].f0 l).1 := valT_in hin
    rw [List.drop_eq_getElem_cons hlt]
    unfold witU
    have hb : m_bound_engine_witness_L1 (U.map fun x => x.f0) (U.map fun x => x.f1) ((i : Int), false, l) = some (.inl (((i + 1 : Nat) : Int), !decide ((valT U[i].f0 l).2 = 0), l.set U[i].f1.toNat (neg (valT U[i].f0 l).1))) := by
      unfold m_bound_engine_witness_L1
      dsimp only
      rw [List.length_map, decide_eq_true (show (i : Int) < (U.length : Int) by omega), ifB_true, gi_of (by rw [List.length_map]; exact hlt), gi_of (by rw [List.length_map]; exact hlt), List.getElem_map, List.getElem_map]
      simp only [some_bind', ifB_false, valE hin hl (by omega), ratE, Bool.false_or]
      rw [rq_true (decide_eq_true hv.1), rq_true (decide_eq_true (show U[i].f1 < (l.length : Int) by omega)), e, gi_of (by omega), wrap_succ (by omega)]
      rfl
    rw [loopO_inl hb]
    by_cases hz : (valT U[i].f0 l).2 = 0
    · rw [if_pos hz, decide_eq_true hz]
      exact ih (i + 1) _ (by omega) (inR_set (k := U[i].f1.toNat) hl (neg_in hvi)) (by rw [List.length_set]; exact h8)
    · rw [if_neg hz, decide_eq_false hz]
      by_cases hend : i + 1 < U.length
      · refine ⟨true, _, loopO_inr ?_, inR_set (k := U[i].f1.toNat) hl (neg_in hvi), by rw [List.length_set]; exact h8, rfl⟩
        unfold m_bound_engine_witness_L1
        dsimp only
        rw [List.length_map, decide_eq_true (by omega), ifB_true, gi_of (by rw [List.length_map]; exact hend)]
        rfl
      · refine ⟨true, _, loopO_inr ?_, inR_set (k := U[i].f1.toNat) hl (neg_in hvi), by rw [List.length_set]; exact h8, rfl⟩
        unfold m_bound_engine_witness_L1
        dsimp only
        rw [List.length_map, decide_eq_false (by omega)]; rfl
def witB (U : List Row) (st : List TBound_stage) : Option (List TRat) := match witV (U.map fun x => x.f1) st 8 (List.replicate 8 ⟨0, 1⟩) with
  | some l => witU U l
  | none => none
theorem witE {U : List Row} {st : List TBound_stage} (hU : GoodU U) (hst : inSt st) (hs8 : st.length = 8) : ∃ l o, m_bound_engine_witness ⟨false⟩ st (U.map fun x => x.f0) (U.map fun x => x.f1) = some (l, ⟨o⟩) ∧ (match witB U st with | some l1 => o = false ∧ l = l1 | none => o = true) := by
  have hUl := hU.l
  unfold m_bound_engine_witness m_slices_Repeat_api_Rat
  rw [rq_true (decide_eq_true rfl)]
  simp only [some_bind']
  have r0 : inR (List.replicate 8 (⟨0, 1⟩ : TRat)) := fun r hr => by rw [List.eq_of_mem_replicate hr]; exact n64
  obtain ⟨o, l', e1, e2, e3, e4⟩ := wit_loop0 (piv := U.map fun x => x.f1) (by rw [List.length_map]; omega) hst hs8 8 (List.replicate 8 ⟨0, 1⟩) (Nat.le_refl _) r0 (by simp)
  rw [show ((7 : Int)) = ((8 : Nat) : Int) - 1 from rfl, e1]
  simp only [some_bind']
  unfold witB
  cases hw : witV (U.map fun x => x.f1) st 8 (List.replicate 8 ⟨0, 1⟩) with
  | none =>
    rw [hw] at e4
    subst e4
    by_cases h0 : 0 < U.length
    · rw [loopO_inr (x := (true, l'))]
      · exact ⟨_, _, rfl, rfl⟩
      · unfold m_bound_engine_witness_L1
        dsimp only
        rw [List.length_map, decide_eq_true (by omega), ifB_true, show ((0 : Int)) = ((0 : Nat) : Int) from rfl, gi_of (by rw [List.length_map]; exact h0)]
        rfl
    · rw [loopO_inr (x := (true, l'))]
      · exact ⟨_, _, rfl, rfl⟩
      · unfold m_bound_engine_witness_L1
        dsimp only
        rw [List.length_map, decide_eq_false (by omega)]; rfl
  | some l1 =>
    rw [hw] at e4
    obtain ⟨rfl, rfl⟩ := e4
    obtain ⟨o, l'', f1, f2, f3, f4⟩ := wit_loop1 hU U.length 0 l' (by omega) e2 e3
    rw [show ((0 : Int)) = ((0 : Nat) : Int) from rfl, f1]
    rw [List.drop_zero] at f4
    exact ⟨l'', o, rfl, f4⟩
def runD : Nat → Nat → List TRow → Option (List TBound_stage × List TRow)
  | 0, _, rows => some ([], rows)
  | k + 1, v, rows => match dropP rows v with
    | none => none
    | some (s, n) => match runD k (v + 1) n with
      | none => none
      | some (l, r) => some (s :: l, r)
theorem runD_over {rows : List TRow} {acc : List TBound_stage} {v : Int} : loopO m_bound_engine_solve_L2 (rows, acc, v, true) = some (rows, acc, true) := by
  refine loopO_inr ?_
  unfold m_bound_engine_solve_L2
  dsimp only
  cases decide (v < 8) <;> rfl
theorem drop_lens {rows : List TRow} {v : Nat} {s : TBound_stage} {n : List TRow} (h : dropP rows v = some (s, n)) (hl : rows.length ≤ 400) : s.f0.length ≤ 1000 ∧ s.f1.length ≤ 1000 := by
  unfold dropP at h
  split at h
  · cases h
    have h1 : (lowW v rows).length ≤ rows.length := by unfold lowW; rw [List.length_map]; exact List.length_filter_le _ _
    have h2 : (upW v rows).length ≤ rows.length := by unfold upW; rw [List.length_map]; exact List.length_filter_le _ _
    exact ⟨by dsimp only; omega, by dsimp only; omega⟩
  · cases h
theorem runD_loop : ∀ (k v : Nat) (rows : List TRow) (acc : List TBound_stage), v + k = 8 → inW rows → rows.length ≤ 400 → acc.length = v →
    ∃ fin acc' o, loopO m_bound_engine_solve_L2 (rows, acc, (v : Int), false) = some (fin, acc', o) ∧ (match runD k v rows with | some (l, r) => o = false ∧ fin = r ∧ acc' = acc ++ l ∧ inW r ∧ r.length ≤ 400 ∧ inSt l ∧ l.length = k | none => o = true) := by
  intro k
  induction k with
  | zero =>
    intro v rows acc hv hr hl ha
    refine ⟨rows, acc, false, loopO_inr ?_, rfl, rfl, by simp, hr, hl, (fun _ h => by cases h), rfl⟩
    unfold m_bound_engine_solve_L2
    dsimp only
    rw [decide_eq_false (by omega)]; rfl
  | succ k ih =>
    intro v rows acc hv hr hl ha
    obtain ⟨s, n, o, e1, e2⟩ := dropE (v := v) hr hl
    have hb : m_bound_engine_solve_L2 (rows, acc, (v : Int), false) = some (.inl (n, acc ++ [s], ((v + 1 : Nat) : Int), o)) := by
      unfold m_bound_engine_solve_L2
      dsimp only
      rw [decide_eq_true (show (v : Int) < 8 by omega)]
      simp only [ifB_true, some_bind', Bool.not_false, e1]
      rw [rq_true (decide_eq_true (by simp; omega)), wrap_succ (by omega)]
      rfl
    rw [loopO_inl hb]
    unfold runD
    cases hd : dropP rows v with
    | none =>
      rw [hd] at e2
      subst e2
      exact ⟨_, _, _, runD_over, rfl⟩
    | some p =>
      obtain ⟨s', n'⟩ := p
      rw [hd] at e2
      obtain ⟨rfl, rfl, rfl⟩ := e2
      obtain ⟨i1, i2, i3, i4⟩ := drop_in hd hr
      obtain ⟨j1, j2⟩ := drop_lens hd hl
      obtain ⟨fin, acc', o, f1, f2⟩ := ih (v + 1) n (acc ++ [s]) (by omega) i3 i4 (by simp; omega)
      refine ⟨fin, acc', o, f1, ?_⟩
      dsimp only
      cases hq : runD k (v + 1) n with
      | none => rw [hq] at f2; exact f2
      | some q =>
        obtain ⟨l, r⟩ := q
        rw [hq] at f2
        obtain ⟨g1, g2, g3, g4, g5, g6, g7⟩ := f2
        refine ⟨g1, g2, by rw [g3]; simp, g4, g5, fun x hx => ?_, by simp [g7]⟩
        rcases List.mem_cons.1 hx with rfl | hx
        · exact ⟨i1, i2, j1, j2⟩
        · exact g6 x hx
def eqsW (l : List TRow) : List TTerm := (l.filter fun r => decide (r.f0 = 0)).map fun r => r.f1
theorem eqs_loop {l : List TRow} (hl : l.length ≤ 400) : loopO (m_bound_engine_solve_L0 l) ([], 0) = some (eqsW l) := by
  have main := loopO_count (b := m_bound_engine_solve_L0 l) l.length (fun i s => s.2 = (i : Int) ∧ s.1 = eqsW (l.take i)) (fun z => z = eqsW l) ?_ ?_ (s := ([], 0)) ⟨rfl, rfl⟩
  · obtain ⟨z, hz, rfl⟩ := main; exact hz
  · rintro i ⟨acc, _⟩ hi ⟨rfl, rfl⟩
    left
    have hlen : (eqsW (l.take i)).length ≤ i := by
      unfold eqsW; rw [List.length_map]
      exact Nat.le_trans (List.length_filter_le _ _) (by rw [List.length_take]; omega)
    have tk := take_snoc hi
    unfold m_bound_engine_solve_L0
    dsimp only
    rw [decide_eq_true (show (i : Int) < (l.length : Int) by omega), ifB_true, gi_of hi, wrap_succ (by omega)]
    simp only [some_bind']
    by_cases hz : l[i].f0 = 0
    · rw [decide_eq_true hz]
      simp only [ifB_true]
      rw [rq_true (decide_eq_true (by simp; omega))]
      refine ⟨_, rfl, rfl, ?_⟩
      rw [tk]
      unfold eqsW
      rw [filter_snoc, if_pos (by simpa using hz), List.map_append]; rfl
    · rw [decide_eq_false hz]
      refine ⟨_, rfl, rfl, ?_⟩
      rw [tk]
      unfold eqsW
      rw [filter_snoc, if_neg (by simpa using hz)]
  · rintro ⟨acc, _⟩ ⟨rfl, rfl⟩
    unfold m_bound_engine_solve_L0
    dsimp only
    rw [decide_eq_false (by omega), List.take_length]
    exact ⟨_, rfl, rfl⟩
def plainL (U : List Row) : List TRow → Option (List TRow)
  | [] => some []
  | r :: rs => if r.f0 = 0 then plainL U rs else match plainT (ownT r.f1) U, plainL U rs with
    | some t, some l => some (⟨r.f0, t⟩ :: l)
    | _, _ => none
theorem plains_over {U : List Row} {l : List TRow} {st : Int} (hU : GoodU U) (hl : inW l) (hn : l.length ≤ 400) : ∀ (k i : Nat) (acc : List TRow), i + k = l.length → acc.length ≤ i →
    ∃ acc', loopO (m_bound_engine_solve_L1 l (U.map (fun x => x.f0), U.map (fun x => x.f1), st)) (acc, (i : Int), true) = some (acc', true) := by
  intro k
  induction k with
  | zero =>
    intro i acc hi ha
    refine ⟨acc, loopO_inr ?_⟩
    unfold m_bound_engine_solve_L1
    dsimp only
    rw [decide_eq_false (by omega)]; rfl
  | succ k ih =>
    intro i acc hi ha
    have hlt : i < l.length := by omega
    have hin := hl _ (List.getElem_mem hlt)
    obtain ⟨b, t', e1, e2, e3, e4⟩ := plainE hU (r := ⟨l[i].f0, ownT l[i].f1⟩) (own_in hin) true
    have e3 := e3 rfl
    subst e3
    by_cases hz : l[i].f0 = 0
    · have hb : m_bound_engine_solve_L1 l (U.map (fun x => x.f0), U.map (fun x => x.f1), st) (acc, (i : Int), true) = some (.inl (acc, ((i + 1 : Nat) : Int), true)) := by
        unfold m_bound_engine_solve_L1
        dsimp only
        rw [decide_eq_true (show (i : Int) < (l.length : Int) by omega), ifB_true, gi_of hlt, wrap_succ (by omega)]
        simp only [some_bind']
        rw [decide_eq_true hz]; rfl
      rw [loopO_inl hb]
      exact ih (i + 1) acc (by omega) (by omega)
    · have hb : m_bound_engine_solve_L1 l (U.map (fun x => x.f0), U.map (fun x => x.f1), st) (acc, (i : Int), true) = some (.inl (acc ++ [⟨l[i].f0, t'⟩], ((i + 1 : Nat) : Int), true)) := by
        unfold m_bound_engine_solve_L1
        dsimp only
        rw [decide_eq_true (show (i : Int) < (l.length : Int) by omega), ifB_true, gi_of hlt, wrap_succ (by omega)]
        simp only [some_bind']
        rw [decide_eq_false hz]
        simp only [Bool.not_false, ifB_true, ownP hin, some_bind', e1]
        rw [rq_true (decide_eq_true (by simp; omega))]; rfl
      rw [loopO_inl hb]
      exact ih (i + 1) _ (by omega) (by simp; omega)
theorem plains_loop {U : List Row} {l : List TRow} {st : Int} (hU : GoodU U) (hl : inW l) (hn : l.length ≤ 400) : ∀ (k i : Nat) (acc : List TRow), i + k = l.length → acc.length ≤ i → inW acc →
    ∃ acc' o, loopO (m_bound_engine_solve_L1 l (U.map (fun x => x.f0), U.map (fun x => x.f1), st)) (acc, (i : Int), false) = some (acc', o) ∧ (match plainL U (l.drop i) with | some r => o = false ∧ acc' = acc ++ r ∧ inW acc' ∧ acc'.length ≤ l.length | none => o = true) := by
  intro k
  induction k with
  | zero =>
    intro i acc hi ha hA
    rw [List.drop_of_length_le (by omega)]
    refine ⟨acc, false, loopO_inr ?_, rfl, by simp, hA, by omega⟩
    unfold m_bound_engine_solve_L1
    dsimp only
    rw [decide_eq_false (by omega)]; rfl
  | succ k ih =>
    intro i acc hi ha hA
    have hlt : i < l.length := by omega
    have hin := hl _ (List.getElem_mem hlt)
    rw [List.drop_eq_getElem_cons hlt]
    unfold plainL
    by_cases hz : l[i].f0 = 0
    · have hb : m_bound_engine_solve_L1 l (U.map (fun x => x.f0), U.map (fun x => x.f1), st) (acc, (i : Int), false) = some (.inl (acc, ((i + 1 : Nat) : Int), false)) := by
        unfold m_bound_engine_solve_L1
        dsimp only
        rw [decide_eq_true (show (i : Int) < (l.length : Int) by omega), ifB_true, gi_of hlt, wrap_succ (by omega)]
        simp only [some_bind']
        rw [decide_eq_true hz]; rfl
      rw [loopO_inl hb, if_pos hz]
      exact ih (i + 1) acc (by omega) (by omega) hA
    · obtain ⟨b, t', e1, e2, e3, e4⟩ := plainE hU (r := ⟨l[i].f0, ownT l[i].f1⟩) (own_in hin) false
      have e4 := e4 rfl
      dsimp only at e4
      have hb : m_bound_engine_solve_L1 l (U.map (fun x => x.f0), U.map (fun x => x.f1), st) (acc, (i : Int), false) = some (.inl (acc ++ [⟨l[i].f0, t'⟩], ((i + 1 : Nat) : Int), b)) := by
        unfold m_bound_engine_solve_L1
        dsimp only
        rw [decide_eq_true (show (i : Int) < (l.length : Int) by omega), ifB_true, gi_of hlt, wrap_succ (by omega)]
        simp only [some_bind']
        rw [decide_eq_false hz]
        simp only [Bool.not_false, ifB_true, ownP hin, some_bind', e1]
        rw [rq_true (decide_eq_true (by simp; omega))]; rfl
      rw [loopO_inl hb, if_neg hz]
      cases hp : plainT (ownT l[i].f1) U with
      | none =>
        rw [hp] at e4
        subst e4
        obtain ⟨acc', h⟩ := plains_over (st := st) hU hl hn k (i + 1) (acc ++ [⟨l[i].f0, t'⟩]) (by omega) (by simp; omega)
        exact ⟨acc', true, h, rfl⟩
      | some t1 =>
        rw [hp] at e4
        obtain ⟨rfl, rfl⟩ := e4
        obtain ⟨acc', o, h1, h2⟩ := ih (i + 1) (acc ++ [⟨l[i].f0, t'⟩]) (by omega) (by simp; omega) (inW_snoc hA e2)
        refine ⟨acc', o, h1, ?_⟩
        cases hq : plainL U (l.drop (i + 1)) with
        | none => rw [hq] at h2; exact h2
        | some r =>
          rw [hq] at h2
          exact ⟨h2.1, by rw [h2.2.1]; simp, h2.2.2⟩
end Go.E
end
section
set_option linter.all false
set_option maxRecDepth 10000
namespace Go.E
open Go Go.Proofs Go.Eng
theorem idxW {l : List TRow} {f : TRow → Option Bool} {g : TRow → Bool} (h : l.length ≤ 1000) (hf : ∀ o ∈ l, f o = some (g o)) : m_slices_ContainsFunc_api_Row l f = some (l.any g) := by
  unfold m_slices_ContainsFunc_api_Row m_slices_IndexFunc_api_Row
  rw [show ((0 : Int)) = ((0 : Nat) : Int) from rfl, loopO_first (b := m_slices_IndexFunc_api_Row_L0 l f) (fun i : Nat => (i : Int)) l.length (fun i => match l[i]? with | some o => g o | none => false) (fun i => (i : Int)) () ?_ ?_]
  · cases hq : fst l.length (fun i => match l[i]? with | some o => g o | none => false) with
    | none =>
      rw [fst_none] at hq
      have : l.any g = false := by
        rw [List.any_eq_false]
        intro x hx
        obtain ⟨i, hi, rfl⟩ := List.getElem_of_mem hx
        have := hq i hi
        rw [List.getElem?_eq_getElem hi] at this
        simpa using this
      rw [this]; rfl
    | some i =>
      obtain ⟨h1, h2⟩ := fst_some hq
      rw [List.getElem?_eq_getElem h1] at h2
      have : l.any g = true := List.any_eq_true.2 ⟨_, List.getElem_mem h1, h2⟩
      rw [this]
      simp only [some_bind']
      rw [decide_eq_true (show ((0 : Nat) : Int) ≤ (i : Int) by omega)]
  · intro i hi _
    unfold m_slices_IndexFunc_api_Row_L0
    simp only [lt_cast, decide_eq_true hi, ifB_true, gi_of hi, some_bind', hf _ (List.getElem_mem hi), List.getElem?_eq_getElem hi]
    rw [wrap_succ (by omega)]
    cases g l[i] <;> rfl
  · intro _
    unfold m_slices_IndexFunc_api_Row_L0
    simp only [lt_cast, Nat.lt_irrefl, decide_false, ifB_false]
def finalB (r : TRow) : Bool := decide (r.f1.f1.f0 < 0) || (decide (r.f0 = 2) && decide (r.f1.f1.f0 = 0))
theorem finalE {r : TRow} : m_bound_engine_solve_1 r = some (finalB r) := by
  unfold m_bound_engine_solve_1 finalB
  by_cases h : r.f1.f1.f0 < 0
  · rw [decide_eq_true h]; rfl
  · rw [decide_eq_false h]
    by_cases h2 : r.f0 = 2
    · rw [decide_eq_true h2]; simp [ifB]
    · rw [decide_eq_false h2]; rfl
def rowR (r : TRow) : Bool := decide (0 ≤ r.f0) && decide (r.f0 ≤ 2) && rt r.f1
theorem rightE {r : TRow} (h : in64T r.f1) : m_bound_right r = some (rowR r) := by
  unfold m_bound_right rowR
  rw [tR h]
  cases decide (0 ≤ r.f0) <;> cases decide (r.f0 ≤ 2) <;> rfl
def zipU (a : List TTerm) (b : List Int) : List Row := List.zipWith (fun t v => ⟨t, v⟩) a b
theorem zip_map : ∀ {U : List Row}, zipU (U.map fun x => x.f0) (U.map fun x => x.f1) = U
  | [] => rfl
  | r :: U => by
    unfold zipU
    rw [List.map_cons, List.map_cons, List.zipWith_cons_cons]
    exact congrArg (List.cons r) (zip_map (U := U))
theorem used_good {r : List Row} (h : W r 8) : GoodU (usedR r) := by
  refine ⟨fun x hx => ?_, fun x hx => ?_, ?_⟩
  · exact used_in h.g _ (List.mem_map.2 ⟨x, hx, rfl⟩)
  · unfold usedR at hx
    obtain ⟨p, hp, rfl⟩ := List.mem_map.1 hx
    obtain ⟨p1, p2, p3⟩ := pair_mem hp
    unfold key at p3
    omega
  · unfold usedR
    rw [List.length_map]
    exact pairs_len
theorem eqs_in {l : List TRow} (h : inW l) : inL (eqsW l) := fun t ht => by
  unfold eqsW at ht
  obtain ⟨r, hr, rfl⟩ := List.mem_map.1 ht
  exact h r (List.mem_filter.1 hr).1
theorem eqs_len {l : List TRow} : (eqsW l).length ≤ l.length := by
  unfold eqsW; rw [List.length_map]; exact List.length_filter_le _ _
def restB (U : List Row) (l : List TRow) : List TRat × Int := match plainL U l with
  | none => ([], 2)
  | some rows => match runD 8 0 rows with
    | none => ([], 2)
    | some (st, fin) => if fin.any finalB then ([], 1) else match witB U st with
      | some x => (x, 0)
      | none => ([], 2)
def solB (l : List TRow) : List TRat × Int :=
  if (solP (eqsW l)).2.2 = 0 then restB (zipU (solP (eqsW l)).1 (solP (eqsW l)).2.1) l else ([], (solP (eqsW l)).2.2)
theorem solve_in {l : List TRow} (h : inW l) (hl : l.length ≤ 12) : ∃ o, m_bound_engine_solve ⟨false⟩ l = some ((solB l).1, (solB l).2, ⟨o⟩) := by
  unfold m_bound_engine_solve solB
  rw [eqs_loop (by omega)]
  simp only [some_bind', solveE (eqs_in h) (Nat.le_trans eqs_len hl)]
  by_cases hz : (solP (eqsW l)).2.2 = 0
  · rw [decide_eq_true hz, if_pos hz]
    rcases sol_sem (eqs_in h) with h2 | ⟨_, ⟨h2, _⟩ | ⟨r, hw, he, _⟩⟩
    · omega
    · omega
    · rw [he]
      have hg := used_good hw
      dsimp only
      rw [zip_map]
      obtain ⟨acc, o, e1, e2⟩ := plains_loop (st := 0) hg h (by omega) l.length 0 [] (by omega) (by simp) (fun _ h => by cases h)
      rw [List.drop_zero] at e2
      rw [show ((0 : Nat) : Int) = (0 : Int) from rfl] at e1
      simp only [Bool.not_true, ifB_false]
      rw [e1]
      simp only [some_bind']
      unfold restB
      cases hp : plainL (usedR r) l with
      | none =>
        rw [hp] at e2
        subst e2
        rw [runD_over]
        exact ⟨true, rfl⟩
      | some rows =>
        rw [hp] at e2
        obtain ⟨rfl, rfl, e3, e4⟩ := e2
        obtain ⟨fin, st, o, f1, f2⟩ := runD_loop 8 0 acc [] rfl e3 (by omega) rfl
        rw [show ((0 : Nat) : Int) = (0 : Int) from rfl] at f1
        rw [f1]
        simp only [some_bind']
        cases hq : runD 8 0 acc with
        | none =>
          rw [hq] at f2
          subst f2
          exact ⟨true, rfl⟩
        | some q =>
          obtain ⟨ls, rr'⟩ := q
          rw [hq] at f2
          obtain ⟨rfl, rfl, rfl, g4, g5, g6, g7⟩ := f2
          simp only [ifB_false]
          rw [idxW (g := finalB) (by omega) fun o _ => finalE]
          simp only [some_bind']
          cases hf : fin.any finalB with
          | true => exact ⟨false, rfl⟩
          | false =>
            obtain ⟨x, o, w1, w2⟩ := witE hg g6 g7
            simp only [ifB_false, w1, some_bind']
            rw [if_neg (by decide)]
            cases hwi : witB (usedR r) st with
            | none =>
              rw [hwi] at w2
              subst w2
              exact ⟨true, rfl⟩
            | some x1 =>
              rw [hwi] at w2
              obtain ⟨rfl, rfl⟩ := w2
              exact ⟨false, rfl⟩
  · rw [decide_eq_false hz, if_neg hz]
    exact ⟨false, rfl⟩
def solA (l : List TRow) : List TRat × Int := if l.all rowR then solB l else ([], 2)
theorem boundE {l : List TRow} (h : inW l) (hl : l.length ≤ 12) : m_bound_Solve l = some (solA l) := by
  unfold m_bound_Solve solA
  rw [decide_eq_false (by omega), ifB_false, idxW (g := fun r => !rowR r) (by omega) fun o ho => by unfold m_bound_Solve_1; rw [rightE (h o ho)]; rfl]
  simp only [some_bind']
  have e : (l.any fun r => !rowR r) = !l.all rowR := by
    induction l with
    | nil => rfl
    | cons a l ih => rw [List.any_cons, List.all_cons, ih (fun x hx => h x (List.mem_cons_of_mem _ hx)) (by simp at hl; omega)]; cases rowR a <;> rfl
  rw [e]
  cases hq : l.all rowR with
  | false => rfl
  | true =>
    obtain ⟨o, hs⟩ := solve_in h hl
    simp only [Bool.not_true, ifB_false, hs, some_bind']
    rfl
end Go.E
end
section
set_option linter.all false
set_option maxRecDepth 10000
namespace Go.E
open Go Go.Proofs Go.Eng
def upd (x : Nat → Rat) (v : Nat) (y : Rat) (i : Nat) : Rat := if i = v then y else x i
def big (op : Int) (e : Rat) : Prop := if op = 2 then 0 < e else 0 ≤ e
def allW (l : List TRow) (x : Nat → Rat) : Prop := ∀ r ∈ l, big r.f0 (ev r.f1 x)
structure Ine (l : List TRow) : Prop where
  ok : ∀ r ∈ l, Ok r.f1
  op : ∀ r ∈ l, r.f0 = 1 ∨ r.f0 = 2
end Go.E
end
section
set_option linter.all false
set_option maxRecDepth 10000
namespace Go.E
open Go Go.Proofs Go.Eng
structure Gone (rows : List TRow) (v : Nat) (n : List TRow) : Prop where
  ine : Ine n
  z : ∀ r ∈ n, V r.f1 v = 0
  k : ∀ u, (∀ r ∈ rows, V r.f1 u = 0) → ∀ r ∈ n, V r.f1 u = 0
  to : ∀ x, allW rows x → allW n x
  fr : ∀ x, allW n x → ∃ y, allW rows (upd x v y)
end Go.E
end
section
set_option linter.all false
set_option maxRecDepth 10000
namespace Go.E
open Go Go.Proofs Go.Eng
def failB (x : List TRat) (r : TRow) : Bool := !rowR r || (!decide ((valT r.f1 x).2 = 0) || (decide ((valT r.f1 x).1.f0 < 0) || ((decide (r.f0 = 0) && !decide ((valT r.f1 x).1.f0 = 0)) || (decide (r.f0 = 2) && decide ((valT r.f1 x).1.f0 = 0)))))
theorem holdsE {l : List TRow} {x : List TRat} (hl : inW l) (hn : l.length ≤ 1000) (hx : inR x) (hx8 : x.length ≤ 1000) : m_bound_Holds l x = some (!l.any (failB x)) := by
  unfold m_bound_Holds
  have main := loopO_first (b := m_bound_Holds_L0 l x) (fun i : Nat => (i : Int)) l.length (fun i => match l[i]? with | some r => failB x r | none => false) (fun _ => false) () ?_ ?_
  · rw [show ((0 : Int)) = ((0 : Nat) : Int) from rfl, main]
    cases hq : fst l.length (fun i => match l[i]? with | some r => failB x r | none => false) with
    | some i =>
      obtain ⟨h1, h2⟩ := fst_some hq
      rw [List.getElem?_eq_getElem h1] at h2
      have : l.any (failB x) = true := List.any_eq_true.2 ⟨l[i], List.getElem_mem h1, h2⟩
      rw [this]; rfl
    | none =>
      have hn := fst_none.1 hq
      have : l.any (failB x) = false := by
        rw [List.any_eq_false]
        intro r hr
        obtain ⟨i, hi, rfl⟩ := List.getElem_of_mem hr
        have := hn i hi
        rw [List.getElem?_eq_getElem hi] at this
        simpa using this
      rw [this]; rfl
  · intro i hi _
    have hin := hl _ (List.getElem_mem hi)
    unfold m_bound_Holds_L0
    dsimp only
    rw [decide_eq_true (show (i : Int) < (l.length : Int) by omega), ifB_true, gi_of hi, wrap_succ (by omega), List.getElem?_eq_getElem hi]
    simp only [some_bind', valE hin hx hx8, rightE hin]
    show _ = some (if failB x l[i] = true then _ else _)
    unfold failB
    generalize l[i] = r
    cases rowR r
    · rfl
    · cases decide ((valT r.f1 x).2 = 0)
      · rfl
      · cases decide ((valT r.f1 x).1.f0 < 0)
        · by_cases h0 : r.f0 = 0
          · rw [decide_eq_true h0, decide_eq_false (show ¬ r.f0 = 2 by omega)]
            cases decide ((valT r.f1 x).1.f0 = 0) <;> rfl
          · rw [decide_eq_false h0]
            cases decide (r.f0 = 2) <;> cases decide ((valT r.f1 x).1.f0 = 0) <;> rfl
        · rfl
  · intro _
    unfold m_bound_Holds_L0
    dsimp only
    rw [decide_eq_false (by omega)]; rfl
abbrev b1 : List TRow := [⟨2, ⟨[⟨1, 1⟩], ⟨0, 1⟩⟩⟩, ⟨1, ⟨[⟨-1, 1⟩], ⟨1, 1⟩⟩⟩]
abbrev b2 : List TRow := [⟨2, ⟨[⟨1, 1⟩], ⟨0, 1⟩⟩⟩, ⟨1, ⟨[⟨-1, 1⟩], ⟨0, 1⟩⟩⟩]
theorem b1_in : inW b1 := fun t ht => by
  simp only [List.mem_cons, List.not_mem_nil, or_false] at ht
  rcases ht with rfl | rfl <;> exact in64T_of (by decide +kernel)
theorem b2_in : inW b2 := fun t ht => by
  simp only [List.mem_cons, List.not_mem_nil, or_false] at ht
  rcases ht with rfl | rfl <;> exact in64T_of (by decide +kernel)
theorem awake4 : m_law04_awake = some true := by
  unfold m_law04_awake
  rw [show ([(⟨2, (⟨[(⟨1, 1⟩ : TRat)], (⟨0, 1⟩ : TRat)⟩ : TTerm)⟩ : TRow), (⟨1, (⟨[(⟨-1, 1⟩ : TRat)], (⟨1, 1⟩ : TRat)⟩ : TTerm)⟩ : TRow)]) = b1 from rfl, show ([(⟨2, (⟨[(⟨1, 1⟩ : TRat)], (⟨0, 1⟩ : TRat)⟩ : TTerm)⟩ : TRow), (⟨1, (⟨[(⟨-1, 1⟩ : TRat)], (⟨0, 1⟩ : TRat)⟩ : TTerm)⟩ : TRow)]) = b2 from rfl, boundE b1_in (by decide), boundE b2_in (by decide)]
  have e1 : (solA b1).2 = 0 := by decide +kernel
  have e2 : (solA b2).2 = 1 := by decide +kernel
  have e4 : (solA b1).1.length = 8 := by decide +kernel
  have e5 : (solA b1).1.all (fun r => decide (in64R r)) = true := by decide +kernel
  have e6 : (match (solA b1).1[0]? with | some r => eqTRat r ⟨1, 2⟩ | none => false) = true := by decide +kernel
  have e3 : (!b1.any (failB (solA b1).1)) = true := by decide +kernel
  have hx : inR (solA b1).1 := fun r hr => by simpa using List.all_eq_true.1 e5 r hr
  simp only [some_bind']
  rw [e2, e1, e4, show ((0 : Int)) = ((0 : Nat) : Int) from rfl, gi_of (show 0 < (solA b1).1.length by omega), holdsE b1_in (by decide) hx (by omega), e3]
  rw [List.getElem?_eq_getElem (show 0 < (solA b1).1.length by omega)] at e6
  have e6 : eqTRat ((solA b1).1[0]'(by omega)) ⟨1, 2⟩ = true := e6
  simp only [some_bind', e6]
  rfl
end Go.E
end
section
set_option linter.all false
set_option maxRecDepth 10000
namespace Go.E
open Go Go.Proofs Go.Eng
theorem m1_64 : in64R ⟨-1, 1⟩ := by decide
end Go.E
end
section
set_option linter.all false
set_option maxRecDepth 10000
namespace Go.E
open Go Go.Proofs Go.Eng
def Mid (n : Int) : Prop := -9223372036854775808 < n ∧ n < 9223372036854775808
theorem int_right {n : Int} (h : Mid n) : BallQ.Right n 1 := ⟨by decide, by unfold Mid at h; omega, by simp⟩
theorem int_64 {n : Int} (h : Mid n) : in64R ⟨n, 1⟩ := ⟨⟨by unfold Mid at h; show _ ≤ n; omega, by unfold Mid at h; show n ≤ _; omega⟩, by show BallQ.In64 1; decide⟩
theorem int_rr {n : Int} (h : Mid n) : rr ⟨n, 1⟩ = true := decide_eq_true (int_right h)
theorem q_int (n : Int) : BallQ.q n 1 = (n : Rat) := by
  unfold BallQ.q
  rw [show (1 : Int).toNat = 1 from rfl, BallQ.q_div]
  have : ((1 : Nat) : Rat) = 1 := rfl
  rw [this]; grind
theorem out_int {n : Int} (h : Mid n) : BallQ.out (n : Rat) = (n, 1, 0) := by
  have hf : BallQ.fits (n : Rat) := by
    unfold BallQ.fits
    unfold Mid at h
    rw [Rat.num_intCast, Rat.den_intCast]
    exact ⟨by omega, by decide⟩
  unfold BallQ.out
  rw [if_pos hf, Rat.num_intCast, Rat.den_intCast]; rfl
theorem add_int {a b : Int} (ha : Mid a) (hb : Mid b) (h : Mid (a + b)) : addR ⟨a, 1⟩ ⟨b, 1⟩ = (⟨a + b, 1⟩, 0) := by
  unfold addR addS
  rw [if_pos ⟨int_right ha, int_right hb⟩]
  dsimp only
  rw [q_int, q_int, ← Rat.intCast_add, out_int h]; rfl
theorem mul_int {a b : Int} (ha : Mid a) (hb : Mid b) (h : Mid (a * b)) : mulR ⟨a, 1⟩ ⟨b, 1⟩ = (⟨a * b, 1⟩, 0) := by
  unfold mulR mulS
  rw [if_pos ⟨int_right ha, int_right hb⟩]
  dsimp only
  rw [q_int, q_int, ← Rat.intCast_mul, out_int h]; rfl
theorem new_half (n : Int) : newS n 2 = BallQ.out (mkRat n 2) := by
  unfold newS
  rw [if_neg (by decide)]
  rcases (show n % 2 = 0 ∨ n % 2 = 1 by omega) with h | h
  · obtain ⟨m, rfl⟩ : ∃ m, n = 2 * m := ⟨n / 2, by omega⟩
    have hg : Nat.gcd (2 * m).natAbs (2 : Int).natAbs = 2 := by
      rw [Int.natAbs_mul]; exact Nat.gcd_mul_right_left _ _
    rw [hg, show mkRat (2 * m) 2 = mkRat m 1 from Rat.mkRat_mul_left (n := m) (d := 1) (a := 2) (by decide), BallQ.out_cop m 1 (by decide) (by simp) (decide (m < 0)) (fun _ => rfl)]
    have e : (2 * m).natAbs / 2 = m.natAbs := by omega
    have e2 : (!(decide (2 * m < 0) == decide ((2 : Int) < 0))) = decide (m < 0) := by
      by_cases hm : m < 0
      · rw [decide_eq_true hm, decide_eq_true (show 2 * m < 0 by omega)]; rfl
      · rw [decide_eq_false hm, decide_eq_false (show ¬ 2 * m < 0 by omega)]; rfl
    rw [e, e2]; rfl
  · have hg : Nat.gcd n.natAbs 2 = 1 := by
      have : n.natAbs % 2 = 1 := by omega
      rw [Nat.gcd_comm, Nat.gcd_rec, this]; rfl
    rw [show (2 : Int).natAbs = 2 from rfl, hg, BallQ.out_cop n 2 (by decide) hg (decide (n < 0)) (fun _ => rfl)]
    have e2 : (!(decide (n < 0) == decide ((2 : Int) < 0))) = decide (n < 0) := by
      cases decide (n < 0) <;> rfl
    rw [e2, Nat.div_one]
theorem half_ok {n : Int} (h : Mid n) : (newS n 2).2.2 = 0 := by
  unfold newS BallQ.put
  unfold Mid at h
  have h1 : n.natAbs / Nat.gcd n.natAbs (2 : Int).natAbs ≤ n.natAbs := Nat.div_le_self _ _
  have h2 : (2 : Int).natAbs / Nat.gcd n.natAbs (2 : Int).natAbs ≤ 2 := Nat.div_le_self _ _
  rw [if_neg (by decide), if_pos ⟨by omega, by omega⟩]
theorem mul_half {n : Int} (h : Mid n) : mulR ⟨n, 1⟩ ⟨1, 2⟩ = toR (newS n 2) := by
  unfold mulR mulS
  rw [if_pos ⟨int_right h, by decide⟩]
  dsimp only
  rw [new_half]
  unfold BallQ.q
  rw [Rat.mkRat_mul_mkRat, Int.mul_one]; rfl
theorem ok_one {c : TRat} {k : Int} (hk : Mid k) (hc : in64R c) (rc : rr c = true) (hz : c.f0 ≠ 0) : Ok ⟨[c], ⟨k, 1⟩⟩ :=
  ⟨⟨int_64 hk, fun r hr => by rw [List.mem_singleton] at hr; subst hr; exact hc, by simp⟩, by unfold rt; rw [int_rr hk]; simp [rc], fun n hn => by
    obtain rfl : n = 0 := by simpa using hn.symm
    exact hz⟩
abbrev rLo (p A : Int) : TRow := ⟨p, ⟨[⟨1, 1⟩], ⟨A, 1⟩⟩⟩
abbrev rUp (p B : Int) : TRow := ⟨p, ⟨[⟨-1, 1⟩], ⟨B, 1⟩⟩⟩
abbrev rNo (p C : Int) : TRow := ⟨p, ⟨[], ⟨C, 1⟩⟩⟩
theorem ok_lo {A : Int} (h : Mid A) : Ok ⟨[⟨1, 1⟩], ⟨A, 1⟩⟩ := ok_one h i1 r1_ok (by decide)
theorem ok_up {B : Int} (h : Mid B) : Ok ⟨[⟨-1, 1⟩], ⟨B, 1⟩⟩ := ok_one h m1_64 (by decide +kernel) (by decide)
theorem abs_up : absR ⟨-1, 1⟩ = ⟨1, 1⟩ := by
  unfold absR
  rw [if_pos (by decide)]
  rfl
theorem div_lo {A : Int} (h : Mid A) : divT ⟨[⟨1, 1⟩], ⟨A, 1⟩⟩ ⟨1, 1⟩ = (⟨[⟨1, 1⟩], ⟨A, 1⟩⟩, 0) := by
  unfold divT
  rw [show absR ⟨1, 1⟩ = ⟨1, 1⟩ from rfl, div_one, if_pos rfl, mulT_one (ok_lo h)]
theorem div_up {B : Int} (h : Mid B) : divT ⟨[⟨-1, 1⟩], ⟨B, 1⟩⟩ ⟨-1, 1⟩ = (⟨[⟨-1, 1⟩], ⟨B, 1⟩⟩, 0) := by
  unfold divT
  rw [abs_up, div_one, if_pos rfl, mulT_one (ok_up h)]
theorem add_lo_up {A B : Int} (hA : Mid A) (hB : Mid B) (h : Mid (A + B)) : addT ⟨[⟨1, 1⟩], ⟨A, 1⟩⟩ ⟨[⟨-1, 1⟩], ⟨B, 1⟩⟩ = (⟨[], ⟨A + B, 1⟩⟩, 0) := by
  unfold addT
  rw [(ok_lo hA).r, (ok_up hB).r, Bool.and_self, if_pos rfl]
  unfold eachT
  dsimp only
  rw [add_int hA hB h, if_pos rfl]
  have e0 : addR ⟨1, 1⟩ ⟨-1, 1⟩ = (⟨0, 1⟩, 0) := add_int (a := 1) (b := -1) ⟨by decide, by decide⟩ ⟨by decide, by decide⟩ ⟨by decide, by decide⟩
  have hf : ∀ i, i < 1 → addR (atT ⟨[⟨1, 1⟩], ⟨A, 1⟩⟩ i) (atT ⟨[⟨-1, 1⟩], ⟨B, 1⟩⟩ i) = (⟨0, 1⟩, 0) := fun i hi => by
    obtain rfl : i = 0 := by omega
    exact e0
  have hn : fst (max ([⟨1, 1⟩] : List TRat).length ([⟨-1, 1⟩] : List TRat).length) (bad fun i => addR (atT ⟨[⟨1, 1⟩], ⟨A, 1⟩⟩ i) (atT ⟨[⟨-1, 1⟩], ⟨B, 1⟩⟩ i)) = none := fst_none.2 fun i hi => by
    have : (addR (atT ⟨[⟨1, 1⟩], ⟨A, 1⟩⟩ i) (atT ⟨[⟨-1, 1⟩], ⟨B, 1⟩⟩ i)).2 = 0 := by rw [hf i hi]
    unfold bad
    simpa using this
  rw [hn]
  dsimp only
  have hl : lst (fun i => addR (atT ⟨[⟨1, 1⟩], ⟨A, 1⟩⟩ i) (atT ⟨[⟨-1, 1⟩], ⟨B, 1⟩⟩ i)) (max ([⟨1, 1⟩] : List TRat).length ([⟨-1, 1⟩] : List TRat).length) = [⟨0, 1⟩] := by
    show [(addR (atT ⟨[⟨1, 1⟩], ⟨A, 1⟩⟩ 0) (atT ⟨[⟨-1, 1⟩], ⟨B, 1⟩⟩ 0)).1] = _
    rw [hf 0 (by decide)]
  rw [hl]
  rfl
theorem drop_span {p q A B : Int} (hA : Mid A) (hB : Mid B) (h : Mid (A + B)) : dropP [rLo p A, rUp q B] 0 = some (⟨[rLo p A], [rUp q B]⟩, [rNo (if p < q then q else p) (A + B)]) := by
  have d0 : divW 0 (rLo p A) = rLo p A := by unfold divW; rw [show cOf 0 (rLo p A) = ⟨1, 1⟩ from rfl, div_lo hA]
  have d1 : divW 0 (rUp q B) = rUp q B := by unfold divW; rw [show cOf 0 (rUp q B) = ⟨-1, 1⟩ from rfl, div_up hB]
  have e0 : lowW 0 [rLo p A, rUp q B] = [rLo p A] := by
    show [divW 0 (rLo p A)] = _
    rw [d0]
  have e1 : upW 0 [rLo p A, rUp q B] = [rUp q B] := by
    show [divW 0 (rUp q B)] = _
    rw [d1]
  have e2 : nxW 0 [rLo p A, rUp q B] = [] := rfl
  have e3 : [rLo p A, rUp q B].all (okW 0) = true := by
    have o0 : okW 0 (rLo p A) = true := by unfold okW; rw [show cOf 0 (rLo p A) = ⟨1, 1⟩ from rfl, div_lo hA]; rfl
    have o1 : okW 0 (rUp q B) = true := by unfold okW; rw [show cOf 0 (rUp q B) = ⟨-1, 1⟩ from rfl, div_up hB]; rfl
    simp [o0, o1]
  have e4 : badS (rLo p A) (rUp q B) = false := by unfold badS; rw [add_lo_up hA hB h]; rfl
  have e5 : sumW (rLo p A) (rUp q B) = rNo (if p < q then q else p) (A + B) := by unfold sumW; rw [add_lo_up hA hB h]
  unfold dropP
  rw [e0, e1, e2, e3]
  simp only [List.any_cons, List.any_nil, e4, List.flatMap_cons, List.flatMap_nil, List.map_cons, List.map_nil, e5]
  rfl
theorem drop_no {p C : Int} {v : Nat} : dropP [rNo p C] v = some (⟨[], []⟩, [rNo p C]) := rfl
theorem run_no {p C : Int} : ∀ k v, runD k v [rNo p C] = some (List.replicate k ⟨[], []⟩, [rNo p C])
  | 0, _ => rfl
  | k + 1, v => by
    unfold runD
    rw [drop_no]
    dsimp only
    rw [run_no k (v + 1)]; rfl
abbrev z8 : List TRat := List.replicate 8 ⟨0, 1⟩
theorem wit_no {s : TBound_stage} : ∀ k, k ≤ 7 → witV [] (s :: List.replicate 7 ⟨[], []⟩) (k + 1) z8 = witV [] (s :: List.replicate 7 ⟨[], []⟩) 1 z8
  | 0, _ => rfl
  | k + 1, h => by
    rw [← wit_no k (by omega)]
    have e : stAt (s :: List.replicate 7 ⟨[], []⟩) (k + 1) = ⟨[], []⟩ := by
      unfold stAt
      rw [List.getElem?_cons_succ, List.getElem?_replicate, if_pos (by omega)]; rfl
    have hset : z8.set (k + 1) ⟨0, 1⟩ = z8 := by
      have : k = 0 ∨ k = 1 ∨ k = 2 ∨ k = 3 ∨ k = 4 ∨ k = 5 ∨ k = 6 := by omega
      rcases this with rfl | rfl | rfl | rfl | rfl | rfl | rfl <;> rfl
    show (match chooseP (stAt (s :: List.replicate 7 ⟨[], []⟩) (k + 1)) z8 with | some x => witV [] (s :: List.replicate 7 ⟨[], []⟩) (k + 1) (z8.set (k + 1) x) | none => none) = _
    rw [e, show chooseP ⟨[], []⟩ z8 = some ⟨0, 1⟩ from rfl]
    dsimp only
    rw [hset]
end Go.E
end
section
set_option linter.all false
set_option maxRecDepth 10000
namespace Go.E
open Go Go.Proofs Go.Eng
theorem val_one {c : TRat} {k : Int} (hc : c = ⟨1, 1⟩ ∨ c = ⟨-1, 1⟩) (h : Mid k) : valT ⟨[c], ⟨k, 1⟩⟩ z8 = (⟨k, 1⟩, 0) := by
  have hr : rt ⟨[c], ⟨k, 1⟩⟩ = true := by rcases hc with rfl | rfl; exact (ok_lo h).r; exact (ok_up h).r
  have hz : (z8.take 8).all rr = true := by decide +kernel
  have m0 : mulR c ⟨0, 1⟩ = (⟨0, 1⟩, 0) := by
    rcases hc with rfl | rfl
    · exact mul_int (a := 1) (b := 0) ⟨by decide, by decide⟩ ⟨by decide, by decide⟩ ⟨by decide, by decide⟩
    · exact mul_int (a := -1) (b := 0) ⟨by decide, by decide⟩ ⟨by decide, by decide⟩ ⟨by decide, by decide⟩
  have a0 : addR ⟨k, 1⟩ ⟨0, 1⟩ = (⟨k, 1⟩, 0) := by
    have := add_int (a := k) (b := 0) h ⟨by decide, by decide⟩ (by rwa [Int.add_zero])
    rwa [Int.add_zero] at this
  unfold valT
  rw [hr, hz, Bool.and_self, if_pos rfl, show z8.take 8 = ⟨0, 1⟩ :: List.replicate 7 ⟨0, 1⟩ from rfl]
  unfold valL
  rw [m0]
  dsimp only
  rw [if_pos rfl, a0]
  dsimp only
  rw [if_pos rfl]
  rfl
theorem neg_int {A : Int} (h : Mid A) : neg ⟨A, 1⟩ = ⟨-A, 1⟩ := by
  unfold neg Mid at *
  dsimp only
  rw [wrap_i64 (by omega) (by omega)]
  congr 1
  omega
theorem choose_span {p q A B : Int} (hA : Mid A) (hB : Mid B) (h : Mid (-A + B)) : chooseP ⟨[rLo p A], [rUp q B]⟩ z8 = some (toR (newS (-A + B) 2)).1 := by
  have hA' : Mid (-A) := by unfold Mid at *; omega
  have e0 : edgeP [rLo p A] z8 true = some ⟨-A, 1⟩ := by
    unfold edgeP edgeL
    rw [val_one (.inl rfl) hA, if_pos rfl]
    unfold sgnR
    dsimp only
    rw [neg_int hA]; rfl
  have e1 : edgeP [rUp q B] z8 false = some ⟨B, 1⟩ := by
    unfold edgeP edgeL
    rw [val_one (.inr rfl) hB, if_pos rfl]; rfl
  unfold chooseP
  dsimp only
  rw [e0, e1]
  dsimp only
  rw [if_neg (show ¬ (([rLo p A].isEmpty && [rUp q B].isEmpty) = true) from Bool.false_ne_true), if_neg (show ¬ ([rUp q B].isEmpty = true) from Bool.false_ne_true), if_neg (show ¬ ([rLo p A].isEmpty = true) from Bool.false_ne_true), add_int hA' hB h]
  unfold ok1
  rw [if_pos rfl]
  dsimp only
  rw [mul_half h, if_pos (show (toR (newS (-A + B) 2)).2 = 0 from half_ok h)]
theorem sol_nil : solP [] = ([], [], 0) := rfl
theorem solA_span {p q A B : Int} (hp : p = 1 ∨ p = 2) (hq : q = 1 ∨ q = 2) (hA : Mid A) (hB : Mid B) (h : Mid (A + B)) (h' : Mid (-A + B)) :
    solA [rLo p A, rUp q B] = if finalB (rNo (if p < q then q else p) (A + B)) then ([], 1) else ((toR (newS (-A + B) 2)).1 :: List.replicate 7 ⟨0, 1⟩, 0) := by
  have r0 : rowR (rLo p A) = true := by unfold rowR; rw [(ok_lo hA).r]; rcases hp with rfl | rfl <;> rfl
  have r1 : rowR (rUp q B) = true := by unfold rowR; rw [(ok_up hB).r]; rcases hq with rfl | rfl <;> rfl
  have np : ¬ p = 0 := by omega
  have nq : ¬ q = 0 := by omega
  have ee : eqsW [rLo p A, rUp q B] = [] := by
    unfold eqsW
    simp [np, nq]
  have pl : plainL [] [rLo p A, rUp q B] = some [rLo p A, rUp q B] := by
    unfold plainL
    rw [if_neg np]
    unfold plainL
    rw [if_neg nq]
    unfold plainL
    rw [own_ok (ok_lo hA), own_ok (ok_up hB)]
    rfl
  have ru : runD 8 0 [rLo p A, rUp q B] = some (⟨[rLo p A], [rUp q B]⟩ :: List.replicate 7 ⟨[], []⟩, [rNo (if p < q then q else p) (A + B)]) := by
    unfold runD
    rw [drop_span hA hB h]
    dsimp only
    rw [run_no]
  unfold solA
  rw [if_pos (by simp [r0, r1])]
  unfold solB
  rw [ee, sol_nil]
  dsimp only
  rw [if_pos rfl, show zipU [] [] = [] from rfl]
  unfold restB
  rw [pl]
  dsimp only
  rw [ru]
  dsimp only
  rw [List.any_cons, List.any_nil, Bool.or_false]
  cases hf : finalB (rNo (if p < q then q else p) (A + B)) with
  | true => rfl
  | false =>
    rw [if_neg Bool.false_ne_true, if_neg Bool.false_ne_true]
    have w : witB [] (⟨[rLo p A], [rUp q B]⟩ :: List.replicate 7 ⟨[], []⟩) = some ((toR (newS (-A + B) 2)).1 :: List.replicate 7 ⟨0, 1⟩) := by
      unfold witB
      rw [List.map_nil, wit_no 7 (by decide)]
      unfold witV
      rw [if_neg (by decide), show stAt (⟨[rLo p A], [rUp q B]⟩ :: List.replicate 7 ⟨[], []⟩) 0 = ⟨[rLo p A], [rUp q B]⟩ from rfl, choose_span hA hB h']
      rfl
    rw [w]
theorem P_BoundSpan (a0 a1 : Int) (a2 : TS37) (h0 : (Lit.int .i16 a0).wf = true) (h1 : (Lit.int .i16 a1).wf = true) (_ : okTS37 a2) : m_law04_BoundSpan a0 a1 a2 = some true := by
  simp [Lit.wf, IntKind.min, IntKind.max, IntKind.signed, IntKind.bits] at h0 h1
  obtain ⟨o0, o1⟩ := a2
  have w0 : IntKind.wrap .i64 a0 = a0 := wrap_i64 (by omega) (by omega)
  have w1 : IntKind.wrap .i64 a1 = a1 := wrap_i64 (by omega) (by omega)
  have w2 : IntKind.wrap .i64 (0 - a0) = -a0 := by rw [wrap_i64 (by omega) (by omega)]; omega
  have w3 : IntKind.wrap .i64 (a0 + a1) = a0 + a1 := wrap_i64 (by omega) (by omega)
  have hl : loopO (m_law04_BoundSpan_L0 [o0, o1]) (0, [1, 1]) = some [if o0 then 2 else 1, if o1 then 2 else 1] := by
    rw [loopO_inl (s' := (1, [if o0 then 2 else 1, 1])) (by cases o0 <;> rfl), loopO_inl (s' := (2, [if o0 then 2 else 1, if o1 then 2 else 1])) (by cases o0 <;> cases o1 <;> rfl)]
    exact loopO_inr (by cases o0 <;> cases o1 <;> rfl)
  have hA : Mid (-a0) := by unfold Mid; omega
  have hB : Mid a1 := by unfold Mid; omega
  have hC : Mid (-a0 + a1) := by unfold Mid; omega
  have hD : Mid (- -a0 + a1) := by unfold Mid; omega
  have hs := fun (p q : Int) (hp : p = 1 ∨ p = 2) (hq : q = 1 ∨ q = 2) => solA_span hp hq hA hB hC hD
  have hin : ∀ p q : Int, inW [rLo p (-a0), rUp q a1] := fun p q r hr => by
    simp only [List.mem_cons, List.not_mem_nil, or_false] at hr
    rcases hr with rfl | rfl
    · exact (ok_lo hA).i
    · exact (ok_up hB).i
  have hsol := fun (p q : Int) => boundE (hin p q) (by simp)
  unfold m_law04_BoundSpan
  rw [awake4]
  simp only [some_bind', Bool.not_true, ifB_false, hl, w0, w1, w2, w3]
  have g0 : gi [if o0 = true then 2 else 1, if o1 = true then 2 else 1] (0 : Int) = some (if o0 = true then (2 : Int) else 1) := rfl
  have g1 : gi [if o0 = true then 2 else 1, if o1 = true then 2 else 1] (1 : Int) = some (if o1 = true then (2 : Int) else 1) := rfl
  have g2 : gi [o0, o1] (0 : Int) = some o0 := rfl
  have g3 : gi [o0, o1] (1 : Int) = some o1 := rfl
  rw [rq_true (decide_eq_true (show (0 : Int) ≤ 0 by decide)), rq_true (decide_eq_true (show (0 : Int) < 2 by decide)), g0, rq_true (decide_eq_true (show (0 : Int) ≤ 1 by decide)), rq_true (decide_eq_true (show (1 : Int) < 2 by decide)), g1, g2, g3]
  simp only [some_bind']
  rw [hsol, hs _ _ (by cases o0; exact .inl rfl; exact .inr rfl) (by cases o1; exact .inl rfl; exact .inr rfl)]
  have hnew : m_ref01_New (a0 + a1) 2 = some (toR (newS (a0 + a1) 2)) := by
    unfold m_ref01_New
    rw [rq_true (decide_eq_true ⟨⟨by omega, by omega⟩, by decide⟩)]; rfl
  have hneg : - -a0 + a1 = a0 + a1 := by omega
  rw [hnew, hneg]
  simp only [some_bind']
  have yes : ∀ F : TRow, finalB F = false → (ifB (decide ((if finalB F = true then (([], 1) : List TRat × Int) else ((toR (newS (a0 + a1) 2)).1 :: List.replicate 7 ⟨0, 1⟩, 0)).2 = 0))
      (ifB (decide (((if finalB F = true then (([], 1) : List TRat × Int) else ((toR (newS (a0 + a1) 2)).1 :: List.replicate 7 ⟨0, 1⟩, 0)).1.length : Int) = 8)) (Option.bind (gi (if finalB F = true then (([], 1) : List TRat × Int) else ((toR (newS (a0 + a1) 2)).1 :: List.replicate 7 ⟨0, 1⟩, 0)).1 0) fun v45 => some (eqTRat v45 (toR (newS (a0 + a1) 2)).1)) (some false)) (some false)) = some true := fun F hF => by
    rw [hF, if_neg Bool.false_ne_true]
    show some (eqTRat (toR (newS (a0 + a1) 2)).1 (toR (newS (a0 + a1) 2)).1) = some true
    rw [eqR_self]
  rcases Int.lt_trichotomy a0 a1 with h | h | h
  · rw [decide_eq_true h]
    simp only [ifB_true, some_bind', Bool.not_true, ifB_false]
    refine yes _ ?_
    unfold finalB
    dsimp only
    rw [decide_eq_false (show ¬ -a0 + a1 < 0 by omega), decide_eq_false (show ¬ -a0 + a1 = 0 by omega)]
    simp
  · rw [decide_eq_false (show ¬ a0 < a1 by omega), decide_eq_true h]
    have hf : finalB (rNo (if (if o0 = true then (2 : Int) else 1) < (if o1 = true then 2 else 1) then (if o1 = true then 2 else 1) else (if o0 = true then 2 else 1)) (-a0 + a1)) = (o0 || o1) := by
      unfold finalB
      dsimp only
      rw [decide_eq_false (show ¬ -a0 + a1 < 0 by omega), decide_eq_true (show -a0 + a1 = 0 by omega)]
      cases o0 <;> cases o1 <;> rfl
    cases o0 with
    | true => rw [hf]; rfl
    | false =>
      cases o1 with
      | true => rw [hf]; rfl
      | false => exact yes _ hf
  · rw [decide_eq_false (show ¬ a0 < a1 by omega), decide_eq_false (show ¬ a0 = a1 by omega)]
    have hf : ∀ m : Int, finalB (rNo m (-a0 + a1)) = true := fun m => by
      unfold finalB
      dsimp only
      rw [decide_eq_true (show -a0 + a1 < 0 by omega)]; rfl
    rw [hf]; rfl
end Go.E
end
