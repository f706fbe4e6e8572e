import Derived.Test.YthgohaidfaldnaaMPB
/-! Auto, plain: what the fixpoint finds. -/
set_option linter.all false
set_option maxRecDepth 10000
namespace Go.E
open Go Go.Proofs Go.Eng
theorem states_auto {p : TProto} (h : p.f1.length ≤ 80) : m_auto_states p = some (if p.f1.length < 1 ∨ 16 < p.f1.length then 0 else match fst p.f1.length (dup p.f1.length (nmS p)) with | some i => (i : Int) | none => -1) := by
  unfold m_auto_states
  by_cases h1 : p.f1.length < 1
  · rw [decide_eq_true (by omega), ifB_true, if_pos (.inl h1)]
  · rw [decide_eq_false (by omega), ifB_false]
    by_cases h2 : 16 < p.f1.length
    · rw [decide_eq_true (by omega), ifB_true, if_pos (.inr h2)]
    · rw [decide_eq_false (by omega), ifB_false, if_neg (by omega)]
      rw [twice_auto h (nm := nmS p) fun i hi => by unfold m_auto_states_1 nmS; rw [gi_of hi, List.getElem?_eq_getElem hi]; rfl]
      try rfl
def finB (p : TProto) (i : Nat) : Bool := match p.f1[i]? with | some s => s.f1 | none => false
theorem finB_lt {p : TProto} {i : Nat} (h : finB p i = true) : i < p.f1.length := by
  unfold finB at h
  cases hq : p.f1[i]? with
  | none => rw [hq] at h; cases h
  | some s => exact (List.getElem?_eq_some_iff.1 hq).1
theorem finals_auto {p : TProto} (h : p.f1.length ≤ 16) : ∃ s : Nat, m_auto_finals p = some (s : Int) ∧ s < 4294967296 ∧ ∀ i, s.testBit i = finB p i := by
  unfold m_auto_finals
  have key : ∃ r, loopO (m_auto_finals_L0 p) (0, 0) = some r ∧ ∃ s : Nat, r = (s : Int) ∧ s < 4294967296 ∧ ∀ j, s.testBit j = finB p j := by
    refine loopO_count p.f1.length (fun i st => st.2 = (i : Int) ∧ ∃ s : Nat, st.1 = (s : Int) ∧ s < 4294967296 ∧ ∀ j, s.testBit j = (decide (j < i) && finB p j)) _ ?_ ?_ ⟨rfl, 0, rfl, by decide, by simp⟩
    · rintro i ⟨v, w⟩ hi ⟨rfl, s, rfl, hs, hb⟩
      left
      unfold m_auto_finals_L0
      simp only [lt_cast, decide_eq_true hi, ifB_true, gi_of hi, some_bind']
      rw [wrap_succ (by omega), rq_true (decide_eq_true (by omega))]
      have hf : finB p i = (p.f1[i]).f1 := by unfold finB; rw [List.getElem?_eq_getElem hi]
      cases hq : (p.f1[i]).f1 with
      | true =>
        refine ⟨_, rfl, rfl, s ||| 2 ^ i, or_bit hs (by omega), or_lt hs (by omega), fun j => ?_⟩
        rw [Nat.testBit_or, hb, Nat.testBit_two_pow]
        by_cases e : i = j
        · subst e
          rw [hf, hq]
          simp
        · rw [decide_eq_false e, Bool.or_false]
          by_cases e2 : j < i
          · rw [decide_eq_true e2, decide_eq_true (by omega)]
          · rw [decide_eq_false e2, decide_eq_false (by omega)]
      | false =>
        refine ⟨_, rfl, rfl, s, rfl, hs, fun j => ?_⟩
        rw [hb]
        by_cases e : i = j
        · subst e
          rw [hf, hq]
          simp
        · by_cases e2 : j < i
          · rw [decide_eq_true e2, decide_eq_true (by omega)]
          · rw [decide_eq_false e2, decide_eq_false (by omega)]
    · rintro ⟨v, w⟩ ⟨rfl, s, rfl, hs, hb⟩
      unfold m_auto_finals_L0
      simp only [lt_cast, Nat.lt_irrefl, decide_false, ifB_false]
      refine ⟨_, rfl, s, rfl, hs, fun j => ?_⟩
      rw [hb]
      by_cases e : j < p.f1.length
      · rw [decide_eq_true e, Bool.true_and]
      · rw [decide_eq_false e, Bool.false_and]
        cases hq : finB p j with
        | false => rfl
        | true => exact absurd (finB_lt hq) e
  obtain ⟨r, hr, s, rfl, h1, h2⟩ := key
  exact ⟨s, by rw [hr]; rfl, h1, h2⟩
/-- A move that stands so, with an outcome that stands so. -/
def Edge (p : TProto) (k l i j : Nat) : Prop := ∃ m o, p.f2[k]? = some m ∧ m.f2[l]? = some o ∧ m.f1 = (i : Int) ∧ o.f1 = (j : Int)
inductive Reach (p : TProto) : Nat → Prop
  | fin {i : Nat} : finB p i = true → Reach p i
  | step {i j k l : Nat} : Edge p k l i j → Reach p j → Reach p i
/-- Every move fits. -/
def Fits (p : TProto) : Prop := ∀ (k : Nat) (m : TMove), p.f2[k]? = some m → (∃ i : Nat, m.f1 = (i : Int) ∧ i < p.f1.length) ∧ ∀ (l : Nat) (o : TOut), m.f2[l]? = some o → ∃ j : Nat, o.f1 = (j : Int) ∧ j < p.f1.length
def Ok (p : TProto) (s k l : Nat) : Prop := ∀ i j, Edge p k l i j → s.testBit j = true → s.testBit i = true
structure EI (p : TProto) (s s' : Nat) (fl : Bool) (D : Nat → Nat → Prop) : Prop where
  lt : s' < 4294967296
  le : s ≤ s'
  sub : ∀ i, s.testBit i = true → s'.testBit i = true
  sound : ∀ i, s'.testBit i = true → Reach p i
  no : fl = false → s' = s ∧ ∀ k l, D k l → Ok p s' k l
  yes : fl = true → s < s'
theorem ends_L2 {p : TProto} (hf : Fits p) (hn : p.f1.length ≤ 16) {k : Nat} {m : TMove} (hm : p.f2[k]? = some m) (ho : m.f2.length ≤ 80) {s s' : Nat} {fl : Bool} (h : EI p s s' fl fun k' _ => k' < k) :
    ∃ r, loopO (m_auto_ends_L2 m) ((s' : Int), fl, 0) = some r ∧ ∃ t : Nat, r.1 = (t : Int) ∧ EI p s t r.2 fun k' _ => k' < k + 1 := by
  refine loopO_count m.f2.length (fun l st => st.2.2 = (l : Int) ∧ ∃ t : Nat, st.1 = (t : Int) ∧ EI p s t st.2.1 fun k' l' => k' < k ∨ (k' = k ∧ l' < l)) _ ?_ ?_ ⟨rfl, s', rfl, ⟨h.lt, h.le, h.sub, h.sound, fun e => ⟨(h.no e).1, fun k' l' hd => (h.no e).2 k' l' (by rcases hd with hd | hd <;> omega)⟩, h.yes⟩⟩
  · rintro l ⟨v, f, w⟩ hl ⟨rfl, t, rfl, hi⟩
    left
    obtain ⟨⟨a, ha, han⟩, hto⟩ := hf k m hm
    obtain ⟨b, hb, hbn⟩ := hto l m.f2[l] (List.getElem?_eq_getElem hl)
    have hedge : Edge p k l a b := ⟨m, m.f2[l], hm, List.getElem?_eq_getElem hl, ha, hb⟩
    have huniq : ∀ i j, Edge p k l i j → i = a ∧ j = b := by
      rintro i j ⟨m', o', h1, h2, h3, h4⟩
      rw [hm] at h1; cases h1
      rw [List.getElem?_eq_getElem hl] at h2; cases h2
      rw [ha] at h3; rw [hb] at h4
      omega
    unfold m_auto_ends_L2
    simp only [lt_cast, decide_eq_true hl, ifB_true, gi_of hl, some_bind', hb, ha]
    rw [wrap_succ (by omega), rq_true (decide_eq_true (show (0 : Int) ≤ (b : Int) by omega)), rq_true (decide_eq_true (show (0 : Int) ≤ (a : Int) by omega)), and_bit hi.lt (by omega), and_bit hi.lt (by omega)]
    simp only [some_bind']
    cases hbb : t.testBit b with
    | false =>
      refine ⟨_, rfl, rfl, t, rfl, hi.lt, hi.le, hi.sub, hi.sound, fun e => ⟨(hi.no e).1, fun k' l' hd => ?_⟩, hi.yes⟩
      by_cases e2 : k' = k ∧ l' = l
      · obtain ⟨rfl, rfl⟩ := e2
        intro i j he hj
        obtain ⟨rfl, rfl⟩ := huniq i j he
        rw [hbb] at hj; cases hj
      · exact (hi.no e).2 k' l' (by omega)
    | true =>
      cases haa : t.testBit a with
      | true =>
        refine ⟨_, rfl, rfl, t, rfl, hi.lt, hi.le, hi.sub, hi.sound, fun e => ⟨(hi.no e).1, fun k' l' hd => ?_⟩, hi.yes⟩
        by_cases e2 : k' = k ∧ l' = l
        · obtain ⟨rfl, rfl⟩ := e2
          intro i j he hj
          obtain ⟨rfl, rfl⟩ := huniq i j he
          exact haa
        · exact (hi.no e).2 k' l' (by omega)
      | false =>
        have hlt : t < t ||| 2 ^ a := by
          have h1 : t ≤ t ||| 2 ^ a := Nat.left_le_or
          have h2 : t ≠ t ||| 2 ^ a := fun e => by
            have := congrArg (fun x => x.testBit a) e
            simp only [Nat.testBit_or, Nat.testBit_two_pow, haa] at this
            simp at this
          omega
        have hbit : ∀ i, (t ||| 2 ^ a).testBit i = true → t.testBit i = true ∨ i = a := fun i h => by
          rw [Nat.testBit_or, Nat.testBit_two_pow] at h
          by_cases e : a = i
          · exact .inr e.symm
          · rw [decide_eq_false e, Bool.or_false] at h; exact .inl h
        refine ⟨_, rfl, rfl, t ||| 2 ^ a, or_bit hi.lt (by omega), or_lt hi.lt (by omega), by have := hi.le; omega, fun i h => by rw [Nat.testBit_or, hi.sub i h]; rfl, fun i h => ?_, fun e => (by cases e), fun _ => by have := hi.le; omega⟩
        rcases hbit i h with h | rfl
        · exact hi.sound i h
        · exact .step hedge (hi.sound b hbb)
  · rintro ⟨v, f, w⟩ ⟨rfl, t, rfl, hi⟩
    unfold m_auto_ends_L2
    simp only [lt_cast, Nat.lt_irrefl, decide_false, ifB_false]
    refine ⟨_, rfl, t, rfl, hi.lt, hi.le, hi.sub, hi.sound, fun e => ⟨(hi.no e).1, fun k' l' hd => ?_⟩, hi.yes⟩
    by_cases e2 : k' < k ∨ (k' = k ∧ l' < m.f2.length)
    · exact (hi.no e).2 k' l' e2
    · have e3 : k' = k := by omega
      subst e3
      rintro i j ⟨m', o', h1, h2, _⟩
      rw [hm] at h1; cases h1
      have := (List.getElem?_eq_some_iff.1 h2).1
      omega
end Go.E
