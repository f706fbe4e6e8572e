import Derived.Test.YthgohaidfaldnaaMPJ
/-! Auto, plain: Step. -/
set_option linter.all false
set_option maxRecDepth 10000
namespace Go.E
open Go Go.Proofs Go.Eng
/-- What an outcome of an operation leads to. -/
def EdgeN (p : TProto) (op oc : ByteArray) (k l i j : Nat) : Prop := ∃ m o, p.f2[k]? = some m ∧ m.f2[l]? = some o ∧ m.f0 = op ∧ o.f0 = oc ∧ m.f1 = (i : Int) ∧ o.f1 = (j : Int)
def StepTo (p : TProto) (s : Nat) (op oc : ByteArray) (j : Nat) : Prop := ∃ k l i, EdgeN p op oc k l i j ∧ s.testBit i = true
theorem bit_or {t a i : Nat} : (t ||| 2 ^ a).testBit i = true ↔ t.testBit i = true ∨ i = a := by
  rw [Nat.testBit_or, Nat.testBit_two_pow]
  by_cases e : a = i
  · simp [e]
  · rw [decide_eq_false e, Bool.or_false]
    exact ⟨.inl, fun h => h.elim id fun h => absurd h.symm e⟩
theorem shr_bit {s n : Nat} (hs : s < 4294967296) (h : n < 32) : decide (andI .u32 (shrI .u32 (s : Int) (n : Int)) 1 = 0) = !s.testBit n := by
  rw [and_bit hs h]
  cases s.testBit n <;> rfl
theorem shr_bit1 {s n : Nat} (hs : s < 4294967296) (h : n < 32) : decide (andI .u32 (shrI .u32 (s : Int) (n : Int)) 1 = 1) = s.testBit n := by
  rw [and_bit hs h]
  cases s.testBit n <;> rfl
theorem step_L1 {p : TProto} (hf : Fits p) (hn : p.f1.length ≤ 16) {k : Nat} {m : TMove} (hm : p.f2[k]? = some m) (ho : m.f2.length ≤ 80) (oc : ByteArray) {t : Nat} (ht : t < 4294967296) :
    ∃ r : Nat, loopO (m_auto_Auto_Step_L1 m oc) ((t : Int), 0) = some (r : Int) ∧ r < 4294967296 ∧ ∀ j, r.testBit j = true ↔ t.testBit j = true ∨ ∃ (l : Nat) (o : TOut), m.f2[l]? = some o ∧ o.f0 = oc ∧ o.f1 = (j : Int) := by
  have key : ∃ r, loopO (m_auto_Auto_Step_L1 m oc) ((t : Int), 0) = some r ∧ ∃ q : Nat, r = (q : Int) ∧ q < 4294967296 ∧ ∀ j, q.testBit j = true ↔ t.testBit j = true ∨ ∃ (l : Nat) (o : TOut), m.f2[l]? = some o ∧ o.f0 = oc ∧ o.f1 = (j : Int) := by
    refine loopO_count m.f2.length (fun i st => st.2 = (i : Int) ∧ ∃ q : Nat, st.1 = (q : Int) ∧ q < 4294967296 ∧ ∀ j, q.testBit j = true ↔ t.testBit j = true ∨ ∃ (l : Nat) (o : TOut), l < i ∧ m.f2[l]? = some o ∧ o.f0 = oc ∧ o.f1 = (j : Int)) _ ?_ ?_ ⟨rfl, t, rfl, ht, fun j => ⟨.inl, fun h => h.elim id fun ⟨l, o, h, _⟩ => absurd h (Nat.not_lt_zero _)⟩⟩
    · rintro i ⟨v, w⟩ hi ⟨rfl, q, rfl, hq, hb⟩
      left
      obtain ⟨b, hbb, hbn⟩ := (hf k m hm).2 i m.f2[i] (List.getElem?_eq_getElem hi)
      unfold m_auto_Auto_Step_L1
      simp only [lt_cast, decide_eq_true hi, ifB_true, gi_of hi, some_bind', hbb]
      rw [wrap_succ (by omega)]
      by_cases e : (m.f2[i]).f0 = oc
      · rw [decide_eq_true e]
        simp only [ifB_true]
        rw [rq_true (decide_eq_true (by omega))]
        refine ⟨_, rfl, rfl, q ||| 2 ^ b, or_bit hq (by omega), or_lt hq (by omega), fun j => ?_⟩
        rw [bit_or, hb]
        constructor
        · rintro ((h | ⟨l, o, h1, h2, h3, h4⟩) | rfl)
          · exact .inl h
          · exact .inr ⟨l, o, by omega, h2, h3, h4⟩
          · exact .inr ⟨i, _, by omega, List.getElem?_eq_getElem hi, e, hbb⟩
        · rintro (h | ⟨l, o, h1, h2, h3, h4⟩)
          · exact .inl (.inl h)
          · by_cases e2 : l = i
            · subst e2
              rw [List.getElem?_eq_getElem hi] at h2
              cases h2
              rw [hbb] at h4
              right; omega
            · exact .inl (.inr ⟨l, o, by omega, h2, h3, h4⟩)
      · rw [decide_eq_false e]
        refine ⟨_, rfl, rfl, q, rfl, hq, fun j => ?_⟩
        rw [hb]
        constructor
        · rintro (h | ⟨l, o, h1, h2, h3, h4⟩)
          · exact .inl h
          · exact .inr ⟨l, o, by omega, h2, h3, h4⟩
        · rintro (h | ⟨l, o, h1, h2, h3, h4⟩)
          · exact .inl h
          · by_cases e2 : l = i
            · subst e2
              rw [List.getElem?_eq_getElem hi] at h2
              cases h2
              exact absurd h3 e
            · exact .inr ⟨l, o, by omega, h2, h3, h4⟩
    · rintro ⟨v, w⟩ ⟨rfl, q, rfl, hq, hb⟩
      unfold m_auto_Auto_Step_L1
      simp only [lt_cast, Nat.lt_irrefl, decide_false, ifB_false]
      refine ⟨_, rfl, q, rfl, hq, fun j => ?_⟩
      rw [hb]
      constructor
      · rintro (h | ⟨l, o, h1, h2, h3, h4⟩)
        · exact .inl h
        · exact .inr ⟨l, o, h2, h3, h4⟩
      · rintro (h | ⟨l, o, h2, h3, h4⟩)
        · exact .inl h
        · exact .inr ⟨l, o, (List.getElem?_eq_some_iff.1 h2).1, h2, h3, h4⟩
  obtain ⟨_, hr, q, rfl, h1, h2⟩ := key
  exact ⟨q, hr, h1, h2⟩
end Go.E
