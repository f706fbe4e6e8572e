import Derived.Test.YthgohaidfaldnaaMPM
/-! Auto, plain: the reference's Step, whole. -/
set_option linter.all false
set_option maxRecDepth 10000
namespace Go.E
open Go Go.Proofs Go.Eng
theorem add_bit {s n : Nat} (hs : s < 4294967296) (h : n < 32) (hb : s.testBit n = false) : IntKind.wrap .u32 ((s : Int) + shlI .u32 1 (n : Int)) = ((s ||| 2 ^ n : Nat) : Int) := by
  have h2 : 2 ^ n < 2 ^ 32 := Nat.pow_lt_pow_right (by decide) h
  have e : BitVec.ofNat 32 s + BitVec.ofNat 32 (2 ^ n) = BitVec.ofNat 32 s ||| BitVec.ofNat 32 (2 ^ n) := by
    apply BitVec.add_eq_or_of_and_eq_zero
    apply BitVec.eq_of_getLsbD_eq
    intro i hi
    rw [BitVec.getLsbD_and, BitVec.getLsbD_ofNat, BitVec.getLsbD_ofNat, Nat.testBit_two_pow]
    by_cases e : n = i
    · subst e; simp [hb]
    · simp [e]
  have e2 := congrArg BitVec.toNat e
  rw [BitVec.toNat_add, BitVec.toNat_or, BitVec.toNat_ofNat, BitVec.toNat_ofNat, Nat.mod_eq_of_lt (show s < 2 ^ 32 by omega), Nat.mod_eq_of_lt h2] at e2
  rw [shl_bit h, IntKind.wrap_u32, ← e2]
  omega
theorem bit_ref {s n : Nat} (hs : s < 4294967296) (h : n < 32) : m_ref09_Bit (s : Int) (n : Int) = some (s.testBit n) := by
  unfold m_ref09_Bit
  rw [rq_true (decide_eq_true (by omega)), shr_bit1 hs h]
  rfl
theorem refstep_L1 {p : TProto} (hf : Fits p) (ho : Once p) (hn : p.f1.length ≤ 16) (sm : Sm p) {s : Nat} (hs : s < 4294967296) {i : Nat} (hi : i < p.f1.length) (op oc : ByteArray) {t : Nat} (ht : t < 4294967296) :
    ∃ r : Nat, loopO (m_ref09_Step_L1 (outsOf p (i : Int) op) (s : Int) (i : Int) oc) ((t : Int), 0) = some (r : Int) ∧ r < 4294967296 ∧ ∀ j, r.testBit j = true ↔ t.testBit j = true ∨ (s.testBit i = true ∧ ∃ (l : Nat) (o : TOut), (outsOf p (i : Int) op)[l]? = some o ∧ o.f0 = oc ∧ o.f1 = (j : Int)) := by
  have hto : ∀ (l : Nat) (o : TOut), (outsOf p (i : Int) op)[l]? = some o → ∃ b : Nat, o.f1 = (b : Int) ∧ b < p.f1.length := fun l o h => by
    obtain ⟨k, m, hm, _, _, h2⟩ := (outsOf_get ho).1 h
    exact (hf k m hm).2 l o h2
  have hlen : (outsOf p (i : Int) op).length ≤ 80 := by
    unfold outsOf
    cases hq : fst p.f2.length (outK p (i : Int) op) with
    | none => simp
    | some k =>
      have h1 := (fst_some hq).1
      simp only [List.getElem?_eq_getElem h1]
      exact sm.c k h1
  generalize outsOf p (i : Int) op = L at hto hlen ⊢
  have key : ∃ r, loopO (m_ref09_Step_L1 L (s : Int) (i : Int) oc) ((t : Int), 0) = some r ∧ ∃ q : Nat, r = (q : Int) ∧ q < 4294967296 ∧ ∀ j, q.testBit j = true ↔ t.testBit j = true ∨ (s.testBit i = true ∧ ∃ (l : Nat) (o : TOut), L[l]? = some o ∧ o.f0 = oc ∧ o.f1 = (j : Int)) := by
    refine loopO_count L.length (fun n st => st.2 = (n : Int) ∧ ∃ q : Nat, st.1 = (q : Int) ∧ q < 4294967296 ∧ ∀ j, q.testBit j = true ↔ t.testBit j = true ∨ (s.testBit i = true ∧ ∃ (l : Nat) (o : TOut), l < n ∧ L[l]? = some o ∧ o.f0 = oc ∧ o.f1 = (j : Int))) _ ?_ ?_
      ⟨rfl, t, rfl, ht, fun j => ⟨.inl, fun h => h.elim id fun ⟨_, l, o, h, _⟩ => absurd h (Nat.not_lt_zero _)⟩⟩
    · rintro n ⟨v, w⟩ hk ⟨rfl, q, rfl, hq, hb⟩
      left
      obtain ⟨b, hbb, hbn⟩ := hto n L[n] (List.getElem?_eq_getElem hk)
      unfold m_ref09_Step_L1
      simp only [lt_cast, decide_eq_true hk, ifB_true, gi_of hk, some_bind', hbb, bit_ref hs (show i < 32 by omega), bit_ref hq (show b < 32 by omega)]
      rw [wrap_succ (by omega), rq_true (decide_eq_true (show (0 : Int) ≤ (b : Int) by omega))]
      have hsame : ∀ q' : Nat, (∀ j, q'.testBit j = true ↔ q.testBit j = true ∨ (s.testBit i = true ∧ (L[n]).f0 = oc ∧ j = b)) → ∀ j, q'.testBit j = true ↔ t.testBit j = true ∨ (s.testBit i = true ∧ ∃ (l : Nat) (o : TOut), l < n + 1 ∧ L[l]? = some o ∧ o.f0 = oc ∧ o.f1 = (j : Int)) := by
        intro q' h' j
        rw [h', hb]
        constructor
        · rintro ((h | ⟨g, l, o, h1, h2, h3, h4⟩) | ⟨g, h1, rfl⟩)
          · exact .inl h
          · exact .inr ⟨g, l, o, by omega, h2, h3, h4⟩
          · exact .inr ⟨g, n, _, by omega, List.getElem?_eq_getElem hk, h1, hbb⟩
        · rintro (h | ⟨g, l, o, h1, h2, h3, h4⟩)
          · exact .inl (.inl h)
          · by_cases e : l = n
            · subst e
              rw [List.getElem?_eq_getElem hk] at h2
              cases h2
              rw [hbb] at h4
              exact .inr ⟨g, h3, by omega⟩
            · exact .inl (.inr ⟨g, l, o, by omega, h2, h3, h4⟩)
      cases hsi : s.testBit i with
      | false =>
        refine ⟨_, rfl, rfl, q, rfl, hq, ?_⟩
        rw [hsi] at hsame
        exact hsame q fun j => ⟨.inl, fun h => h.elim id fun h => by cases h.1⟩
      | true =>
        rw [hsi] at hsame
        by_cases e : (L[n]).f0 = oc
        · rw [decide_eq_true e]
          cases hqb : q.testBit b with
          | true => exact ⟨_, rfl, rfl, q, rfl, hq, hsame q fun j => ⟨.inl, fun h => h.elim id fun h => by rw [h.2.2]; exact hqb⟩⟩
          | false =>
            refine ⟨_, rfl, rfl, q ||| 2 ^ b, add_bit hq (by omega) hqb, or_lt hq (by omega), hsame _ fun j => ?_⟩
            rw [bit_or]
            exact ⟨fun h => h.elim .inl fun h => .inr ⟨rfl, e, h⟩, fun h => h.elim .inl fun h => .inr h.2.2⟩
        · rw [decide_eq_false e]
          exact ⟨_, rfl, rfl, q, rfl, hq, hsame q fun j => ⟨.inl, fun h => h.elim id fun h => absurd h.2.1 e⟩⟩
    · rintro ⟨v, w⟩ ⟨rfl, q, rfl, hq, hb⟩
      unfold m_ref09_Step_L1
      simp only [lt_cast, Nat.lt_irrefl, decide_false, ifB_false]
      refine ⟨_, rfl, q, rfl, hq, fun j => ?_⟩
      rw [hb]
      constructor
      · rintro (h | ⟨g, l, o, h1, h2, h3⟩)
        · exact .inl h
        · exact .inr ⟨g, l, o, h2, h3⟩
      · rintro (h | ⟨g, l, o, h2, h3⟩)
        · exact .inl h
        · exact .inr ⟨g, l, o, (List.getElem?_eq_some_iff.1 h2).1, h2, h3⟩
  obtain ⟨_, hr, q, rfl, h1, h2⟩ := key
  exact ⟨q, hr, h1, h2⟩
end Go.E
