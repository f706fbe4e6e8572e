import Derived.Test.YthgohaidfaldnaaMQA
/-! Plain laws. -/
set_option linter.all false
set_option maxRecDepth 10000
namespace Go.E
open Go Go.Proofs Go.Eng
/-- What an outcome of an operation leads to. -/
def EdgeN (p : TProto) (op oc : ByteArray) (k l i j : Nat) : Prop := ∃ m o, p.f2[k]? = some m ∧ m.f2[l]? = some o ∧ m.f0 = op ∧ o.f0 = oc ∧ m.f1 = (i : Int) ∧ o.f1 = (j : Int)
def StepTo (p : TProto) (s : Nat) (op oc : ByteArray) (j : Nat) : Prop := ∃ k l i, EdgeN p op oc k l i j ∧ s.testBit i = true
theorem bit_or {t a i : Nat} : (t ||| 2 ^ a).testBit i = true ↔ t.testBit i = true ∨ i = a := by
  rw [Nat.testBit_or, Nat.testBit_two_pow]
  by_cases e : a = i
  · simp [e]
  · rw [decide_eq_false e, Bool.or_false]
    exact ⟨.inl, fun h => h.elim id fun h => absurd h.symm e⟩
theorem shr_bit {s n : Nat} (hs : s < 4294967296) (h : n < 32) : decide (andI .u32 (shrI .u32 (s : Int) (n : Int)) 1 = 0) = !s.testBit n := by
  rw [and_bit hs h]
  cases s.testBit n <;> rfl
theorem shr_bit1 {s n : Nat} (hs : s < 4294967296) (h : n < 32) : decide (andI .u32 (shrI .u32 (s : Int) (n : Int)) 1 = 1) = s.testBit n := by
  rw [and_bit hs h]
  cases s.testBit n <;> rfl
theorem step_L1 {p : TProto} (hf : Fits p) (hn : p.f1.length ≤ 16) {k : Nat} {m : TMove} (hm : p.f2[k]? = some m) (ho : m.f2.length ≤ 80) (oc : ByteArray) {t : Nat} (ht : t < 4294967296) :
    ∃ r : Nat, loopO (m_auto_Auto_Step_L1 m oc) ((t : Int), 0) = some (r : Int) ∧ r < 4294967296 ∧ ∀ j, r.testBit j = true ↔ t.testBit j = true ∨ ∃ (l : Nat) (o : TOut), m.f2[l]? = some o ∧ o.f0 = oc ∧ o.f1 = (j : Int) := by
  have key : ∃ r, loopO (m_auto_Auto_Step_L1 m oc) ((t : Int), 0) = some r ∧ ∃ q : Nat, r = (q : Int) ∧ q < 4294967296 ∧ ∀ j, q.testBit j = true ↔ t.testBit j = true ∨ ∃ (l : Nat) (o : TOut), m.f2[l]? = some o ∧ o.f0 = oc ∧ o.f1 = (j : Int) := by
    refine loopO_count m.f2.length (fun i st => st.2 = (i : Int) ∧ ∃ q : Nat, st.1 = (q : Int) ∧ q < 4294967296 ∧ ∀ j, q.testBit j = true ↔ t.testBit j = true ∨ ∃ (l : Nat) (o : TOut), l < i ∧ m.f2[l]? = some o ∧ o.f0 = oc ∧ o.f1 = (j : Int)) _ ?_ ?_ ⟨rfl, t, rfl, ht, fun j => ⟨.inl, fun h => h.elim id fun ⟨l, o, h, _⟩ => absurd h (Nat.not_lt_zero _)⟩⟩
    · rintro i ⟨v, w⟩ hi ⟨rfl, q, rfl, hq, hb⟩
      left
      obtain ⟨b, hbb, hbn⟩ := (hf k m hm).2 i m.f2[i] (List.getElem?_eq_getElem hi)
      unfold m_auto_Auto_Step_L1
      simp only [lt_cast, decide_eq_true hi, ifB_true, gi_of hi, some_bind', hbb]
      rw [wrap_succ (by omega)]
      by_cases e : (m.f2[i]).f0 = oc
      · rw [decide_eq_true e]
        simp only [ifB_true]
        rw [rq_true (decide_eq_true (by omega))]
        refine ⟨_, rfl, rfl, q ||| 2 ^ b, or_bit hq (by omega), or_lt hq (by omega), fun j => ?_⟩
        rw [bit_or, hb]
        constructor
        · rintro ((h | ⟨l, o, h1, h2, h3, h4⟩) | rfl)
          · exact .inl h
          · exact .inr ⟨l, o, by omega, h2, h3, h4⟩
          · exact .inr ⟨i, _, by omega, List.getElem?_eq_getElem hi, e, hbb⟩
        · rintro (h | ⟨l, o, h1, h2, h3, h4⟩)
          · exact .inl (.inl h)
          · by_cases e2 : l = i
            · subst e2
              rw [List.getElem?_eq_getElem hi] at h2
              cases h2
              rw [hbb] at h4
              right; omega
            · exact .inl (.inr ⟨l, o, by omega, h2, h3, h4⟩)
      · rw [decide_eq_false e]
        refine ⟨_, rfl, rfl, q, rfl, hq, fun j => ?_⟩
        rw [hb]
        constructor
        · rintro (h | ⟨l, o, h1, h2, h3, h4⟩)
          · exact .inl h
          · exact .inr ⟨l, o, by omega, h2, h3, h4⟩
        · rintro (h | ⟨l, o, h1, h2, h3, h4⟩)
          · exact .inl h
          · by_cases e2 : l = i
            · subst e2
              rw [List.getElem?_eq_getElem hi] at h2
              cases h2
              exact absurd h3 e
            · exact .inr ⟨l, o, by omega, h2, h3, h4⟩
    · rintro ⟨v, w⟩ ⟨rfl, q, rfl, hq, hb⟩
      unfold m_auto_Auto_Step_L1
      simp only [lt_cast, Nat.lt_irrefl, decide_false, ifB_false]
      refine ⟨_, rfl, q, rfl, hq, fun j => ?_⟩
      rw [hb]
      constructor
      · rintro (h | ⟨l, o, h1, h2, h3, h4⟩)
        · exact .inl h
        · exact .inr ⟨l, o, h2, h3, h4⟩
      · rintro (h | ⟨l, o, h2, h3, h4⟩)
        · exact .inl h
        · exact .inr ⟨l, o, (List.getElem?_eq_some_iff.1 h2).1, h2, h3, h4⟩
  obtain ⟨_, hr, q, rfl, h1, h2⟩ := key
  exact ⟨q, hr, h1, h2⟩
theorem step_auto {p : TProto} (hf : Fits p) (hn : p.f1.length ≤ 16) (sm : Sm p) {s : Nat} (hs : s < 4294967296) (op oc : ByteArray) :
    ∃ t : Nat, m_auto_Auto_Step (some ⟨p⟩) (s : Int) op oc = some (t : Int) ∧ t < 4294967296 ∧ ∀ j, t.testBit j = true ↔ StepTo p s op oc j := by
  have hb := sm.b
  have key : ∃ r, loopO (m_auto_Auto_Step_L0 (⟨p⟩ : TAuto_Auto) op (s : Int) oc) (0, 0) = some r ∧ ∃ t : Nat, r = (t : Int) ∧ t < 4294967296 ∧ ∀ j, t.testBit j = true ↔ StepTo p s op oc j := by
    refine loopO_count p.f2.length (fun n st => st.2 = (n : Int) ∧ ∃ q : Nat, st.1 = (q : Int) ∧ q < 4294967296 ∧ ∀ j, q.testBit j = true ↔ ∃ k l i, k < n ∧ EdgeN p op oc k l i j ∧ s.testBit i = true) _ ?_ ?_
      ⟨rfl, 0, rfl, by decide, fun j => ⟨fun h => by simp at h, fun ⟨k, l, i, h, _⟩ => absurd h (Nat.not_lt_zero _)⟩⟩
    · rintro n ⟨v, w⟩ hk ⟨rfl, q, rfl, hq, hbit⟩
      left
      have hm := List.getElem?_eq_getElem hk
      obtain ⟨⟨a, ha, han⟩, _⟩ := hf n p.f2[n] hm
      unfold m_auto_Auto_Step_L0
      simp only [lt_cast, decide_eq_true hk, ifB_true, gi_of hk, some_bind', ha]
      rw [wrap_succ (by omega), rq_true (decide_eq_true (show (0 : Int) ≤ (a : Int) by omega)), shr_bit hs (by omega)]
      simp only [some_bind']
      by_cases e : (p.f2[n]).f0 = op ∧ s.testBit a = true
      · obtain ⟨e1, e2⟩ := e
        rw [decide_eq_true e1, e2]
        simp only [Bool.not_true, ifB_false, some_bind']
        obtain ⟨r, hr, hrl, hrb⟩ := step_L1 hf hn hm (sm.c n hk) oc hq
        rw [hr]
        refine ⟨_, rfl, rfl, r, rfl, hrl, fun j => ?_⟩
        rw [hrb, hbit]
        constructor
        · rintro (⟨k, l, i, h1, h2, h3⟩ | ⟨l, o, h1, h2, h3⟩)
          · exact ⟨k, l, i, by omega, h2, h3⟩
          · exact ⟨n, l, a, by omega, ⟨_, o, hm, h1, e1, h2, ha, h3⟩, e2⟩
        · rintro ⟨k, l, i, h1, h2, h3⟩
          by_cases ek : k = n
          · subst ek
            obtain ⟨m', o, g1, g2, g3, g4, g5, g6⟩ := h2
            rw [hm] at g1; cases g1
            exact .inr ⟨l, o, g2, g4, g6⟩
          · exact .inl ⟨k, l, i, by omega, h2, h3⟩
      · have hskip : (ifB (!decide ((p.f2[n]).f0 = op)) (some true) (some (!s.testBit a)) : Option Bool) = some true := by
          by_cases e1 : (p.f2[n]).f0 = op
          · rw [decide_eq_true e1]
            have : s.testBit a = false := by
              cases h : s.testBit a with
              | false => rfl
              | true => exact absurd ⟨e1, h⟩ e
            rw [this]; rfl
          · rw [decide_eq_false e1]; rfl
        rw [hskip]
        refine ⟨_, rfl, rfl, q, rfl, hq, fun j => ?_⟩
        rw [hbit]
        constructor
        · rintro ⟨k, l, i, h1, h2, h3⟩
          exact ⟨k, l, i, by omega, h2, h3⟩
        · rintro ⟨k, l, i, h1, h2, h3⟩
          by_cases ek : k = n
          · subst ek
            obtain ⟨m', o, g1, g2, g3, g4, g5, g6⟩ := h2
            rw [hm] at g1; cases g1
            rw [ha] at g5
            have : i = a := by omega
            subst this
            exact absurd ⟨g3, h3⟩ e
          · exact ⟨k, l, i, by omega, h2, h3⟩
    · rintro ⟨v, w⟩ ⟨rfl, q, rfl, hq, hbit⟩
      unfold m_auto_Auto_Step_L0
      simp only [lt_cast, Nat.lt_irrefl, decide_false, ifB_false]
      refine ⟨_, rfl, q, rfl, hq, fun j => ?_⟩
      rw [hbit]
      constructor
      · rintro ⟨k, l, i, h1, h2, h3⟩
        exact ⟨k, l, i, h2, h3⟩
      · rintro ⟨k, l, i, h2, h3⟩
        obtain ⟨m', o, g1, _⟩ := id h2
        exact ⟨k, l, i, (List.getElem?_eq_some_iff.1 g1).1, h2, h3⟩
  obtain ⟨_, hr, t, rfl, h1, h2⟩ := key
  refine ⟨t, ?_, h1, h2⟩
  unfold m_auto_Auto_Step
  simp only [some_bind', hr]
def outK (p : TProto) (i : Int) (op : ByteArray) (k : Nat) : Bool := match p.f2[k]? with | some m => decide (m.f1 = i) && decide (m.f0 = op) | none => false
def outsOf (p : TProto) (i : Int) (op : ByteArray) : List TOut := match fst p.f2.length (outK p i op) with | some k => (match p.f2[k]? with | some m => m.f2 | none => []) | none => []
theorem outs_ref {p : TProto} (sm : Sm p) (i : Int) (op : ByteArray) : m_ref09_Outs p i op = some (outsOf p i op) := by
  have hb := sm.b
  unfold m_ref09_Outs
  rw [show ((0 : Int)) = ((0 : Nat) : Int) from rfl, loopO_first (b := m_ref09_Outs_L0 p i op) (fun i : Nat => (i : Int)) p.f2.length (outK p i op) (fun k => match p.f2[k]? with | some m => m.f2 | none => []) () ?_ ?_]
  · unfold outsOf
    cases fst p.f2.length (outK p i op) <;> rfl
  · intro k hk _
    unfold m_ref09_Outs_L0 outK
    simp only [lt_cast, decide_eq_true hk, ifB_true, gi_of hk, some_bind', List.getElem?_eq_getElem hk]
    rw [wrap_succ (by omega)]
    cases decide ((p.f2[k]).f1 = i) <;> cases decide ((p.f2[k]).f0 = op) <;> rfl
  · intro _
    unfold m_ref09_Outs_L0
    simp only [lt_cast, Nat.lt_irrefl, decide_false, ifB_false]
/-- No move twice. -/
def Once (p : TProto) : Prop := ∀ (k j : Nat) (m m' : TMove), p.f2[k]? = some m → p.f2[j]? = some m' → m.f0 = m'.f0 → m.f1 = m'.f1 → k = j
theorem once_of {p : TProto} (h : fst p.f2.length (againK p) = none) : Once p := by
  rw [fst_none] at h
  have main : ∀ (k j : Nat) (m m' : TMove), k < j → p.f2[k]? = some m → p.f2[j]? = some m' → m.f0 = m'.f0 → m.f1 = m'.f1 → False := by
    intro k j m m' hkj hk hj e0 e1
    have h1 := h j (List.getElem?_eq_some_iff.1 hj).1
    unfold againK at h1
    rw [hj] at h1
    have h1 : againM p m' j = false := h1
    unfold againM at h1
    rw [Bool.or_eq_false_iff] at h1
    have h2 : fst j (sameM p m') = none := by
      cases hq : fst j (sameM p m') with
      | none => rfl
      | some x => rw [hq] at h1; cases h1.1
    rw [fst_none] at h2
    have h3 := h2 k hkj
    unfold sameM at h3
    rw [hk] at h3
    simp [e0, e1] at h3
  intro k j m m' hk hj e0 e1
  rcases Nat.lt_trichotomy k j with h | h | h
  · exact (main k j m m' h hk hj e0 e1).elim
  · exact h
  · exact (main j k m' m h hj hk e0.symm e1.symm).elim
theorem outsOf_get {p : TProto} (ho : Once p) {i : Int} {op : ByteArray} {l : Nat} {o : TOut} : (outsOf p i op)[l]? = some o ↔ ∃ (k : Nat) (m : TMove), p.f2[k]? = some m ∧ m.f0 = op ∧ m.f1 = i ∧ m.f2[l]? = some o := by
  unfold outsOf
  cases hq : fst p.f2.length (outK p i op) with
  | none =>
    rw [fst_none] at hq
    constructor
    · intro h; simp at h
    · rintro ⟨k, m, hm, e0, e1, _⟩
      have := hq k (List.getElem?_eq_some_iff.1 hm).1
      unfold outK at this
      rw [hm] at this
      simp [e0, e1] at this
  | some k =>
    obtain ⟨h1, h2⟩ := fst_some hq
    unfold outK at h2
    rw [List.getElem?_eq_getElem h1] at h2
    simp only [Bool.and_eq_true, decide_eq_true_eq] at h2
    simp only [List.getElem?_eq_getElem h1]
    constructor
    · intro h
      exact ⟨k, _, List.getElem?_eq_getElem h1, h2.2, h2.1, h⟩
    · rintro ⟨k', m, hm, e0, e1, h⟩
      have : k' = k := ho k' k m p.f2[k] hm (List.getElem?_eq_getElem h1) (by rw [e0, h2.2]) (by rw [e1, h2.1])
      subst this
      rw [List.getElem?_eq_getElem h1] at hm
      cases hm
      exact h
theorem add_bit {s n : Nat} (hs : s < 4294967296) (h : n < 32) (hb : s.testBit n = false) : IntKind.wrap .u32 ((s : Int) + shlI .u32 1 (n : Int)) = ((s ||| 2 ^ n : Nat) : Int) := by
  have h2 : 2 ^ n < 2 ^ 32 := Nat.pow_lt_pow_right (by decide) h
  have e : BitVec.ofNat 32 s + BitVec.ofNat 32 (2 ^ n) = BitVec.ofNat 32 s ||| BitVec.ofNat 32 (2 ^ n) := by
    apply BitVec.add_eq_or_of_and_eq_zero
    apply BitVec.eq_of_getLsbD_eq
    intro i hi
    rw [BitVec.getLsbD_and, BitVec.getLsbD_ofNat, BitVec.getLsbD_ofNat, Nat.testBit_two_pow]
    by_cases e : n = i
    · subst e; simp [hb]
    · simp [e]
  have e2 := congrArg BitVec.toNat e
  rw [BitVec.toNat_add, BitVec.toNat_or, BitVec.toNat_ofNat, BitVec.toNat_ofNat, Nat.mod_eq_of_lt (show s < 2 ^ 32 by omega), Nat.mod_eq_of_lt h2] at e2
  rw [shl_bit h, IntKind.wrap_u32, ← e2]
  omega
theorem bit_ref {s n : Nat} (hs : s < 4294967296) (h : n < 32) : m_ref09_Bit (s : Int) (n : Int) = some (s.testBit n) := by
  unfold m_ref09_Bit
  rw [rq_true (decide_eq_true (by omega)), shr_bit1 hs h]
  rfl
theorem refstep_L1 {p : TProto} (hf : Fits p) (ho : Once p) (hn : p.f1.length ≤ 16) (sm : Sm p) {s : Nat} (hs : s < 4294967296) {i : Nat} (hi : i < p.f1.length) (op oc : ByteArray) {t : Nat} (ht : t < 4294967296) :
    ∃ r : Nat, loopO (m_ref09_Step_L1 (outsOf p (i : Int) op) (s : Int) (i : Int) oc) ((t : Int), 0) = some (r : Int) ∧ r < 4294967296 ∧ ∀ j, r.testBit j = true ↔ t.testBit j = true ∨ (s.testBit i = true ∧ ∃ (l : Nat) (o : TOut), (outsOf p (i : Int) op)[l]? = some o ∧ o.f0 = oc ∧ o.f1 = (j : Int)) := by
  have hto : ∀ (l : Nat) (o : TOut), (outsOf p (i : Int) op)[l]? = some o → ∃ b : Nat, o.f1 = (b : Int) ∧ b < p.f1.length := fun l o h => by
    obtain ⟨k, m, hm, _, _, h2⟩ := (outsOf_get ho).1 h
    exact (hf k m hm).2 l o h2
  have hlen : (outsOf p (i : Int) op).length ≤ 80 := by
    unfold outsOf
    cases hq : fst p.f2.length (outK p (i : Int) op) with
    | none => simp
    | some k =>
      have h1 := (fst_some hq).1
      simp only [List.getElem?_eq_getElem h1]
      exact sm.c k h1
  generalize outsOf p (i : Int) op = L at hto hlen ⊢
  have key : ∃ r, loopO (m_ref09_Step_L1 L (s : Int) (i : Int) oc) ((t : Int), 0) = some r ∧ ∃ q : Nat, r = (q : Int) ∧ q < 4294967296 ∧ ∀ j, q.testBit j = true ↔ t.testBit j = true ∨ (s.testBit i = true ∧ ∃ (l : Nat) (o : TOut), L[l]? = some o ∧ o.f0 = oc ∧ o.f1 = (j : Int)) := by
    refine loopO_count L.length (fun n st => st.2 = (n : Int) ∧ ∃ q : Nat, st.1 = (q : Int) ∧ q < 4294967296 ∧ ∀ j, q.testBit j = true ↔ t.testBit j = true ∨ (s.testBit i = true ∧ ∃ (l : Nat) (o : TOut), l < n ∧ L[l]? = some o ∧ o.f0 = oc ∧ o.f1 = (j : Int))) _ ?_ ?_
      ⟨rfl, t, rfl, ht, fun j => ⟨.inl, fun h => h.elim id fun ⟨_, l, o, h, _⟩ => absurd h (Nat.not_lt_zero _)⟩⟩
    · rintro n ⟨v, w⟩ hk ⟨rfl, q, rfl, hq, hb⟩
      left
      obtain ⟨b, hbb, hbn⟩ := hto n L[n] (List.getElem?_eq_getElem hk)
      unfold m_ref09_Step_L1
      simp only [lt_cast, decide_eq_true hk, ifB_true, gi_of hk, some_bind', hbb, bit_ref hs (show i < 32 by omega), bit_ref hq (show b < 32 by omega)]
      rw [wrap_succ (by omega), rq_true (decide_eq_true (show (0 : Int) ≤ (b : Int) by omega))]
      have hsame : ∀ q' : Nat, (∀ j, q'.testBit j = true ↔ q.testBit j = true ∨ (s.testBit i = true ∧ (L[n]).f0 = oc ∧ j = b)) → ∀ j, q'.testBit j = true ↔ t.testBit j = true ∨ (s.testBit i = true ∧ ∃ (l : Nat) (o : TOut), l < n + 1 ∧ L[l]? = some o ∧ o.f0 = oc ∧ o.f1 = (j : Int)) := by
        intro q' h' j
        rw [h', hb]
        constructor
        · rintro ((h | ⟨g, l, o, h1, h2, h3, h4⟩) | ⟨g, h1, rfl⟩)
          · exact .inl h
          · exact .inr ⟨g, l, o, by omega, h2, h3, h4⟩
          · exact .inr ⟨g, n, _, by omega, List.getElem?_eq_getElem hk, h1, hbb⟩
        · rintro (h | ⟨g, l, o, h1, h2, h3, h4⟩)
          · exact .inl (.inl h)
          · by_cases e : l = n
            · subst e
              rw [List.getElem?_eq_getElem hk] at h2
              cases h2
              rw [hbb] at h4
              exact .inr ⟨g, h3, by omega⟩
            · exact .inl (.inr ⟨g, l, o, by omega, h2, h3, h4⟩)
      cases hsi : s.testBit i with
      | false =>
        refine ⟨_, rfl, rfl, q, rfl, hq, ?_⟩
        rw [hsi] at hsame
        exact hsame q fun j => ⟨.inl, fun h => h.elim id fun h => by cases h.1⟩
      | true =>
        rw [hsi] at hsame
        by_cases e : (L[n]).f0 = oc
        · rw [decide_eq_true e]
          cases hqb : q.testBit b with
          | true => exact ⟨_, rfl, rfl, q, rfl, hq, hsame q fun j => ⟨.inl, fun h => h.elim id fun h => by rw [h.2.2]; exact hqb⟩⟩
          | false =>
            refine ⟨_, rfl, rfl, q ||| 2 ^ b, add_bit hq (by omega) hqb, or_lt hq (by omega), hsame _ fun j => ?_⟩
            rw [bit_or]
            exact ⟨fun h => h.elim .inl fun h => .inr ⟨rfl, e, h⟩, fun h => h.elim .inl fun h => .inr h.2.2⟩
        · rw [decide_eq_false e]
          exact ⟨_, rfl, rfl, q, rfl, hq, hsame q fun j => ⟨.inl, fun h => h.elim id fun h => absurd h.2.1 e⟩⟩
    · rintro ⟨v, w⟩ ⟨rfl, q, rfl, hq, hb⟩
      unfold m_ref09_Step_L1
      simp only [lt_cast, Nat.lt_irrefl, decide_false, ifB_false]
      refine ⟨_, rfl, q, rfl, hq, fun j => ?_⟩
      rw [hb]
      constructor
      · rintro (h | ⟨g, l, o, h1, h2, h3⟩)
        · exact .inl h
        · exact .inr ⟨g, l, o, h2, h3⟩
      · rintro (h | ⟨g, l, o, h2, h3⟩)
        · exact .inl h
        · exact .inr ⟨g, l, o, (List.getElem?_eq_some_iff.1 h2).1, h2, h3⟩
  obtain ⟨_, hr, q, rfl, h1, h2⟩ := key
  exact ⟨q, hr, h1, h2⟩
theorem step_ref {p : TProto} (hf : Fits p) (ho : Once p) (hn : p.f1.length ≤ 16) (sm : Sm p) {s : Nat} (hs : s < 4294967296) (op oc : ByteArray) :
    ∃ t : Nat, m_ref09_Step p (s : Int) op oc = some (t : Int) ∧ t < 4294967296 ∧ ∀ j, t.testBit j = true ↔ StepTo p s op oc j := by
  have key : ∃ r, loopO (m_ref09_Step_L0 p op (s : Int) oc) (0, 0) = some r ∧ ∃ t : Nat, r = (t : Int) ∧ t < 4294967296 ∧ ∀ j, t.testBit j = true ↔ StepTo p s op oc j := by
    refine loopO_count p.f1.length (fun n st => st.2 = (n : Int) ∧ ∃ q : Nat, st.1 = (q : Int) ∧ q < 4294967296 ∧ ∀ j, q.testBit j = true ↔ ∃ k l i, i < n ∧ EdgeN p op oc k l i j ∧ s.testBit i = true) _ ?_ ?_
      ⟨rfl, 0, rfl, by decide, fun j => ⟨fun h => by simp at h, fun ⟨k, l, i, h, _⟩ => absurd h (Nat.not_lt_zero _)⟩⟩
    · rintro n ⟨v, w⟩ hi ⟨rfl, q, rfl, hq, hb⟩
      left
      obtain ⟨r, hr, hrl, hrb⟩ := refstep_L1 hf ho hn sm hs hi op oc hq
      unfold m_ref09_Step_L0
      simp only [lt_cast, decide_eq_true hi, ifB_true, outs_ref sm, some_bind', hr]
      rw [wrap_succ (by omega)]
      refine ⟨_, rfl, rfl, r, rfl, hrl, fun j => ?_⟩
      rw [hrb, hb]
      constructor
      · rintro (⟨k, l, i, h1, h2, h3⟩ | ⟨g, l, o, h1, h2, h3⟩)
        · exact ⟨k, l, i, by omega, h2, h3⟩
        · obtain ⟨k, m, hm, e0, e1, e2⟩ := (outsOf_get ho).1 h1
          exact ⟨k, l, n, by omega, ⟨m, o, hm, e2, e0, h2, e1, h3⟩, g⟩
      · rintro ⟨k, l, i, h1, h2, h3⟩
        by_cases e : i = n
        · subst e
          obtain ⟨m, o, g1, g2, g3, g4, g5, g6⟩ := h2
          exact .inr ⟨h3, l, o, (outsOf_get ho).2 ⟨k, m, g1, g3, g5, g2⟩, g4, g6⟩
        · exact .inl ⟨k, l, i, by omega, h2, h3⟩
    · rintro ⟨v, w⟩ ⟨rfl, q, rfl, hq, hb⟩
      unfold m_ref09_Step_L0
      simp only [lt_cast, Nat.lt_irrefl, decide_false, ifB_false]
      refine ⟨_, rfl, q, rfl, hq, fun j => ?_⟩
      rw [hb]
      constructor
      · rintro ⟨k, l, i, h1, h2, h3⟩
        exact ⟨k, l, i, h2, h3⟩
      · rintro ⟨k, l, i, h2, h3⟩
        obtain ⟨m, o, g1, g2, g3, g4, g5, g6⟩ := id h2
        obtain ⟨⟨a, ha, han⟩, _⟩ := hf k m g1
        exact ⟨k, l, i, by omega, h2, h3⟩
  obtain ⟨_, hr, t, rfl, h1, h2⟩ := key
  refine ⟨t, ?_, h1, h2⟩
  unfold m_ref09_Step
  simp only [some_bind', hr]
theorem bits_eq {s t : Nat} {Q : Nat → Prop} (h1 : ∀ j, s.testBit j = true ↔ Q j) (h2 : ∀ j, t.testBit j = true ↔ Q j) : s = t := by
  apply Nat.eq_of_testBit_eq
  intro i
  have := (h1 i).trans (h2 i).symm
  cases hs : s.testBit i <;> cases ht : t.testBit i <;> simp_all
/-- What W = 0 tells. -/
theorem good_of {p : TProto} (h : (W p).1 = 0) : p.f1.length ≤ 16 ∧ 1 ≤ p.f1.length ∧ Fits p ∧ Once p ∧ (∀ k, k < p.f2.length → endK p k = false) ∧ (∀ i, i < p.f1.length → Reach p i) ∧ ∀ i, i < p.f1.length → dup p.f1.length (nmS p) i = false := by
  unfold W at h
  by_cases hc : p.f1.length < 1 ∨ 16 < p.f1.length
  · rw [if_pos hc] at h; cases h
  · rw [if_neg hc] at h
    cases hd : fst p.f1.length (dup p.f1.length (nmS p)) with
    | some i => rw [hd] at h; cases h
    | none =>
      rw [hd] at h
      cases hu : fst p.f2.length (unfitK p) with
      | some i => rw [hu] at h; cases h
      | none =>
        rw [hu] at h
        cases hg : fst p.f2.length (againK p) with
        | some i => rw [hg] at h; cases h
        | none =>
          rw [hg] at h
          cases he : fst p.f2.length (endK p) with
          | some i => rw [he] at h; cases h
          | none =>
            rw [he] at h
            cases hs : fst p.f1.length (fun i => !reachB p i) with
            | some i => rw [hs] at h; cases h
            | none =>
              refine ⟨by omega, by omega, fits_of hu, once_of hg, fst_none.1 he, fun i hi => ?_, fst_none.1 hd⟩
              have := fst_none.1 hs i hi
              apply Classical.byContradiction
              intro hr
              rw [reachB_ff hr] at this
              cases this
theorem u32_nat {a : Int} (h : (Lit.int .u32 a).wf = true) : ∃ s : Nat, a = (s : Int) ∧ s < 4294967296 := by
  simp [Lit.wf, IntKind.min, IntKind.max, IntKind.signed, IntKind.bits] at h
  exact ⟨a.toNat, by omega, by omega⟩
theorem or_u32 {s t : Nat} (hs : s < 4294967296) (ht : t < 4294967296) : orI .u32 (s : Int) (t : Int) = ((s ||| t : Nat) : Int) ∧ s ||| t < 4294967296 := by
  have h3 : s ||| t < 2 ^ 32 := Nat.or_lt_two_pow (by omega) (by omega)
  refine ⟨?_, by omega⟩
  unfold orI
  rw [ofInt_nat, ofInt_nat, BitVec.toNat_or, BitVec.toNat_ofNat, BitVec.toNat_ofNat]
  simp only [IntKind.bits]
  rw [Nat.mod_eq_of_lt (show s < 2 ^ 32 by omega), Nat.mod_eq_of_lt (show t < 2 ^ 32 by omega), IntKind.wrap_u32]
  omega
theorem andNot_zero {s t : Nat} (hs : s < 4294967296) (ht : t < 4294967296) (h : ∀ j, s.testBit j = true → t.testBit j = true) : decide (andNotI .u32 (s : Int) (t : Int) = 0) = true := by
  apply decide_eq_true
  unfold andNotI
  rw [ofInt_nat, ofInt_nat]
  have : (BitVec.ofNat IntKind.u32.bits s &&& ~~~ BitVec.ofNat IntKind.u32.bits t) = 0#_ := by
    apply BitVec.eq_of_getLsbD_eq
    intro i hi
    rw [BitVec.getLsbD_and, BitVec.getLsbD_not, BitVec.getLsbD_ofNat, BitVec.getLsbD_ofNat, BitVec.getLsbD_zero]
    have := h i
    cases h1 : s.testBit i <;> cases h2 : t.testBit i <;> simp_all
  rw [this]
  rfl
theorem and_u32 {s t : Nat} (hs : s < 4294967296) (ht : t < 4294967296) : andI .u32 (s : Int) (t : Int) = ((s &&& t : Nat) : Int) ∧ s &&& t < 4294967296 := by
  have h3 : s &&& t < 2 ^ 32 := Nat.lt_of_le_of_lt Nat.and_le_left (by omega)
  refine ⟨?_, by omega⟩
  unfold andI
  rw [ofInt_nat, ofInt_nat, BitVec.toNat_and, BitVec.toNat_ofNat, BitVec.toNat_ofNat]
  simp only [IntKind.bits]
  rw [Nat.mod_eq_of_lt (show s < 2 ^ 32 by omega), Nat.mod_eq_of_lt (show t < 2 ^ 32 by omega), IntKind.wrap_u32]
  omega
/-- States with a move of an operation that is so. -/
def OfB (p : TProto) (op : ByteArray) (g : TMove → Bool) (j : Nat) : Prop := ∃ (k : Nat) (m : TMove), p.f2[k]? = some m ∧ m.f0 = op ∧ g m = true ∧ m.f1 = (j : Int)
theorem of_auto {p : TProto} (hf : Fits p) (hn : p.f1.length ≤ 16) (sm : Sm p) (op : ByteArray) {f : TMove → Option Bool} {g : TMove → Bool} (hg : ∀ (k : Nat) (h : k < p.f2.length), f p.f2[k] = some (g p.f2[k])) :
    ∃ t : Nat, m_auto_Auto_of (some ⟨p⟩) op f = some (t : Int) ∧ t < 4294967296 ∧ ∀ j, t.testBit j = true ↔ OfB p op g j := by
  have hb := sm.b
  have key : ∃ r, loopO (m_auto_Auto_of_L0 (⟨p⟩ : TAuto_Auto) op f) (0, 0) = some r ∧ ∃ t : Nat, r = (t : Int) ∧ t < 4294967296 ∧ ∀ j, t.testBit j = true ↔ OfB p op g j := by
    refine loopO_count p.f2.length (fun n st => st.2 = (n : Int) ∧ ∃ q : Nat, st.1 = (q : Int) ∧ q < 4294967296 ∧ ∀ j, q.testBit j = true ↔ ∃ (k : Nat) (m : TMove), k < n ∧ p.f2[k]? = some m ∧ m.f0 = op ∧ g m = true ∧ m.f1 = (j : Int)) _ ?_ ?_
      ⟨rfl, 0, rfl, by decide, fun j => ⟨fun h => by simp at h, fun ⟨k, m, h, _⟩ => absurd h (Nat.not_lt_zero _)⟩⟩
    · rintro n ⟨v, w⟩ hk ⟨rfl, q, rfl, hq, hbit⟩
      left
      have hm := List.getElem?_eq_getElem hk
      obtain ⟨⟨a, ha, han⟩, _⟩ := hf n p.f2[n] hm
      unfold m_auto_Auto_of_L0
      simp only [lt_cast, decide_eq_true hk, ifB_true, gi_of hk, some_bind', ha, hg n hk]
      rw [wrap_succ (by omega), rq_true (decide_eq_true (show (0 : Int) ≤ (a : Int) by omega))]
      have hskip : (ifB (decide ((p.f2[n]).f0 = op)) (some (g p.f2[n])) (some false) : Option Bool) = some (decide ((p.f2[n]).f0 = op) && g p.f2[n]) := by
        cases decide ((p.f2[n]).f0 = op) <;> rfl
      rw [hskip]
      simp only [some_bind']
      cases e : (decide ((p.f2[n]).f0 = op) && g p.f2[n]) with
      | true =>
        rw [Bool.and_eq_true] at e
        obtain ⟨e1, e2⟩ := e
        refine ⟨_, rfl, rfl, q ||| 2 ^ a, or_bit hq (by omega), or_lt hq (by omega), fun j => ?_⟩
        rw [bit_or, hbit]
        constructor
        · rintro (⟨k, m, h1, h2⟩ | rfl)
          · exact ⟨k, m, by omega, h2⟩
          · exact ⟨n, _, by omega, hm, of_decide_eq_true e1, e2, ha⟩
        · rintro ⟨k, m, h1, h2, h3, h4, h5⟩
          by_cases ek : k = n
          · subst ek
            rw [hm] at h2; cases h2
            right; omega
          · exact .inl ⟨k, m, by omega, h2, h3, h4, h5⟩
      | false =>
        refine ⟨_, rfl, rfl, q, rfl, hq, fun j => ?_⟩
        rw [hbit]
        constructor
        · rintro ⟨k, m, h1, h2⟩
          exact ⟨k, m, by omega, h2⟩
        · rintro ⟨k, m, h1, h2, h3, h4, h5⟩
          by_cases ek : k = n
          · subst ek
            rw [hm] at h2; cases h2
            rw [h3, h4] at e
            simp at e
          · exact ⟨k, m, by omega, h2, h3, h4, h5⟩
    · rintro ⟨v, w⟩ ⟨rfl, q, rfl, hq, hbit⟩
      unfold m_auto_Auto_of_L0
      simp only [lt_cast, Nat.lt_irrefl, decide_false, ifB_false]
      refine ⟨_, rfl, q, rfl, hq, fun j => ?_⟩
      rw [hbit]
      constructor
      · rintro ⟨k, m, h1, h2⟩
        exact ⟨k, m, h2⟩
      · rintro ⟨k, m, h2, h3⟩
        exact ⟨k, m, (List.getElem?_eq_some_iff.1 h2).1, h2, h3⟩
  obtain ⟨_, hr, t, rfl, h1, h2⟩ := key
  refine ⟨t, ?_, h1, h2⟩
  unfold m_auto_Auto_of
  simp only [some_bind', hr]
theorem enabled_auto {p : TProto} (hf : Fits p) (hn : p.f1.length ≤ 16) (sm : Sm p) (op : ByteArray) :
    ∃ t : Nat, m_auto_Auto_Enabled (some ⟨p⟩) op = some (t : Int) ∧ t < 4294967296 ∧ ∀ j, t.testBit j = true ↔ OfB p op (fun _ => true) j := by
  obtain ⟨t, h1, h2, h3⟩ := of_auto hf hn sm op (f := fun x0 => m_auto_Auto_Enabled_1 x0) (g := fun _ => true) fun k h => rfl
  refine ⟨t, ?_, h2, h3⟩
  unfold m_auto_Auto_Enabled
  rw [h1]; rfl
/-- Each outcome leads back. -/
def keepB (m : TMove) : Bool := !(fst m.f2.length fun i => match m.f2[i]? with | some o => !decide (o.f1 = m.f1) | none => false).isSome
theorem keepB_iff {m : TMove} : keepB m = true ↔ ∀ (l : Nat) (o : TOut), m.f2[l]? = some o → o.f1 = m.f1 := by
  unfold keepB
  rw [Bool.not_eq_true', Option.isSome_eq_false_iff, Option.isNone_iff_eq_none, fst_none]
  constructor
  · intro h l o ho
    have hl := (List.getElem?_eq_some_iff.1 ho).1
    have := h l hl
    rw [ho] at this
    simpa using this
  · intro h l hl
    have ho := List.getElem?_eq_getElem hl
    rw [ho]
    have := h l _ ho
    simp [this]
theorem keeps_auto {p : TProto} (hf : Fits p) (hn : p.f1.length ≤ 16) (sm : Sm p) (op : ByteArray) :
    ∃ t : Nat, m_auto_Auto_Keeps (some ⟨p⟩) op = some (t : Int) ∧ t < 4294967296 ∧ ∀ j, t.testBit j = true ↔ OfB p op keepB j := by
  obtain ⟨t, h1, h2, h3⟩ := of_auto hf hn sm op (f := fun x0 => m_auto_Auto_Keeps_1 x0) (g := keepB) fun k h => by
    unfold m_auto_Auto_Keeps_1 m_slices_ContainsFunc_api_Out
    rw [indexOut (f := fun x0 => m_auto_Auto_Keeps_1_1 x0 p.f2[k]) (sm.c k h) (g := fun o => !decide (o.f1 = (p.f2[k]).f1)) fun o => rfl]
    simp only [some_bind', nonneg_fst]
    rfl
  refine ⟨t, ?_, h2, h3⟩
  unfold m_auto_Auto_Keeps
  rw [h1]; rfl
noncomputable instance decMem (s : ByteArray) (l : List ByteArray) : Decidable (s ∈ l) := Classical.propDecidable _
/-- A name, if it isn't there. -/
noncomputable def addB (l : List ByteArray) (s : ByteArray) : List ByteArray := if s ∈ l then l else l ++ [s]
theorem addB_len {l : List ByteArray} {s : ByteArray} : (addB l s).length ≤ l.length + 1 := by
  unfold addB
  split
  · omega
  · simp
theorem addB_mem {l : List ByteArray} {s x : ByteArray} : x ∈ addB l s ↔ x ∈ l ∨ x = s := by
  unfold addB
  split
  · rename_i h
    constructor
    · exact .inl
    · rintro (h | rfl)
      · exact h
      · exact h
  · simp
theorem contains_str {l : List ByteArray} {s : ByteArray} (h : l.length ≤ 1000000) : m_slices_Contains_string l s = some (decide (s ∈ l)) := by
  unfold m_slices_Contains_string m_slices_Index_string
  rw [show ((0 : Int)) = ((0 : Nat) : Int) from rfl, loopO_first (fun i : Nat => (i : Int)) l.length (fun i => match l[i]? with | some x => decide (s = x) | none => false) (fun i => (i : Int)) () ?_ ?_]
  · cases hq : fst l.length (fun i => match l[i]? with | some x => decide (s = x) | none => false) with
    | some i =>
      obtain ⟨h1, h2⟩ := fst_some hq
      rw [List.getElem?_eq_getElem h1] at h2
      have : s ∈ l := by rw [of_decide_eq_true h2]; exact List.getElem_mem h1
      rw [decide_eq_true this]
      simp only [some_bind']
      rw [decide_eq_true (show ((0 : Nat) : Int) ≤ (i : Int) by omega)]
    | none =>
      rw [fst_none] at hq
      have : s ∉ l := fun hb => by
        obtain ⟨i, hi, he⟩ := List.getElem_of_mem hb
        have := hq i hi
        rw [List.getElem?_eq_getElem hi] at this
        exact absurd he.symm (of_decide_eq_false this)
      rw [decide_eq_false this]; rfl
  · intro i hi _
    unfold m_slices_Index_string_L0
    simp only [lt_cast, decide_eq_true hi, ifB_true, gi_of hi, some_bind', List.getElem?_eq_getElem hi]
    rw [wrap_succ (by omega)]
    cases decide (s = l[i]) <;> rfl
  · intro _
    unfold m_slices_Index_string_L0
    simp only [lt_cast, Nat.lt_irrefl, decide_false, ifB_false]
theorem add_auto {l : List ByteArray} {s : ByteArray} (h : l.length < 1000000) : (Option.bind (some (!decide (s ∈ l))) fun b => ifB b (Option.bind (rq (decide (l.length + ([s]).length ≤ 1000000))) fun _ => some (l ++ [s])) (some l)) = some (addB l s) := by
  unfold addB
  by_cases e : s ∈ l
  · rw [if_pos e, decide_eq_true e]; rfl
  · rw [if_neg e, decide_eq_false e]
    simp only [some_bind', Bool.not_false, ifB_true]
    rw [rq_true (decide_eq_true (by simp; omega))]; rfl
theorem add_ref {l : List ByteArray} {s : ByteArray} (h : l.length < 1000000) : ∃ b, m_ref09_add_B l s = some (addB l s, b) := by
  unfold m_ref09_add_B
  rw [show ((0 : Int)) = ((0 : Nat) : Int) from rfl, loopO_first (fun i : Nat => (i : Int)) l.length (fun i => match l[i]? with | some x => decide (x = s) | none => false) (fun i => ()) () ?_ ?_]
  · unfold addB
    cases hq : fst l.length (fun i => match l[i]? with | some x => decide (x = s) | none => false) with
    | some i =>
      obtain ⟨h1, h2⟩ := fst_some hq
      rw [List.getElem?_eq_getElem h1] at h2
      have : s ∈ l := by rw [← of_decide_eq_true h2]; exact List.getElem_mem h1
      rw [if_pos this]
      exact ⟨_, rfl⟩
    | none =>
      rw [fst_none] at hq
      have : s ∉ l := fun hb => by
        obtain ⟨i, hi, he⟩ := List.getElem_of_mem hb
        have := hq i hi
        rw [List.getElem?_eq_getElem hi] at this
        exact absurd he (of_decide_eq_false this)
      rw [if_neg this]
      simp only [some_bind']
      rw [rq_true (decide_eq_true (by simp; omega))]
      exact ⟨_, rfl⟩
  · intro i hi _
    unfold m_ref09_add_L0
    simp only [lt_cast, decide_eq_true hi, ifB_true, gi_of hi, some_bind', List.getElem?_eq_getElem hi]
    rw [wrap_succ (by omega)]
    cases decide (l[i] = s) <;> rfl
  · intro _
    unfold m_ref09_add_L0
    simp only [lt_cast, Nat.lt_irrefl, decide_false, ifB_false]
noncomputable def opsOf (p : TProto) (n : Nat) : List ByteArray := (List.range n).foldl (fun l k => match p.f2[k]? with | some m => addB l m.f0 | none => l) []
noncomputable def outcM (m : TMove) (n : Nat) (l0 : List ByteArray) : List ByteArray := (List.range n).foldl (fun l k => match m.f2[k]? with | some o => addB l o.f0 | none => l) l0
noncomputable def outcOf (p : TProto) (op : ByteArray) (n : Nat) : List ByteArray := (List.range n).foldl (fun l k => match p.f2[k]? with | some m => (if m.f0 = op then outcM m m.f2.length l else l) | none => l) []
theorem opsOf_succ {p : TProto} {n : Nat} (h : n < p.f2.length) : opsOf p (n + 1) = addB (opsOf p n) (p.f2[n]).f0 := by
  unfold opsOf
  rw [List.range_succ, List.foldl_append, List.foldl_cons, List.foldl_nil, List.getElem?_eq_getElem h]
theorem outcM_succ {m : TMove} {n : Nat} {l0 : List ByteArray} (h : n < m.f2.length) : outcM m (n + 1) l0 = addB (outcM m n l0) (m.f2[n]).f0 := by
  unfold outcM
  rw [List.range_succ, List.foldl_append, List.foldl_cons, List.foldl_nil, List.getElem?_eq_getElem h]
theorem outcOf_succ {p : TProto} {op : ByteArray} {n : Nat} (h : n < p.f2.length) : outcOf p op (n + 1) = if (p.f2[n]).f0 = op then outcM p.f2[n] (p.f2[n]).f2.length (outcOf p op n) else outcOf p op n := by
  unfold outcOf
  rw [List.range_succ, List.foldl_append, List.foldl_cons, List.foldl_nil, List.getElem?_eq_getElem h]
theorem opsOf_len {p : TProto} : ∀ n, n ≤ p.f2.length → (opsOf p n).length ≤ n := by
  intro n
  induction n with
  | zero => intro _; exact Nat.le_refl _
  | succ n ih =>
    intro h
    rw [opsOf_succ (by omega)]
    have := addB_len (l := opsOf p n) (s := (p.f2[n]).f0)
    have := ih (by omega)
    omega
theorem outcM_len {m : TMove} {l0 : List ByteArray} : ∀ n, n ≤ m.f2.length → (outcM m n l0).length ≤ l0.length + n := by
  intro n
  induction n with
  | zero => intro _; exact Nat.le_refl _
  | succ n ih =>
    intro h
    rw [outcM_succ (by omega)]
    have := addB_len (l := outcM m n l0) (s := (m.f2[n]).f0)
    have := ih (by omega)
    omega
theorem outcOf_len {p : TProto} (sm : Sm p) {op : ByteArray} : ∀ n, n ≤ p.f2.length → (outcOf p op n).length ≤ n * 80 := by
  intro n
  induction n with
  | zero => intro _; exact Nat.le_refl _
  | succ n ih =>
    intro h
    rw [outcOf_succ (by omega)]
    have h1 := ih (by omega)
    have h2 := sm.c n (by omega)
    have h3 := outcM_len (m := p.f2[n]) (l0 := outcOf p op n) _ (Nat.le_refl _)
    split <;> omega
theorem opsOf_mem {p : TProto} {x : ByteArray} : ∀ n, n ≤ p.f2.length → (x ∈ opsOf p n ↔ ∃ (k : Nat) (m : TMove), k < n ∧ p.f2[k]? = some m ∧ m.f0 = x) := by
  intro n
  induction n with
  | zero => intro _; exact ⟨fun h => (by cases h), fun ⟨k, m, h, _⟩ => absurd h (Nat.not_lt_zero _)⟩
  | succ n ih =>
    intro h
    rw [opsOf_succ (by omega), addB_mem, ih (by omega)]
    constructor
    · rintro (⟨k, m, h1, h2⟩ | rfl)
      · exact ⟨k, m, by omega, h2⟩
      · exact ⟨n, _, by omega, List.getElem?_eq_getElem (by omega), rfl⟩
    · rintro ⟨k, m, h1, h2, h3⟩
      by_cases e : k = n
      · subst e
        rw [List.getElem?_eq_getElem (by omega)] at h2; cases h2
        exact .inr h3.symm
      · exact .inl ⟨k, m, by omega, h2, h3⟩
theorem outcM_mem {m : TMove} {l0 : List ByteArray} {x : ByteArray} : ∀ n, n ≤ m.f2.length → (x ∈ outcM m n l0 ↔ x ∈ l0 ∨ ∃ (k : Nat) (o : TOut), k < n ∧ m.f2[k]? = some o ∧ o.f0 = x) := by
  intro n
  induction n with
  | zero => intro _; exact ⟨fun h => .inl h, fun h => h.elim id fun ⟨k, m, h, _⟩ => absurd h (Nat.not_lt_zero _)⟩
  | succ n ih =>
    intro h
    rw [outcM_succ (by omega), addB_mem, ih (by omega)]
    constructor
    · rintro ((h1 | ⟨k, m, h1, h2⟩) | rfl)
      · exact .inl h1
      · exact .inr ⟨k, m, by omega, h2⟩
      · exact .inr ⟨n, _, by omega, List.getElem?_eq_getElem (by omega), rfl⟩
    · rintro (h1 | ⟨k, m, h1, h2, h3⟩)
      · exact .inl (.inl h1)
      by_cases e : k = n
      · subst e
        rw [List.getElem?_eq_getElem (by omega)] at h2; cases h2
        exact .inr h3.symm
      · exact .inl (.inr ⟨k, m, by omega, h2, h3⟩)
theorem outcOf_mem {p : TProto} {op x : ByteArray} : ∀ n, n ≤ p.f2.length → (x ∈ outcOf p op n ↔ ∃ (k : Nat) (m : TMove) (l : Nat) (o : TOut), k < n ∧ p.f2[k]? = some m ∧ m.f0 = op ∧ m.f2[l]? = some o ∧ o.f0 = x) := by
  intro n
  induction n with
  | zero => intro _; exact ⟨fun h => (by cases h), fun ⟨k, m, l, o, h, _⟩ => absurd h (Nat.not_lt_zero _)⟩
  | succ n ih =>
    intro h
    rw [outcOf_succ (by omega)]
    constructor
    · intro hx
      split at hx
      · rename_i hop
        rw [outcM_mem _ (Nat.le_refl _), ih (by omega)] at hx
        rcases hx with ⟨k, m, l, o, h1, h2⟩ | ⟨l, o, h1, h2, h3⟩
        · exact ⟨k, m, l, o, by omega, h2⟩
        · exact ⟨n, _, l, o, by omega, List.getElem?_eq_getElem (by omega), hop, h2, h3⟩
      · rw [ih (by omega)] at hx
        obtain ⟨k, m, l, o, h1, h2⟩ := hx
        exact ⟨k, m, l, o, by omega, h2⟩
    · rintro ⟨k, m, l, o, h1, h2, h3, h4, h5⟩
      by_cases e : k = n
      · subst e
        rw [List.getElem?_eq_getElem (by omega)] at h2; cases h2
        rw [if_pos h3, outcM_mem _ (Nat.le_refl _)]
        exact .inr ⟨l, o, (List.getElem?_eq_some_iff.1 h4).1, h4, h5⟩
      · have : x ∈ outcOf p op n := (ih (by omega)).2 ⟨k, m, l, o, by omega, h2, h3, h4, h5⟩
        split
        · rw [outcM_mem _ (Nat.le_refl _)]
          exact .inl this
        · exact this
theorem ops_auto {p : TProto} (sm : Sm p) : m_auto_Auto_Ops (some ⟨p⟩) = some (opsOf p p.f2.length) := by
  have hb := sm.b
  have key : ∃ r, loopO (m_auto_Auto_Ops_L0 (⟨p⟩ : TAuto_Auto)) ([], 0) = some r ∧ r = opsOf p p.f2.length := by
    refine loopO_count p.f2.length (fun n st => st.2 = (n : Int) ∧ st.1 = opsOf p n) _ ?_ ?_ ⟨rfl, rfl⟩
    · rintro n ⟨v, w⟩ hk ⟨rfl, rfl⟩
      left
      have hl := opsOf_len (p := p) n (by omega)
      unfold m_auto_Auto_Ops_L0
      dsimp only
      simp only [lt_cast, decide_eq_true hk, ifB_true, gi_of hk, some_bind', contains_str (show (opsOf p n).length ≤ 1000000 by omega)]
      rw [wrap_succ (by omega)]
      have := add_auto (l := opsOf p n) (s := (p.f2[n]).f0) (by omega)
      simp only [some_bind'] at this
      rw [this]
      exact ⟨_, rfl, rfl, (opsOf_succ hk).symm⟩
    · rintro ⟨v, w⟩ ⟨rfl, rfl⟩
      unfold m_auto_Auto_Ops_L0
      simp only [lt_cast, Nat.lt_irrefl, decide_false, ifB_false]
      exact ⟨_, rfl, rfl⟩
  obtain ⟨_, hr, rfl⟩ := key
  unfold m_auto_Auto_Ops
  simp only [some_bind', hr]
theorem ops_ref {p : TProto} (sm : Sm p) : m_ref09_Ops p = some (opsOf p p.f2.length) := by
  have hb := sm.b
  have key : ∃ r, loopO (m_ref09_Ops_L0 p) ([], 0) = some r ∧ r = opsOf p p.f2.length := by
    refine loopO_count p.f2.length (fun n st => st.2 = (n : Int) ∧ st.1 = opsOf p n) _ ?_ ?_ ⟨rfl, rfl⟩
    · rintro n ⟨v, w⟩ hk ⟨rfl, rfl⟩
      left
      have hl := opsOf_len (p := p) n (by omega)
      obtain ⟨b, hb⟩ := add_ref (l := opsOf p n) (s := (p.f2[n]).f0) (by omega)
      unfold m_ref09_Ops_L0
      dsimp only
      simp only [lt_cast, decide_eq_true hk, ifB_true, gi_of hk, some_bind', hb]
      rw [wrap_succ (by omega)]
      exact ⟨_, rfl, rfl, (opsOf_succ hk).symm⟩
    · rintro ⟨v, w⟩ ⟨rfl, rfl⟩
      unfold m_ref09_Ops_L0
      simp only [lt_cast, Nat.lt_irrefl, decide_false, ifB_false]
      exact ⟨_, rfl, rfl⟩
  obtain ⟨_, hr, rfl⟩ := key
  unfold m_ref09_Ops
  simp only [some_bind', hr]
theorem outcomes_L1 {m : TMove} (h : m.f2.length ≤ 80) {op : ByteArray} {l0 : List ByteArray} (hl0 : l0.length ≤ 6400) : loopO (m_auto_Auto_Outcomes_L1 m op) (l0, 0) = some (if m.f0 = op then outcM m m.f2.length l0 else l0) := by
  have key : ∃ r, loopO (m_auto_Auto_Outcomes_L1 m op) (l0, 0) = some r ∧ r = (if m.f0 = op then outcM m m.f2.length l0 else l0) := by
    refine loopO_count m.f2.length (fun n st => st.2 = (n : Int) ∧ st.1 = if m.f0 = op then outcM m n l0 else l0) _ ?_ ?_ ⟨rfl, by dsimp only; split <;> rfl⟩
    · rintro n ⟨v, w⟩ hk ⟨rfl, rfl⟩
      left
      have hl := outcM_len (m := m) (l0 := l0) n (by omega)
      unfold m_auto_Auto_Outcomes_L1
      dsimp only
      simp only [lt_cast, decide_eq_true hk, ifB_true, gi_of hk, some_bind']
      rw [wrap_succ (by omega)]
      by_cases e : m.f0 = op
      · simp only [if_pos e, decide_eq_true e, ifB_true, some_bind', contains_str (show (outcM m n l0).length ≤ 1000000 by omega)]
        have := add_auto (l := outcM m n l0) (s := (m.f2[n]).f0) (by omega)
        simp only [some_bind'] at this
        rw [this]
        exact ⟨_, rfl, rfl, (outcM_succ hk).symm⟩
      · simp only [if_neg e, decide_eq_false e, ifB_false, some_bind']
        exact ⟨_, rfl, rfl, rfl⟩
    · rintro ⟨v, w⟩ ⟨rfl, rfl⟩
      unfold m_auto_Auto_Outcomes_L1
      simp only [lt_cast, Nat.lt_irrefl, decide_false, ifB_false]
      exact ⟨_, rfl, rfl⟩
  obtain ⟨_, hr, rfl⟩ := key
  exact hr
theorem outcomes_auto {p : TProto} (sm : Sm p) (op : ByteArray) : m_auto_Auto_Outcomes (some ⟨p⟩) op = some (outcOf p op p.f2.length) := by
  have hb := sm.b
  have key : ∃ r, loopO (m_auto_Auto_Outcomes_L0 (⟨p⟩ : TAuto_Auto) op) ([], 0) = some r ∧ r = outcOf p op p.f2.length := by
    refine loopO_count p.f2.length (fun n st => st.2 = (n : Int) ∧ st.1 = outcOf p op n) _ ?_ ?_ ⟨rfl, rfl⟩
    · rintro n ⟨v, w⟩ hk ⟨rfl, rfl⟩
      left
      have hl := outcOf_len sm (op := op) n (by omega)
      unfold m_auto_Auto_Outcomes_L0
      dsimp only
      simp only [lt_cast, decide_eq_true hk, ifB_true, gi_of hk, some_bind', outcomes_L1 (sm.c n hk) (show (outcOf p op n).length ≤ 6400 by omega)]
      rw [wrap_succ (by omega)]
      exact ⟨_, rfl, rfl, (outcOf_succ hk).symm⟩
    · rintro ⟨v, w⟩ ⟨rfl, rfl⟩
      unfold m_auto_Auto_Outcomes_L0
      simp only [lt_cast, Nat.lt_irrefl, decide_false, ifB_false]
      exact ⟨_, rfl, rfl⟩
  obtain ⟨_, hr, rfl⟩ := key
  unfold m_auto_Auto_Outcomes
  simp only [some_bind', hr]
theorem nonempty_of {p : TProto} (h : (W p).1 = 0) : ∀ (k : Nat) (m : TMove), p.f2[k]? = some m → 0 < m.f2.length := by
  unfold W at h
  by_cases hc : p.f1.length < 1 ∨ 16 < p.f1.length
  · rw [if_pos hc] at h; cases h
  · rw [if_neg hc] at h
    cases hd : fst p.f1.length (dup p.f1.length (nmS p)) with
    | some i => rw [hd] at h; cases h
    | none =>
      rw [hd] at h
      cases hu : fst p.f2.length (unfitK p) with
      | some i => rw [hu] at h; cases h
      | none =>
        intro k m hm
        have := fst_none.1 hu k (List.getElem?_eq_some_iff.1 hm).1
        unfold unfitK at this
        rw [hm] at this
        simp only [Bool.not_eq_false'] at this
        unfold fitS at this
        cases hq : fst m.f2.length (badOut p m) with
        | some i => rw [hq] at this; cases this
        | none =>
          rw [hq] at this
          simp only [Bool.and_eq_true, decide_eq_true_eq] at this
          omega
theorem dbl {q : Nat} {b : Bool} {j : Nat} : (2 * q + b.toNat).testBit j = match j with | 0 => b | j + 1 => q.testBit j := by
  cases j with
  | zero => rw [Nat.testBit_zero]; cases b <;> simp <;> omega
  | succ j =>
    rw [Nat.testBit_succ]
    have : (2 * q + b.toNat) / 2 = q := by cases b <;> simp <;> omega
    rw [this]
def allTo (l : List TOut) (i : Int) (n : Nat) : Bool := (List.range n).all fun k => match l[k]? with | some o => decide (o.f1 = i) | none => true
theorem allTo_succ {l : List TOut} {i : Int} {n : Nat} (h : n < l.length) : allTo l i (n + 1) = (allTo l i n && decide ((l[n]).f1 = i)) := by
  unfold allTo
  rw [List.range_succ, List.all_append]
  simp [h]
theorem allTo_iff {l : List TOut} {i : Int} : allTo l i l.length = true ↔ ∀ (k : Nat) (o : TOut), l[k]? = some o → o.f1 = i := by
  unfold allTo
  rw [List.all_eq_true]
  constructor
  · intro h k o ho
    have := h k (List.mem_range.2 (List.getElem?_eq_some_iff.1 ho).1)
    rw [ho] at this
    simpa using this
  · intro h k hk
    cases ho : l[k]? with
    | none => rfl
    | some o => simp [h k o ho]
theorem set_L1 {l : List TOut} (h : l.length ≤ 80) {i : Int} {b : Bool} : loopO (m_ref09_Set_L1 l i) (b, 0) = some (b && allTo l i l.length) := by
  have key : ∃ r, loopO (m_ref09_Set_L1 l i) (b, 0) = some r ∧ r = (b && allTo l i l.length) := by
    refine loopO_count l.length (fun n st => st.2 = (n : Int) ∧ st.1 = (b && allTo l i n)) _ ?_ ?_ ⟨rfl, by simp [allTo]⟩
    · rintro n ⟨v, w⟩ hk ⟨rfl, rfl⟩
      left
      unfold m_ref09_Set_L1
      simp only [lt_cast, decide_eq_true hk, ifB_true, gi_of hk, some_bind']
      rw [wrap_succ (by omega), allTo_succ hk]
      refine ⟨((b && (allTo l i n && decide ((l[n]).f1 = i))), ((n + 1 : Nat) : Int)), ?_, rfl, rfl⟩
      cases b <;> cases allTo l i n <;> rfl
    · rintro ⟨v, w⟩ ⟨rfl, rfl⟩
      unfold m_ref09_Set_L1
      simp only [lt_cast, Nat.lt_irrefl, decide_false, ifB_false]
      exact ⟨_, rfl, rfl⟩
  obtain ⟨_, hr, rfl⟩ := key
  exact hr
theorem outsOf_len {p : TProto} (sm : Sm p) (i : Int) (op : ByteArray) : (outsOf p i op).length ≤ 80 := by
  unfold outsOf
  cases fst p.f2.length (outK p i op) with
  | none => exact Nat.zero_le _
  | some k =>
    dsimp only
    cases h : p.f2[k]? with
    | none => exact Nat.zero_le _
    | some m =>
      obtain ⟨h1, rfl⟩ := List.getElem?_eq_some_iff.1 h
      exact sm.c k h1
/-- Is a state so? -/
def SetB (p : TProto) (w : Nat) (op : ByteArray) (i : Nat) : Bool := (decide (w = 0) && finB p i) || (decide (w = 1) && decide (0 < ((outsOf p (i : Int) op).length : Int))) || (decide (w = 2) && (decide (0 < ((outsOf p (i : Int) op).length : Int)) && allTo (outsOf p (i : Int) op) (i : Int) (outsOf p (i : Int) op).length))
theorem set_ref {p : TProto} (sm : Sm p) (hn : p.f1.length ≤ 16) (w : Nat) (hw : w ≤ 2) (op : ByteArray) : ∃ s : Nat, m_ref09_Set p (w : Int) op = some (s : Int) ∧ ∀ j, s.testBit j = (decide (j < p.f1.length) && SetB p w op j) := by
  have key : ∃ r, loopO (m_ref09_Set_L0 p op (w : Int)) (0, IntKind.wrap .i64 ((p.f1.length : Int) - 1)) = some r ∧ ∃ s : Nat, r = (s : Int) ∧ ∀ j, s.testBit j = (decide (j < p.f1.length) && SetB p w op j) := by
    refine loopO_count p.f1.length (fun n st => st.2 = (p.f1.length : Int) - 1 - n ∧ n ≤ p.f1.length ∧ ∃ q : Nat, st.1 = (q : Int) ∧ q < 2 ^ n ∧ ∀ j, q.testBit j = (decide (j < n) && SetB p w op (p.f1.length - n + j))) _ ?_ ?_ ⟨(by rw [show ((0 : Nat) : Int) = 0 from rfl, Int.sub_zero]; exact wrap_i64 (x := (p.f1.length : Int) - 1) (by omega) (by omega)), Nat.zero_le _, 0, rfl, by decide, by simp⟩
    · rintro n ⟨v, x⟩ hk ⟨rfl, _, q, rfl, hq, hb⟩
      left
      obtain ⟨i, hi⟩ : ∃ i : Nat, i = p.f1.length - 1 - n := ⟨_, rfl⟩
      have ei : (p.f1.length : Int) - 1 - n = (i : Int) := by omega
      have hil : i < p.f1.length := by omega
      have hpow : 2 ^ (n + 1) ≤ 2 ^ 16 := Nat.pow_le_pow_right (by decide) (by omega)
      have hqs : q < 65536 := Nat.lt_of_lt_of_le hq (Nat.le_trans (Nat.pow_le_pow_right (by decide) (Nat.le_succ n)) hpow)
      rw [ei]
      have hol := outsOf_len sm (i : Int) op
      unfold m_ref09_Set_L0
      dsimp only
      rw [decide_eq_true (show (0 : Int) ≤ (i : Int) by omega), ifB_true, outs_ref sm]
      simp only [some_bind', set_L1 hol, gi_of hil]
      have hf : finB p i = (p.f1[i]).f1 := by unfold finB; rw [List.getElem?_eq_getElem hil]
      have hcond : (ifB (decide ((w : Int) = 0)) (ifB (p.f1[i]).f1 (some (true)) (ifB (decide ((w : Int) = 1)) (ifB (decide (0 < ((outsOf p (i : Int) op).length : Int))) (some (true)) (ifB (decide ((w : Int) = 2)) (some (decide (0 < ((outsOf p (i : Int) op).length : Int)) && allTo (outsOf p (i : Int) op) (i : Int) (outsOf p (i : Int) op).length)) (some (false)))) (ifB (decide ((w : Int) = 2)) (some (decide (0 < ((outsOf p (i : Int) op).length : Int)) && allTo (outsOf p (i : Int) op) (i : Int) (outsOf p (i : Int) op).length)) (some (false))))) (ifB (decide ((w : Int) = 1)) (ifB (decide (0 < ((outsOf p (i : Int) op).length : Int))) (some (true)) (ifB (decide ((w : Int) = 2)) (some (decide (0 < ((outsOf p (i : Int) op).length : Int)) && allTo (outsOf p (i : Int) op) (i : Int) (outsOf p (i : Int) op).length)) (some (false)))) (ifB (decide ((w : Int) = 2)) (some (decide (0 < ((outsOf p (i : Int) op).length : Int)) && allTo (outsOf p (i : Int) op) (i : Int) (outsOf p (i : Int) op).length)) (some (false)))) : Option Bool) = some (SetB p w op i) := by
        unfold SetB
        rw [hf]
        generalize (p.f1[i]).f1 = x
        generalize decide (0 < ((outsOf p (i : Int) op).length : Int)) = y
        generalize allTo (outsOf p (i : Int) op) (i : Int) (outsOf p (i : Int) op).length = z
        have : w = 0 ∨ w = 1 ∨ w = 2 := by omega
        rcases this with rfl | rfl | rfl <;> cases x <;> cases y <;> cases z <;> rfl
      rw [hcond]
      simp only [some_bind']
      have hw : (ifB (SetB p w op i) (some (IntKind.wrap .u32 ((IntKind.wrap .u32 ((q : Int) * 2)) + 1))) (some (IntKind.wrap .u32 ((q : Int) * 2))) : Option Int) = some ((2 * q + (SetB p w op i).toNat : Nat) : Int) := by
        rw [IntKind.wrap_u32, IntKind.wrap_u32]
        cases SetB p w op i <;> simp <;> omega
      rw [hw]
      refine ⟨_, rfl, ?_, by omega, _, rfl, ?_, fun j => ?_⟩
      · dsimp only
        rw [wrap_i64 (by omega) (by omega)]
        omega
      · rw [Nat.pow_succ]
        have : (SetB p w op i).toNat ≤ 1 := Bool.toNat_le _
        omega
      · rw [dbl]
        cases j with
        | zero =>
          dsimp only
          rw [show p.f1.length - (n + 1) + 0 = i from by omega]
          simp
        | succ j =>
          dsimp only
          rw [hb]
          by_cases e : j < n
          · rw [decide_eq_true e, decide_eq_true (by omega), show p.f1.length - (n + 1) + (j + 1) = p.f1.length - n + j from by omega]
          · rw [decide_eq_false e, decide_eq_false (by omega)]; rfl
    · rintro ⟨v, x⟩ ⟨rfl, _, q, rfl, hq, hb⟩
      unfold m_ref09_Set_L0
      dsimp only
      rw [decide_eq_false (by omega)]
      refine ⟨_, rfl, q, rfl, fun j => ?_⟩
      rw [hb, Nat.sub_self, Nat.zero_add]
  obtain ⟨_, hr, s, rfl, h1⟩ := key
  refine ⟨s, ?_, h1⟩
  unfold m_ref09_Set
  simp only [some_bind', hr]
theorem outs_auto {p : TProto} (sm : Sm p) (i : Int) (op : ByteArray) : m_auto_Auto_Outs (some ⟨p⟩) i op = some (outsOf p i op) := by
  have hb := sm.b
  unfold m_auto_Auto_Outs outsOf
  simp only [some_bind']
  rw [show ((0 : Int)) = ((0 : Nat) : Int) from rfl, loopO_first (b := m_auto_Auto_Outs_L0 (⟨p⟩ : TAuto_Auto) i op) (fun i : Nat => (i : Int)) p.f2.length (outK p i op) (fun k => match p.f2[k]? with | some m => m.f2 | none => []) () ?_ ?_]
  · cases fst p.f2.length (outK p i op) <;> rfl
  · intro k hk _
    unfold m_auto_Auto_Outs_L0 outK
    simp only [lt_cast, decide_eq_true hk, ifB_true, gi_of hk, some_bind', List.getElem?_eq_getElem hk, clone_out (sm.c k hk)]
    rw [wrap_succ (by omega)]
    cases decide ((p.f2[k]).f1 = i) <;> cases decide ((p.f2[k]).f0 = op) <;> rfl
  · intro _
    unfold m_auto_Auto_Outs_L0
    simp only [lt_cast, Nat.lt_irrefl, decide_false, ifB_false]
def nameP (p : TProto) (x : ByteArray) (i : Nat) : Bool := match p.f1[i]? with | some s => decide (s.f0 = x) | none => false
theorem state_auto {p : TProto} (hn : p.f1.length ≤ 16) (x : ByteArray) : m_auto_Auto_State (some ⟨p⟩) x = some (match fst p.f1.length (nameP p x) with | some i => ((i : Int), true) | none => (0, false)) := by
  unfold m_auto_Auto_State m_slices_IndexFunc_api_State
  simp only [some_bind']
  rw [show ((0 : Int)) = ((0 : Nat) : Int) from rfl, loopO_first (fun i : Nat => (i : Int)) p.f1.length (nameP p x) (fun i => (i : Int)) () ?_ ?_]
  · cases fst p.f1.length _ with
    | none => rfl
    | some i =>
      simp only [some_bind']
      rw [if_neg (by omega), decide_eq_true (by omega)]
  · intro i hi _
    unfold m_slices_IndexFunc_api_State_L0 m_auto_Auto_State_1 nameP
    simp only [lt_cast, decide_eq_true hi, ifB_true, gi_of hi, some_bind', List.getElem?_eq_getElem hi]
    rw [wrap_succ (by omega)]
    cases decide ((p.f1[i]).f0 = x) <;> rfl
  · intro _
    unfold m_slices_IndexFunc_api_State_L0
    simp only [lt_cast, Nat.lt_irrefl, decide_false, ifB_false]
theorem texts_self {l : List ByteArray} (h : l.length ≤ 6400) : m_ref09_Texts l l = some true := by
  unfold m_ref09_Texts
  rw [decide_eq_true rfl]
  simp only [Bool.not_true, ifB_false]
  rw [show ((0 : Int)) = ((0 : Nat) : Int) from rfl, loopO_first (b := m_ref09_Texts_L0 l l) (fun i : Nat => (i : Int)) l.length (fun _ => false) (fun _ => false) () ?_ ?_]
  · rw [show fst l.length (fun _ => false) = none from fst_none.2 fun _ _ => rfl]
    rfl
  · intro i hi _
    unfold m_ref09_Texts_L0
    simp only [lt_cast, decide_eq_true hi, ifB_true, gi_of hi, some_bind', decide_true, Bool.not_true, ifB_false]
    rw [wrap_succ (by omega)]
    rfl
  · intro _
    unfold m_ref09_Texts_L0
    simp only [lt_cast, Nat.lt_irrefl, decide_false, ifB_false]
theorem outcomes_ref_L1 {p : TProto} {k : Nat} (hk : k < p.f2.length) (h : (p.f2[k]).f2.length ≤ 80) {op : ByteArray} {l0 : List ByteArray} (hl0 : l0.length ≤ 6400) : loopO (m_ref09_Outcomes_L1 p (k : Int) op) (l0, 0) = some (if (p.f2[k]).f0 = op then outcM p.f2[k] (p.f2[k]).f2.length l0 else l0) := by
  by_cases e : (p.f2[k]).f0 = op
  · have key : ∃ r, loopO (m_ref09_Outcomes_L1 p (k : Int) op) (l0, 0) = some r ∧ r = (if (p.f2[k]).f0 = op then outcM p.f2[k] (p.f2[k]).f2.length l0 else l0) := by
      rw [if_pos e]
      refine loopO_count (p.f2[k]).f2.length (fun n st => st.2 = (n : Int) ∧ st.1 = outcM p.f2[k] n l0) _ ?_ ?_ ⟨rfl, rfl⟩
      · rintro n ⟨v, w⟩ hn ⟨rfl, rfl⟩
        left
        have hl := outcM_len (m := p.f2[k]) (l0 := l0) n (by omega)
        obtain ⟨b, hb⟩ := add_ref (l := outcM p.f2[k] n l0) (s := ((p.f2[k]).f2[n]).f0) (by omega)
        unfold m_ref09_Outcomes_L1
        dsimp only
        simp only [gi_of hk, some_bind', lt_cast, decide_eq_true hn, decide_eq_true e, ifB_true, gi_of hn, hb]
        rw [wrap_succ (by omega)]
        exact ⟨_, rfl, rfl, (outcM_succ hn).symm⟩
      · rintro ⟨v, w⟩ ⟨rfl, rfl⟩
        unfold m_ref09_Outcomes_L1
        simp only [gi_of hk, some_bind', lt_cast, Nat.lt_irrefl, decide_false, ifB_false]
        exact ⟨_, rfl, rfl⟩
    obtain ⟨_, hr, rfl⟩ := key
    exact hr
  · rw [if_neg e]
    refine loopO_inr ?_
    unfold m_ref09_Outcomes_L1
    dsimp only
    simp only [gi_of hk, some_bind', decide_eq_false e]
    cases decide ((0 : Int) < ((p.f2[k]).f2.length : Int)) <;> rfl
theorem outcomes_ref {p : TProto} (sm : Sm p) (op : ByteArray) : m_ref09_Outcomes p op = some (outcOf p op p.f2.length) := by
  have hb := sm.b
  have key : ∃ r, loopO (m_ref09_Outcomes_L0 p op) ([], 0) = some r ∧ r = outcOf p op p.f2.length := by
    refine loopO_count p.f2.length (fun n st => st.2 = (n : Int) ∧ st.1 = outcOf p op n) _ ?_ ?_ ⟨rfl, rfl⟩
    · rintro n ⟨v, w⟩ hk ⟨rfl, rfl⟩
      left
      have hl := outcOf_len sm (op := op) n (by omega)
      unfold m_ref09_Outcomes_L0
      dsimp only
      simp only [lt_cast, decide_eq_true hk, ifB_true, some_bind', outcomes_ref_L1 hk (sm.c n hk) (show (outcOf p op n).length ≤ 6400 by omega)]
      rw [wrap_succ (by omega)]
      exact ⟨_, rfl, rfl, (outcOf_succ hk).symm⟩
    · rintro ⟨v, w⟩ ⟨rfl, rfl⟩
      unfold m_ref09_Outcomes_L0
      simp only [lt_cast, Nat.lt_irrefl, decide_false, ifB_false]
      exact ⟨_, rfl, rfl⟩
  obtain ⟨_, hr, rfl⟩ := key
  unfold m_ref09_Outcomes
  simp only [some_bind', hr]
end Go.E
