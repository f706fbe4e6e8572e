import Derived.Test.YthgohaidfaldnaaMPL
/-! Auto, plain: the reference's Step. -/
set_option linter.all false
set_option maxRecDepth 10000
namespace Go.E
open Go Go.Proofs Go.Eng
def outK (p : TProto) (i : Int) (op : ByteArray) (k : Nat) : Bool := match p.f2[k]? with | some m => decide (m.f1 = i) && decide (m.f0 = op) | none => false
def outsOf (p : TProto) (i : Int) (op : ByteArray) : List TOut := match fst p.f2.length (outK p i op) with | some k => (match p.f2[k]? with | some m => m.f2 | none => []) | none => []
theorem outs_ref {p : TProto} (sm : Sm p) (i : Int) (op : ByteArray) : m_ref09_Outs p i op = some (outsOf p i op) := by
  have hb := sm.b
  unfold m_ref09_Outs
  rw [show ((0 : Int)) = ((0 : Nat) : Int) from rfl, loopO_first (b := m_ref09_Outs_L0 p i op) (fun i : Nat => (i : Int)) p.f2.length (outK p i op) (fun k => match p.f2[k]? with | some m => m.f2 | none => []) () ?_ ?_]
  · unfold outsOf
    cases fst p.f2.length (outK p i op) <;> rfl
  · intro k hk _
    unfold m_ref09_Outs_L0 outK
    simp only [lt_cast, decide_eq_true hk, ifB_true, gi_of hk, some_bind', List.getElem?_eq_getElem hk]
    rw [wrap_succ (by omega)]
    cases decide ((p.f2[k]).f1 = i) <;> cases decide ((p.f2[k]).f0 = op) <;> rfl
  · intro _
    unfold m_ref09_Outs_L0
    simp only [lt_cast, Nat.lt_irrefl, decide_false, ifB_false]
/-- No move twice. -/
def Once (p : TProto) : Prop := ∀ (k j : Nat) (m m' : TMove), p.f2[k]? = some m → p.f2[j]? = some m' → m.f0 = m'.f0 → m.f1 = m'.f1 → k = j
theorem once_of {p : TProto} (h : fst p.f2.length (againK p) = none) : Once p := by
  rw [fst_none] at h
  have main : ∀ (k j : Nat) (m m' : TMove), k < j → p.f2[k]? = some m → p.f2[j]? = some m' → m.f0 = m'.f0 → m.f1 = m'.f1 → False := by
    intro k j m m' hkj hk hj e0 e1
    have h1 := h j (List.getElem?_eq_some_iff.1 hj).1
    unfold againK at h1
    rw [hj] at h1
    have h1 : againM p m' j = false := h1
    unfold againM at h1
    rw [Bool.or_eq_false_iff] at h1
    have h2 : fst j (sameM p m') = none := by
      cases hq : fst j (sameM p m') with
      | none => rfl
      | some x => rw [hq] at h1; cases h1.1
    rw [fst_none] at h2
    have h3 := h2 k hkj
    unfold sameM at h3
    rw [hk] at h3
    simp [e0, e1] at h3
  intro k j m m' hk hj e0 e1
  rcases Nat.lt_trichotomy k j with h | h | h
  · exact (main k j m m' h hk hj e0 e1).elim
  · exact h
  · exact (main j k m' m h hj hk e0.symm e1.symm).elim
theorem outsOf_get {p : TProto} (ho : Once p) {i : Int} {op : ByteArray} {l : Nat} {o : TOut} : (outsOf p i op)[l]? = some o ↔ ∃ (k : Nat) (m : TMove), p.f2[k]? = some m ∧ m.f0 = op ∧ m.f1 = i ∧ m.f2[l]? = some o := by
  unfold outsOf
  cases hq : fst p.f2.length (outK p i op) with
  | none =>
    rw [fst_none] at hq
    constructor
    · intro h; simp at h
    · rintro ⟨k, m, hm, e0, e1, _⟩
      have := hq k (List.getElem?_eq_some_iff.1 hm).1
      unfold outK at this
      rw [hm] at this
      simp [e0, e1] at this
  | some k =>
    obtain ⟨h1, h2⟩ := fst_some hq
    unfold outK at h2
    rw [List.getElem?_eq_getElem h1] at h2
    simp only [Bool.and_eq_true, decide_eq_true_eq] at h2
    simp only [List.getElem?_eq_getElem h1]
    constructor
    · intro h
      exact ⟨k, _, List.getElem?_eq_getElem h1, h2.2, h2.1, h⟩
    · rintro ⟨k', m, hm, e0, e1, h⟩
      have : k' = k := ho k' k m p.f2[k] hm (List.getElem?_eq_getElem h1) (by rw [e0, h2.2]) (by rw [e1, h2.1])
      subst this
      rw [List.getElem?_eq_getElem h1] at hm
      cases hm
      exact h
end Go.E
