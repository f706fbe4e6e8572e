import Derived.Test.YthgohaidfaldnaaMPC
/-! Auto, plain: the fixpoint is what reaches. -/
set_option linter.all false
set_option maxRecDepth 10000
namespace Go.E
open Go Go.Proofs Go.Eng
theorem ends_L1 {p : TProto} (hf : Fits p) (hn : p.f1.length ≤ 16) (sm : Sm p) {s : Nat} (hs : s < 4294967296) (hso : ∀ i, s.testBit i = true → Reach p i) :
    ∃ r, loopO (m_auto_ends_L1 p) ((s : Int), false, 0) = some r ∧ ∃ t : Nat, r.1 = (t : Int) ∧ EI p s t r.2 fun _ _ => True := by
  refine loopO_count p.f2.length (fun k st => st.2.2 = (k : Int) ∧ ∃ t : Nat, st.1 = (t : Int) ∧ EI p s t st.2.1 fun k' _ => k' < k) _ ?_ ?_ ⟨rfl, s, rfl, ⟨hs, Nat.le_refl _, fun _ h => h, hso, fun _ => ⟨rfl, fun k l hd => absurd hd (Nat.not_lt_zero _)⟩, fun e => (by cases e)⟩⟩
  · rintro k ⟨v, f, w⟩ hk ⟨rfl, t, rfl, hi⟩
    left
    obtain ⟨⟨v2, f2⟩, hr, t2, rfl, hi2⟩ := ends_L2 hf hn (List.getElem?_eq_getElem hk) (sm.c k hk) hi
    have hkb := sm.b
    unfold m_auto_ends_L1
    simp only [lt_cast, decide_eq_true hk, ifB_true, gi_of hk, some_bind', hr]
    rw [wrap_succ (by omega)]
    exact ⟨_, rfl, rfl, t2, rfl, hi2⟩
  · rintro ⟨v, f, w⟩ ⟨rfl, t, rfl, hi⟩
    unfold m_auto_ends_L1
    simp only [lt_cast, Nat.lt_irrefl, decide_false, ifB_false]
    refine ⟨_, rfl, t, rfl, hi.lt, hi.le, hi.sub, hi.sound, fun e => ⟨(hi.no e).1, fun k l _ => ?_⟩, hi.yes⟩
    by_cases hk : k < p.f2.length
    · exact (hi.no e).2 k l hk
    · rintro i j ⟨m, o, h1, _⟩
      exact absurd (List.getElem?_eq_some_iff.1 h1).1 hk
theorem ends_auto {p : TProto} (hf : Fits p) (hn : p.f1.length ≤ 16) (sm : Sm p) : ∃ s : Nat, m_auto_ends p = some (s : Int) ∧ s < 4294967296 ∧ ∀ i, s.testBit i = true ↔ Reach p i := by
  obtain ⟨s0, h0, hlt0, hb0⟩ := finals_auto hn
  have key : ∃ r, loopO (m_auto_ends_L0 p) ((s0 : Int), true) = some r ∧ ∃ s : Nat, r = (s : Int) ∧ s < 4294967296 ∧ ∀ i, s.testBit i = true ↔ Reach p i := by
    refine loopO_total (fun st => ∃ s : Nat, st.1 = (s : Int) ∧ s < 4294967296 ∧ (∀ i, s.testBit i = true → Reach p i) ∧ (∀ i, finB p i = true → s.testBit i = true) ∧ (st.2 = false → ∀ k l, Ok p s k l))
      (fun st => 2 * (4294967296 - st.1.toNat) + (if st.2 then 1 else 0)) _ ?_ _ ⟨s0, rfl, hlt0, fun i h => .fin (by rw [← hb0]; exact h), fun i h => by rw [hb0]; exact h, fun e => (by cases e)⟩
    rintro ⟨v, f⟩ ⟨s, rfl, hlt, hso, hfi, hcl⟩
    cases f with
    | true =>
      left
      obtain ⟨⟨v2, f2⟩, hr, t, rfl, hi⟩ := ends_L1 hf hn sm hlt hso
      refine ⟨((t : Int), f2), ?_, ⟨t, rfl, hi.lt, hi.sound, fun i h => hi.sub i (hfi i h), fun e k l => (hi.no e).2 k l trivial⟩, ?_⟩
      · unfold m_auto_ends_L0
        simp only [ifB_true, hr]
        rfl
      · have h1 := hi.lt
        cases f2 with
        | false =>
          obtain ⟨rfl, _⟩ := hi.no rfl
          simp
        | true =>
          have := hi.yes rfl
          simp
          omega
    | false =>
      right
      refine ⟨(s : Int), by unfold m_auto_ends_L0; simp only [ifB_false], s, rfl, hlt, fun i => ⟨hso i, fun h => ?_⟩⟩
      induction h with
      | fin h => exact hfi _ h
      | step he _ ih => exact hcl rfl _ _ _ _ he ih
  obtain ⟨r, hr, s, rfl, h1, h2⟩ := key
  refine ⟨s, ?_, h1, h2⟩
  unfold m_auto_ends
  rw [h0]
  simp only [some_bind']
  rw [hr]
  rfl
end Go.E
