import Derived.Test.YthgohaidfaldnaaMPN
/-! Auto, plain: both Steps are the same. -/
set_option linter.all false
set_option maxRecDepth 10000
namespace Go.E
open Go Go.Proofs Go.Eng
theorem step_ref {p : TProto} (hf : Fits p) (ho : Once p) (hn : p.f1.length ≤ 16) (sm : Sm p) {s : Nat} (hs : s < 4294967296) (op oc : ByteArray) :
    ∃ t : Nat, m_ref09_Step p (s : Int) op oc = some (t : Int) ∧ t < 4294967296 ∧ ∀ j, t.testBit j = true ↔ StepTo p s op oc j := by
  have key : ∃ r, loopO (m_ref09_Step_L0 p op (s : Int) oc) (0, 0) = some r ∧ ∃ t : Nat, r = (t : Int) ∧ t < 4294967296 ∧ ∀ j, t.testBit j = true ↔ StepTo p s op oc j := by
    refine loopO_count p.f1.length (fun n st => st.2 = (n : Int) ∧ ∃ q : Nat, st.1 = (q : Int) ∧ q < 4294967296 ∧ ∀ j, q.testBit j = true ↔ ∃ k l i, i < n ∧ EdgeN p op oc k l i j ∧ s.testBit i = true) _ ?_ ?_
      ⟨rfl, 0, rfl, by decide, fun j => ⟨fun h => by simp at h, fun ⟨k, l, i, h, _⟩ => absurd h (Nat.not_lt_zero _)⟩⟩
    · rintro n ⟨v, w⟩ hi ⟨rfl, q, rfl, hq, hb⟩
      left
      obtain ⟨r, hr, hrl, hrb⟩ := refstep_L1 hf ho hn sm hs hi op oc hq
      unfold m_ref09_Step_L0
      simp only [lt_cast, decide_eq_true hi, ifB_true, outs_ref sm, some_bind', hr]
      rw [wrap_succ (by omega)]
      refine ⟨_, rfl, rfl, r, rfl, hrl, fun j => ?_⟩
      rw [hrb, hb]
      constructor
      · rintro (⟨k, l, i, h1, h2, h3⟩ | ⟨g, l, o, h1, h2, h3⟩)
        · exact ⟨k, l, i, by omega, h2, h3⟩
        · obtain ⟨k, m, hm, e0, e1, e2⟩ := (outsOf_get ho).1 h1
          exact ⟨k, l, n, by omega, ⟨m, o, hm, e2, e0, h2, e1, h3⟩, g⟩
      · rintro ⟨k, l, i, h1, h2, h3⟩
        by_cases e : i = n
        · subst e
          obtain ⟨m, o, g1, g2, g3, g4, g5, g6⟩ := h2
          exact .inr ⟨h3, l, o, (outsOf_get ho).2 ⟨k, m, g1, g3, g5, g2⟩, g4, g6⟩
        · exact .inl ⟨k, l, i, by omega, h2, h3⟩
    · rintro ⟨v, w⟩ ⟨rfl, q, rfl, hq, hb⟩
      unfold m_ref09_Step_L0
      simp only [lt_cast, Nat.lt_irrefl, decide_false, ifB_false]
      refine ⟨_, rfl, q, rfl, hq, fun j => ?_⟩
      rw [hb]
      constructor
      · rintro ⟨k, l, i, h1, h2, h3⟩
        exact ⟨k, l, i, h2, h3⟩
      · rintro ⟨k, l, i, h2, h3⟩
        obtain ⟨m, o, g1, g2, g3, g4, g5, g6⟩ := id h2
        obtain ⟨⟨a, ha, han⟩, _⟩ := hf k m g1
        exact ⟨k, l, i, by omega, h2, h3⟩
  obtain ⟨_, hr, t, rfl, h1, h2⟩ := key
  refine ⟨t, ?_, h1, h2⟩
  unfold m_ref09_Step
  simp only [some_bind', hr]
theorem bits_eq {s t : Nat} {Q : Nat → Prop} (h1 : ∀ j, s.testBit j = true ↔ Q j) (h2 : ∀ j, t.testBit j = true ↔ Q j) : s = t := by
  apply Nat.eq_of_testBit_eq
  intro i
  have := (h1 i).trans (h2 i).symm
  cases hs : s.testBit i <;> cases ht : t.testBit i <;> simp_all
/-- What W = 0 tells. -/
theorem good_of {p : TProto} (h : (W p).1 = 0) : p.f1.length ≤ 16 ∧ 1 ≤ p.f1.length ∧ Fits p ∧ Once p ∧ (∀ k, k < p.f2.length → endK p k = false) ∧ (∀ i, i < p.f1.length → Reach p i) ∧ ∀ i, i < p.f1.length → dup p.f1.length (nmS p) i = false := by
  unfold W at h
  by_cases hc : p.f1.length < 1 ∨ 16 < p.f1.length
  · rw [if_pos hc] at h; cases h
  · rw [if_neg hc] at h
    cases hd : fst p.f1.length (dup p.f1.length (nmS p)) with
    | some i => rw [hd] at h; cases h
    | none =>
      rw [hd] at h
      cases hu : fst p.f2.length (unfitK p) with
      | some i => rw [hu] at h; cases h
      | none =>
        rw [hu] at h
        cases hg : fst p.f2.length (againK p) with
        | some i => rw [hg] at h; cases h
        | none =>
          rw [hg] at h
          cases he : fst p.f2.length (endK p) with
          | some i => rw [he] at h; cases h
          | none =>
            rw [he] at h
            cases hs : fst p.f1.length (fun i => !reachB p i) with
            | some i => rw [hs] at h; cases h
            | none =>
              refine ⟨by omega, by omega, fits_of hu, once_of hg, fst_none.1 he, fun i hi => ?_, fst_none.1 hd⟩
              have := fst_none.1 hs i hi
              apply Classical.byContradiction
              intro hr
              rw [reachB_ff hr] at this
              cases this
end Go.E
