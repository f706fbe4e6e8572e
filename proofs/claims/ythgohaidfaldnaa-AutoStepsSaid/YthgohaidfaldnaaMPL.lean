import Derived.Test.YthgohaidfaldnaaMPK
/-! Auto, plain: Step, whole. -/
set_option linter.all false
set_option maxRecDepth 10000
namespace Go.E
open Go Go.Proofs Go.Eng
theorem step_auto {p : TProto} (hf : Fits p) (hn : p.f1.length ≤ 16) (sm : Sm p) {s : Nat} (hs : s < 4294967296) (op oc : ByteArray) :
    ∃ t : Nat, m_auto_Auto_Step (some ⟨p⟩) (s : Int) op oc = some (t : Int) ∧ t < 4294967296 ∧ ∀ j, t.testBit j = true ↔ StepTo p s op oc j := by
  have hb := sm.b
  have key : ∃ r, loopO (m_auto_Auto_Step_L0 (⟨p⟩ : TAuto_Auto) op (s : Int) oc) (0, 0) = some r ∧ ∃ t : Nat, r = (t : Int) ∧ t < 4294967296 ∧ ∀ j, t.testBit j = true ↔ StepTo p s op oc j := by
    refine loopO_count p.f2.length (fun n st => st.2 = (n : Int) ∧ ∃ q : Nat, st.1 = (q : Int) ∧ q < 4294967296 ∧ ∀ j, q.testBit j = true ↔ ∃ k l i, k < n ∧ EdgeN p op oc k l i j ∧ s.testBit i = true) _ ?_ ?_
      ⟨rfl, 0, rfl, by decide, fun j => ⟨fun h => by simp at h, fun ⟨k, l, i, h, _⟩ => absurd h (Nat.not_lt_zero _)⟩⟩
    · rintro n ⟨v, w⟩ hk ⟨rfl, q, rfl, hq, hbit⟩
      left
      have hm := List.getElem?_eq_getElem hk
      obtain ⟨⟨a, ha, han⟩, _⟩ := hf n p.f2[n] hm
      unfold m_auto_Auto_Step_L0
      simp only [lt_cast, decide_eq_true hk, ifB_true, gi_of hk, some_bind', ha]
      rw [wrap_succ (by omega), rq_true (decide_eq_true (show (0 : Int) ≤ (a : Int) by omega)), shr_bit hs (by omega)]
      simp only [some_bind']
      by_cases e : (p.f2[n]).f0 = op ∧ s.testBit a = true
      · obtain ⟨e1, e2⟩ := e
        rw [decide_eq_true e1, e2]
        simp only [Bool.not_true, ifB_false, some_bind']
        obtain ⟨r, hr, hrl, hrb⟩ := step_L1 hf hn hm (sm.c n hk) oc hq
        rw [hr]
        refine ⟨_, rfl, rfl, r, rfl, hrl, fun j => ?_⟩
        rw [hrb, hbit]
        constructor
        · rintro (⟨k, l, i, h1, h2, h3⟩ | ⟨l, o, h1, h2, h3⟩)
          · exact ⟨k, l, i, by omega, h2, h3⟩
          · exact ⟨n, l, a, by omega, ⟨_, o, hm, h1, e1, h2, ha, h3⟩, e2⟩
        · rintro ⟨k, l, i, h1, h2, h3⟩
          by_cases ek : k = n
          · subst ek
            obtain ⟨m', o, g1, g2, g3, g4, g5, g6⟩ := h2
            rw [hm] at g1; cases g1
            exact .inr ⟨l, o, g2, g4, g6⟩
          · exact .inl ⟨k, l, i, by omega, h2, h3⟩
      · have hskip : (ifB (!decide ((p.f2[n]).f0 = op)) (some true) (some (!s.testBit a)) : Option Bool) = some true := by
          by_cases e1 : (p.f2[n]).f0 = op
          · rw [decide_eq_true e1]
            have : s.testBit a = false := by
              cases h : s.testBit a with
              | false => rfl
              | true => exact absurd ⟨e1, h⟩ e
            rw [this]; rfl
          · rw [decide_eq_false e1]; rfl
        rw [hskip]
        refine ⟨_, rfl, rfl, q, rfl, hq, fun j => ?_⟩
        rw [hbit]
        constructor
        · rintro ⟨k, l, i, h1, h2, h3⟩
          exact ⟨k, l, i, by omega, h2, h3⟩
        · rintro ⟨k, l, i, h1, h2, h3⟩
          by_cases ek : k = n
          · subst ek
            obtain ⟨m', o, g1, g2, g3, g4, g5, g6⟩ := h2
            rw [hm] at g1; cases g1
            rw [ha] at g5
            have : i = a := by omega
            subst this
            exact absurd ⟨g3, h3⟩ e
          · exact ⟨k, l, i, by omega, h2, h3⟩
    · rintro ⟨v, w⟩ ⟨rfl, q, rfl, hq, hbit⟩
      unfold m_auto_Auto_Step_L0
      simp only [lt_cast, Nat.lt_irrefl, decide_false, ifB_false]
      refine ⟨_, rfl, q, rfl, hq, fun j => ?_⟩
      rw [hbit]
      constructor
      · rintro ⟨k, l, i, h1, h2, h3⟩
        exact ⟨k, l, i, h2, h3⟩
      · rintro ⟨k, l, i, h2, h3⟩
        obtain ⟨m', o, g1, _⟩ := id h2
        exact ⟨k, l, i, (List.getElem?_eq_some_iff.1 g1).1, h2, h3⟩
  obtain ⟨_, hr, t, rfl, h1, h2⟩ := key
  refine ⟨t, ?_, h1, h2⟩
  unfold m_auto_Auto_Step
  simp only [some_bind', hr]
end Go.E
