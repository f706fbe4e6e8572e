import Derived.Test.YthgohaidfaldnaaMQB
set_option linter.all false
set_option maxRecDepth 10000
namespace Go.E
open Go Go.Proofs Go.Eng
theorem and_zero {s t : Nat} (hs : s < 4294967296) (ht : t < 4294967296) : andI .u32 (s : Int) (t : Int) = 0 ↔ (∀ j, j < 32 → ¬ (s.testBit j = true ∧ t.testBit j = true)) := by
  rw [(and_u32 hs ht).1]
  constructor
  · intro h j _ ⟨h1, h2⟩
    have h : s &&& t = 0 := by omega
    have := Nat.testBit_and s t j
    rw [h, h1, h2] at this
    simp at this
  · intro h
    have : s &&& t = 0 := by
      apply Nat.eq_of_testBit_eq
      intro j
      rw [Nat.testBit_and, Nat.zero_testBit]
      by_cases hj : j < 32
      · have := h j hj
        cases h1 : s.testBit j <;> cases h2 : t.testBit j <;> simp_all
      · rw [Nat.testBit_lt_two_pow (x := s) (i := j) (Nat.lt_of_lt_of_le (show s < 2 ^ 32 by omega) (Nat.pow_le_pow_right (by decide) (by omega)))]
        rfl
    rw [this]; rfl
/-- Steps out of a set by operations of a list, by outcomes of a list. -/
theorem ends_law_L2 {p : TProto} (hf : Fits p) (hn : p.f1.length ≤ 16) (sm : Sm p) {s t : Nat} (hs : s < 4294967296) (ht : t < 4294967296) {op : ByteArray} {l : List ByteArray} (hl : l.length ≤ 6400) :
    ∃ u : Nat, loopO (m_law09_AutoEnds_L2 l (some ⟨p⟩, 0) (s : Int) op) ((t : Int), 0) = some (u : Int) ∧ u < 4294967296 ∧ ∀ j, u.testBit j = true ↔ t.testBit j = true ∨ ∃ oc, oc ∈ l ∧ StepTo p s op oc j := by
  have key : ∃ r, loopO (m_law09_AutoEnds_L2 l (some ⟨p⟩, 0) (s : Int) op) ((t : Int), 0) = some r ∧ ∃ u : Nat, r = (u : Int) ∧ u < 4294967296 ∧ ∀ j, u.testBit j = true ↔ t.testBit j = true ∨ ∃ oc, oc ∈ l ∧ StepTo p s op oc j := by
    refine loopO_count l.length (fun n st => st.2 = (n : Int) ∧ ∃ u : Nat, st.1 = (u : Int) ∧ u < 4294967296 ∧ ∀ j, u.testBit j = true ↔ t.testBit j = true ∨ ∃ (i : Nat) (oc : ByteArray), i < n ∧ l[i]? = some oc ∧ StepTo p s op oc j) _ ?_ ?_
      ⟨rfl, t, rfl, ht, fun j => ⟨.inl, fun h => h.elim id fun ⟨i, oc, h, _⟩ => absurd h (Nat.not_lt_zero _)⟩⟩
    · rintro n ⟨v, w⟩ hk ⟨rfl, u, rfl, hu, hub⟩
      left
      obtain ⟨x, hx, hxl, hxb⟩ := step_auto hf hn sm hs op l[n]
      obtain ⟨e1, e2⟩ := or_u32 hu hxl
      unfold m_law09_AutoEnds_L2
      simp only [lt_cast, decide_eq_true hk, ifB_true, gi_of hk, some_bind', hx, e1]
      rw [wrap_succ (by omega)]
      refine ⟨_, rfl, rfl, _, rfl, e2, fun j => ?_⟩
      rw [Nat.testBit_or, Bool.or_eq_true, hub, hxb]
      constructor
      · rintro ((h | ⟨i, oc, h1, h2⟩) | h)
        · exact .inl h
        · exact .inr ⟨i, oc, by omega, h2⟩
        · exact .inr ⟨n, _, by omega, List.getElem?_eq_getElem hk, h⟩
      · rintro (h | ⟨i, oc, h1, h2, h3⟩)
        · exact .inl (.inl h)
        · by_cases e : i = n
          · subst e
            rw [List.getElem?_eq_getElem hk] at h2; cases h2
            exact .inr h3
          · exact .inl (.inr ⟨i, oc, by omega, h2, h3⟩)
    · rintro ⟨v, w⟩ ⟨rfl, u, rfl, hu, hub⟩
      unfold m_law09_AutoEnds_L2
      simp only [lt_cast, Nat.lt_irrefl, decide_false, ifB_false]
      refine ⟨_, rfl, u, rfl, hu, fun j => ?_⟩
      rw [hub]
      constructor
      · rintro (h | ⟨i, oc, h1, h2, h3⟩)
        · exact .inl h
        · exact .inr ⟨oc, List.mem_of_getElem? h2, h3⟩
      · rintro (h | ⟨oc, h2, h3⟩)
        · exact .inl h
        · obtain ⟨i, hi, rfl⟩ := List.getElem_of_mem h2
          exact .inr ⟨i, _, hi, List.getElem?_eq_getElem hi, h3⟩
  obtain ⟨_, hr, u, rfl, h1, h2⟩ := key
  exact ⟨u, hr, h1, h2⟩
theorem ends_law_L1 {p : TProto} (sm : Sm p) (h0 : (W p).1 = 0) {s : Nat} (hs : s < 4294967296) :
    ∃ u : Nat, loopO (m_law09_AutoEnds_L1 (opsOf p p.f2.length) (some ⟨p⟩, 0) (s : Int)) ((s : Int), 0) = some (.inl (u : Int)) ∧ u < 4294967296 ∧ ∀ j, u.testBit j = true ↔ s.testBit j = true ∨ ∃ k l i, Edge p k l i j ∧ s.testBit i = true := by
  obtain ⟨hn, hn1, hf, ho, hend, hre, _⟩ := good_of h0
  have hb := sm.b
  have hlen := opsOf_len (p := p) _ (Nat.le_refl _)
  have key : ∃ r, loopO (m_law09_AutoEnds_L1 (opsOf p p.f2.length) (some ⟨p⟩, 0) (s : Int)) ((s : Int), 0) = some r ∧ ∃ u : Nat, r = .inl (u : Int) ∧ u < 4294967296 ∧ ∀ j, u.testBit j = true ↔ s.testBit j = true ∨ ∃ op oc, op ∈ opsOf p p.f2.length ∧ oc ∈ outcOf p op p.f2.length ∧ StepTo p s op oc j := by
    generalize opsOf p p.f2.length = l at *
    refine loopO_count l.length (fun n st => st.2 = (n : Int) ∧ ∃ u : Nat, st.1 = (u : Int) ∧ u < 4294967296 ∧ ∀ j, u.testBit j = true ↔ s.testBit j = true ∨ ∃ (i : Nat) (op oc : ByteArray), i < n ∧ l[i]? = some op ∧ oc ∈ outcOf p op p.f2.length ∧ StepTo p s op oc j) _ ?_ ?_
      ⟨rfl, s, rfl, hs, fun j => ⟨.inl, fun h => h.elim id fun ⟨i, op, oc, h, _⟩ => absurd h (Nat.not_lt_zero _)⟩⟩
    · rintro n ⟨v, w⟩ hk ⟨rfl, u, rfl, hu, hub⟩
      left
      have hol := outcOf_len sm (op := l[n]) p.f2.length (Nat.le_refl _)
      obtain ⟨x, hx, hxl, hxb⟩ := ends_law_L2 hf hn sm hs hu (op := l[n]) (l := outcOf p l[n] p.f2.length) (by omega)
      obtain ⟨y, hy, hyl, hyb⟩ := enabled_auto hf hn sm l[n]
      obtain ⟨f, hf1, hfl, hfb⟩ := finals_auto hn
      have hz : decide (andI .u32 (y : Int) (f : Int) = 0) = true := by
        apply decide_eq_true
        apply (and_zero hyl hfl).2
        rintro j hj ⟨h1, h2⟩
        obtain ⟨k, m, g1, g2, g3, g4⟩ := (hyb j).1 h1
        rw [hfb] at h2
        have := hend k (List.getElem?_eq_some_iff.1 g1).1
        unfold endK at this
        rw [g1] at this
        simp only [g4, Int.toNat_natCast] at this
        rw [h2] at this
        cases this
      unfold m_law09_AutoEnds_L1 m_auto_Auto_Finals
      simp only [lt_cast, decide_eq_true hk, ifB_true, gi_of hk, some_bind', outcomes_auto sm, hx, hy, hf1, hz, Bool.not_true, ifB_false]
      rw [wrap_succ (by omega)]
      refine ⟨_, rfl, rfl, _, rfl, hxl, fun j => ?_⟩
      rw [hxb, hub]
      constructor
      · rintro ((h | ⟨i, op, oc, h1, h2⟩) | ⟨oc, h1, h2⟩)
        · exact .inl h
        · exact .inr ⟨i, op, oc, by omega, h2⟩
        · exact .inr ⟨n, _, oc, by omega, List.getElem?_eq_getElem hk, h1, h2⟩
      · rintro (h | ⟨i, op, oc, h1, h2, h3, h4⟩)
        · exact .inl (.inl h)
        · by_cases e : i = n
          · subst e
            rw [List.getElem?_eq_getElem hk] at h2; cases h2
            exact .inr ⟨oc, h3, h4⟩
          · exact .inl (.inr ⟨i, op, oc, by omega, h2, h3, h4⟩)
    · rintro ⟨v, w⟩ ⟨rfl, u, rfl, hu, hub⟩
      unfold m_law09_AutoEnds_L1
      simp only [lt_cast, Nat.lt_irrefl, decide_false, ifB_false]
      refine ⟨_, rfl, u, rfl, hu, fun j => ?_⟩
      rw [hub]
      constructor
      · rintro (h | ⟨i, op, oc, h1, h2, h3, h4⟩)
        · exact .inl h
        · exact .inr ⟨op, oc, List.mem_of_getElem? h2, h3, h4⟩
      · rintro (h | ⟨op, oc, h2, h3, h4⟩)
        · exact .inl h
        · obtain ⟨i, hi, rfl⟩ := List.getElem_of_mem h2
          exact .inr ⟨i, _, oc, hi, List.getElem?_eq_getElem hi, h3, h4⟩
  obtain ⟨_, hr, u, rfl, h1, h2⟩ := key
  refine ⟨u, hr, h1, fun j => ?_⟩
  rw [h2]
  constructor
  · rintro (h | ⟨op, oc, _, _, k, l, i, ⟨m, o, g1, g2, g3, g4, g5, g6⟩, h⟩)
    · exact .inl h
    · exact .inr ⟨k, l, i, ⟨m, o, g1, g2, g5, g6⟩, h⟩
  · rintro (h | ⟨k, l, i, ⟨m, o, g1, g2, g5, g6⟩, h⟩)
    · exact .inl h
    · refine .inr ⟨m.f0, o.f0, ?_, ?_, k, l, i, ⟨m, o, g1, g2, rfl, rfl, g5, g6⟩, h⟩
      · exact (opsOf_mem _ (Nat.le_refl _)).2 ⟨k, m, (List.getElem?_eq_some_iff.1 g1).1, g1, rfl⟩
      · exact (outcOf_mem _ (Nat.le_refl _)).2 ⟨k, m, l, o, (List.getElem?_eq_some_iff.1 g1).1, g1, rfl, g2, rfl⟩
theorem P_AutoEnds (a0 : TProto) (a1 : Int) (h : okTProto a0) (h1 : (Lit.int .u8 a1).wf = true) : m_law09_AutoEnds a0 a1 = some true := by
  obtain ⟨b, hb, hs⟩ := small_ref h
  have ha : 0 ≤ a1 ∧ a1 < 256 := by
    simp [Lit.wf, IntKind.min, IntKind.max, IntKind.signed, IntKind.bits] at h1
    omega
  unfold m_law09_AutoEnds
  rw [awake_tt]
  simp only [some_bind', Bool.not_true, ifB_false, hb]
  cases b with
  | false => rfl
  | true =>
    have sm := hs rfl
    simp only [Bool.not_true, ifB_false, wrong_ref sm, new_auto sm, some_bind']
    by_cases h0 : (W a0).1 = 0
    · rw [if_pos h0, decide_eq_true h0]
      simp only [Bool.not_true, ifB_false, Option.isNone_some]
      obtain ⟨hn, hn1, hf, ho, hend, hre, _⟩ := good_of h0
      have hbb := sm.b
      obtain ⟨c, hc, hcn⟩ : ∃ c : Nat, Int.tmod (IntKind.wrap .i64 a1) (a0.f1.length : Int) = (c : Int) ∧ c < a0.f1.length := by
        rw [wrap_i64 (by omega) (by omega)]
        refine ⟨a1.toNat % a0.f1.length, ?_, Nat.mod_lt _ (by omega)⟩
        obtain ⟨n, rfl⟩ : ∃ n : Nat, a1 = (n : Int) := ⟨a1.toNat, by omega⟩
        rw [Int.tmod_eq_emod_of_nonneg (by omega), Int.toNat_natCast, Int.natCast_emod]
      have hc2 : 2 ^ c < 4294967296 := Nat.lt_of_lt_of_le (Nat.pow_lt_pow_right (by decide) (show c < 32 by omega)) (by decide)
      have key : ∃ r, loopO (m_law09_AutoEnds_L0 a0 (some ⟨a0⟩, 0) (opsOf a0 a0.f2.length)) (((2 ^ c : Nat) : Int), 0) = some r ∧ r = .inr true := by
        obtain ⟨f, hf1, hfl, hfb⟩ := finals_auto hn
        refine loopO_count (a0.f1.length + 1) (fun n st => st.2 = (n : Int) ∧ ∃ s : Nat, st.1 = (s : Int) ∧ s < 4294967296 ∧ (∀ j, s.testBit j = true → j < a0.f1.length) ∧ ∃ S : List Nat, S.Nodup ∧ (∀ x ∈ S, s.testBit x = true) ∧ S.length = n + 1) _ ?_ ?_
          ⟨rfl, 2 ^ c, rfl, hc2, fun j hj => ?_, [c], by simp, fun x hx => ?_, rfl⟩
        · rintro n ⟨v, w⟩ hk ⟨rfl, s, rfl, hsl, hsn, S, S1, S2, S3⟩
          unfold m_law09_AutoEnds_L0 m_auto_Auto_Finals
          simp only [decide_eq_true (show (n : Int) ≤ (a0.f1.length : Int) by omega), ifB_true, some_bind', hf1]
          by_cases hfin : ∀ j, j < 32 → ¬ (s.testBit j = true ∧ f.testBit j = true)
          · left
            rw [decide_eq_true ((and_zero hsl hfl).2 hfin)]
            obtain ⟨u, hu, hul, hub⟩ := ends_law_L1 sm h0 hsl
            simp only [Bool.not_true, ifB_false, hu, some_bind']
            rw [wrap_succ (by omega)]
            have hnf : ∀ x, s.testBit x = true → finB a0 x = false := fun x hx => by
              have := hfin x (by have := hsn x hx; omega)
              rw [hfb] at this
              cases hq : finB a0 x with
              | false => rfl
              | true => exact absurd ⟨hx, hq⟩ this
            have hnew : ∃ j, u.testBit j = true ∧ s.testBit j = false := by
              apply Classical.byContradiction
              intro hno
              have hcl : ∀ i j k l, s.testBit i = true → Edge a0 k l i j → s.testBit j = true := fun i j k l hi he => by
                cases hq : s.testBit j with
                | true => rfl
                | false => exact absurd ⟨j, (hub j).2 (.inr ⟨k, l, i, he, hi⟩), hq⟩ hno
              have x0 : ∃ x, s.testBit x = true := by
                cases S with
                | nil => simp at S3
                | cons x S => exact ⟨x, S2 x (List.mem_cons_self ..)⟩
              obtain ⟨x, hx⟩ := x0
              have hxr := hre x (hsn x hx)
              have := stuck_of (p := a0) (S := (List.range a0.f1.length).filter fun i => s.testBit i) hf (fun y hy => hnf y (by simpa using (List.mem_filter.1 hy).2)) (fun i j k l hi he => by
                have hi' := (List.mem_filter.1 hi).2
                have hj := hcl i j k l (by simpa using hi') he
                exact List.mem_filter.2 ⟨List.mem_range.2 (hsn j hj), by simpa using hj⟩) hxr
              exact this (List.mem_filter.2 ⟨List.mem_range.2 (hsn x hx), by simpa using hx⟩)
            obtain ⟨j, hj1, hj2⟩ := hnew
            refine ⟨_, rfl, rfl, u, rfl, hul, fun y hy => ?_, j :: S, List.nodup_cons.2 ⟨fun hm => ?_, S1⟩, fun x hx => ?_, by simp [S3]⟩
            · rcases (hub y).1 hy with h | ⟨k, l, i, ⟨m, o, g1, g2, g5, g6⟩, h⟩
              · exact hsn y h
              · obtain ⟨_, hto⟩ := hf k m g1
                obtain ⟨b, hb1, hb2⟩ := hto l o g2
                rw [g6] at hb1
                omega
            · rw [S2 j hm] at hj2; cases hj2
            · rcases List.mem_cons.1 hx with rfl | hx
              · exact hj1
              · exact (hub x).2 (.inl (S2 x hx))
          · right
            rw [decide_eq_false fun hq => hfin ((and_zero hsl hfl).1 hq)]
            exact ⟨_, rfl, rfl⟩
        · rintro ⟨v, w⟩ ⟨rfl, s, rfl, hsl, hsn, S, S1, S2, S3⟩
          have := pigeon a0.f1.length S S1 fun x hx => hsn x (S2 x hx)
          omega
        · rw [Nat.testBit_two_pow] at hj
          have := of_decide_eq_true hj
          omega
        · rw [List.mem_singleton] at hx
          rw [hx, Nat.testBit_two_pow]
          simp
      obtain ⟨_, hr, rfl⟩ := key
      rw [hc, shl_bit (by omega), rq_true (decide_eq_true (by omega)), rq_true (decide_eq_true (by omega)), ops_auto sm]
      simp only [some_bind', hr]
    · rw [if_neg h0, decide_eq_false h0]
      rfl
end Go.E
