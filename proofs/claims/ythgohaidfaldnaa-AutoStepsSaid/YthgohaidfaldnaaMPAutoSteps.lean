import Derived.Test.YthgohaidfaldnaaMPO
set_option linter.all false
set_option maxRecDepth 10000
namespace Go.E
open Go Go.Proofs Go.Eng
theorem u32_nat {a : Int} (h : (Lit.int .u32 a).wf = true) : ∃ s : Nat, a = (s : Int) ∧ s < 4294967296 := by
  simp [Lit.wf, IntKind.min, IntKind.max, IntKind.signed, IntKind.bits] at h
  exact ⟨a.toNat, by omega, by omega⟩
theorem or_u32 {s t : Nat} (hs : s < 4294967296) (ht : t < 4294967296) : orI .u32 (s : Int) (t : Int) = ((s ||| t : Nat) : Int) ∧ s ||| t < 4294967296 := by
  have h3 : s ||| t < 2 ^ 32 := Nat.or_lt_two_pow (by omega) (by omega)
  refine ⟨?_, by omega⟩
  unfold orI
  rw [ofInt_nat, ofInt_nat, BitVec.toNat_or, BitVec.toNat_ofNat, BitVec.toNat_ofNat]
  simp only [IntKind.bits]
  rw [Nat.mod_eq_of_lt (show s < 2 ^ 32 by omega), Nat.mod_eq_of_lt (show t < 2 ^ 32 by omega), IntKind.wrap_u32]
  omega
theorem steps_L1 {p : TProto} (sm : Sm p) (h0 : (W p).1 = 0) {s t : Nat} (hs : s < 4294967296) (ht : t < 4294967296) {k : Nat} {m : TMove} (hm : p.f2[k]? = some m) (hl : m.f2.length ≤ 80) :
    loopO (m_law09_AutoSteps_L1 m (some ⟨p⟩, 0) (s : Int) (t : Int) p) 0 = some (.inl ()) := by
  obtain ⟨hn, hn1, hf, ho, hend, hre, _⟩ := good_of h0
  rw [show ((0 : Int)) = ((0 : Nat) : Int) from rfl, loopO_first (b := m_law09_AutoSteps_L1 m (some ⟨p⟩, ((0 : Nat) : Int)) (s : Int) (t : Int) p) (fun i : Nat => (i : Int)) m.f2.length (fun _ => false) (fun _ => false) () ?_ ?_]
  · rw [show fst m.f2.length (fun _ => false) = none from fst_none.2 fun _ _ => rfl]
  · intro l hll _
    obtain ⟨⟨a, ha, han⟩, hto⟩ := hf k m hm
    obtain ⟨b, hb, hbn⟩ := hto l m.f2[l] (List.getElem?_eq_getElem hll)
    obtain ⟨x, hx, hxl, hxb⟩ := step_auto hf hn sm hs m.f0 (m.f2[l]).f0
    obtain ⟨y, hy, hyl, hyb⟩ := step_auto hf hn sm ht m.f0 (m.f2[l]).f0
    obtain ⟨z, hz, hzl, hzb⟩ := step_ref hf ho hn sm hs m.f0 (m.f2[l]).f0
    obtain ⟨hor, horl⟩ := or_u32 hs ht
    obtain ⟨hor2, _⟩ := or_u32 hxl hyl
    obtain ⟨u, hu, hul, hub⟩ := step_auto hf hn sm horl m.f0 (m.f2[l]).f0
    obtain ⟨f, hf1, hfl, hfb⟩ := finals_auto hn
    obtain ⟨v, hv, hvl, hvb⟩ := step_auto hf hn sm hfl m.f0 (m.f2[l]).f0
    have e1 : x = z := bits_eq hxb hzb
    have e2 : u = x ||| y := bits_eq hub fun j => by
      rw [Nat.testBit_or, Bool.or_eq_true, hxb, hyb]
      constructor
      · rintro (⟨k, l, i, h1, h2⟩ | ⟨k, l, i, h1, h2⟩)
        · exact ⟨k, l, i, h1, by rw [Nat.testBit_or, h2]; rfl⟩
        · exact ⟨k, l, i, h1, by rw [Nat.testBit_or, h2, Bool.or_true]⟩
      · rintro ⟨k, l, i, h1, h2⟩
        rw [Nat.testBit_or, Bool.or_eq_true] at h2
        exact h2.elim (fun h => .inl ⟨k, l, i, h1, h⟩) fun h => .inr ⟨k, l, i, h1, h⟩
    have e3 : v = 0 := by
      refine bits_eq hvb fun j => ⟨fun h => by simp at h, ?_⟩
      rintro ⟨k', l', i, ⟨m', o', g1, g2, g3, g4, g5, g6⟩, h2⟩
      rw [hfb] at h2
      have := hend k' (List.getElem?_eq_some_iff.1 g1).1
      unfold endK at this
      rw [g1] at this
      simp only [g5, Int.toNat_natCast] at this
      rw [h2] at this
      cases this
    subst e1 e2 e3
    unfold m_law09_AutoSteps_L1 m_auto_Auto_Finals
    simp only [lt_cast, decide_eq_true hll, ifB_true, gi_of hll, some_bind', hx, hy, hz, hor, hu, hor2, hf1, hv, ha, hb, decide_true, Bool.not_true, ifB_false]
    rw [wrap_succ (by omega), rq_true (decide_eq_true (show (0 : Int) ≤ (a : Int) by omega)), rq_true (decide_eq_true (show (0 : Int) ≤ (b : Int) by omega)), shr_bit1 hs (by omega), shr_bit hxl (by omega)]
    simp only [some_bind', show decide (((0 : Nat) : Int) = 0) = true from rfl, Bool.not_true, ifB_false]
    cases hsa : s.testBit a with
    | false => rfl
    | true =>
      have : x.testBit b = true := (hxb b).2 ⟨k, l, a, ⟨m, m.f2[l], hm, List.getElem?_eq_getElem hll, rfl, rfl, ha, hb⟩, hsa⟩
      rw [this]; rfl
  · intro _
    unfold m_law09_AutoSteps_L1
    simp only [lt_cast, Nat.lt_irrefl, decide_false, ifB_false]
theorem P_AutoSteps (a0 : TProto) (a1 a2 : Int) (h : okTProto a0) (h1 : (Lit.int .u32 a1).wf = true) (h2 : (Lit.int .u32 a2).wf = true) : m_law09_AutoSteps a0 a1 a2 = some true := by
  obtain ⟨b, hb, hs⟩ := small_ref h
  obtain ⟨s, rfl, hsl⟩ := u32_nat h1
  obtain ⟨t, rfl, htl⟩ := u32_nat h2
  unfold m_law09_AutoSteps
  rw [awake_tt]
  simp only [some_bind', Bool.not_true, ifB_false, hb]
  cases b with
  | false => rfl
  | true =>
    have sm := hs rfl
    simp only [Bool.not_true, ifB_false, wrong_ref sm, new_auto sm, some_bind']
    by_cases h0 : (W a0).1 = 0
    · rw [if_pos h0, decide_eq_true h0]
      simp only [Bool.not_true, ifB_false, Option.isNone_some]
      obtain ⟨hn, hn1, hf, ho, _⟩ := good_of h0
      have hbb := sm.b
      rw [show loopO (m_law09_AutoSteps_L0 a0 (some ⟨a0⟩, 0) (s : Int) (t : Int)) 0 = some (.inl ()) from by
        rw [show ((0 : Int)) = ((0 : Nat) : Int) from rfl, loopO_first (b := m_law09_AutoSteps_L0 a0 (some ⟨a0⟩, ((0 : Nat) : Int)) (s : Int) (t : Int)) (fun i : Nat => (i : Int)) a0.f2.length (fun _ => false) (fun _ => false) () ?_ ?_]
        · rw [show fst a0.f2.length (fun _ => false) = none from fst_none.2 fun _ _ => rfl]
        · intro k hk _
          unfold m_law09_AutoSteps_L0
          simp only [lt_cast, decide_eq_true hk, ifB_true, gi_of hk, some_bind']
          have := steps_L1 sm h0 hsl htl (List.getElem?_eq_getElem hk) (sm.c k hk)
          rw [show (((0 : Nat) : Int)) = (0 : Int) from rfl, this, wrap_succ (by omega)]
          rfl
        · intro _
          unfold m_law09_AutoSteps_L0
          simp only [lt_cast, Nat.lt_irrefl, decide_false, ifB_false]]
      obtain ⟨x, hx, hxl, hxb⟩ := step_auto hf hn sm hsl (⟨#[63]⟩ : ByteArray) (⟨#[63]⟩ : ByteArray)
      obtain ⟨z, hz, hzl, hzb⟩ := step_ref hf ho hn sm hsl (⟨#[63]⟩ : ByteArray) (⟨#[63]⟩ : ByteArray)
      have e1 : x = z := bits_eq hxb hzb
      subst e1
      simp only [some_bind', hx, hz, decide_true]
    · rw [if_neg h0, decide_eq_false h0]
      rfl
end Go.E
