import Derived.Test.YthgohaidfaldnaaMQB
set_option linter.all false
set_option maxRecDepth 10000
namespace Go.E
open Go Go.Proofs Go.Eng
theorem keeps_L1 {p : TProto} (sm : Sm p) (h0 : (W p).1 = 0) {s t : Nat} (hs : s < 4294967296) (ht : t < 4294967296) {k : Nat} {m : TMove} (hm : p.f2[k]? = some m) (htb : ∀ j, t.testBit j = true ↔ OfB p m.f0 keepB j) {l : List ByteArray} (hl : l.length ≤ 6400) :
    loopO (m_law09_AutoKeeps_L1 l (some ⟨p⟩, 0) (s : Int) (t : Int) m) 0 = some (.inl ()) := by
  obtain ⟨hn, hn1, hf, ho, hend, hre, _⟩ := good_of h0
  rw [show ((0 : Int)) = ((0 : Nat) : Int) from rfl, loopO_first (b := m_law09_AutoKeeps_L1 l (some ⟨p⟩, ((0 : Nat) : Int)) (s : Int) (t : Int) m) (fun i : Nat => (i : Int)) l.length (fun _ => false) (fun _ => false) () ?_ ?_]
  · rw [show fst l.length (fun _ => false) = none from fst_none.2 fun _ _ => rfl]
  · intro i hi _
    obtain ⟨e1, e2⟩ := and_u32 hs ht
    obtain ⟨x, hx, hxl, hxb⟩ := step_auto hf hn sm e2 m.f0 l[i]
    have hz := andNot_zero hxl e2 fun j hj => by
      obtain ⟨k', l', i', ⟨m', o', g1, g2, g3, g4, g5, g6⟩, h2⟩ := (hxb j).1 hj
      have h2' := h2
      rw [Nat.testBit_and, Bool.and_eq_true] at h2'
      obtain ⟨k2, m2, q1, q2, q3, q4⟩ := (htb i').1 h2'.2
      have hk : k' = k2 := ho k' k2 m' m2 g1 q1 (by rw [g3, q2]) (by rw [g5, q4])
      subst hk
      rw [g1] at q1; cases q1
      have := keepB_iff.1 q3 l' o' g2
      rw [g6, g5] at this
      have : j = i' := by omega
      rw [this]; exact h2
    unfold m_law09_AutoKeeps_L1
    simp only [lt_cast, decide_eq_true hi, ifB_true, gi_of hi, some_bind', e1, hx, hz, Bool.not_true, ifB_false]
    rw [wrap_succ (by omega)]
    rfl
  · intro _
    unfold m_law09_AutoKeeps_L1
    simp only [lt_cast, Nat.lt_irrefl, decide_false, ifB_false]
theorem P_AutoKeeps (a0 : TProto) (a1 : Int) (h : okTProto a0) (h1 : (Lit.int .u32 a1).wf = true) : m_law09_AutoKeeps a0 a1 = some true := by
  obtain ⟨b, hb, hs⟩ := small_ref h
  obtain ⟨s, rfl, hsl⟩ := u32_nat h1
  unfold m_law09_AutoKeeps
  rw [awake_tt]
  simp only [some_bind', Bool.not_true, ifB_false, hb]
  cases b with
  | false => rfl
  | true =>
    have sm := hs rfl
    simp only [Bool.not_true, ifB_false, wrong_ref sm, new_auto sm, some_bind']
    by_cases h0 : (W a0).1 = 0
    · rw [if_pos h0, decide_eq_true h0]
      simp only [Bool.not_true, ifB_false, Option.isNone_some]
      obtain ⟨hn, hn1, hf, ho, _⟩ := good_of h0
      have hbb := sm.b
      rw [show loopO (m_law09_AutoKeeps_L0 a0 (some ⟨a0⟩, 0) (s : Int)) 0 = some (.inl ()) from by
        rw [show ((0 : Int)) = ((0 : Nat) : Int) from rfl, loopO_first (b := m_law09_AutoKeeps_L0 a0 (some ⟨a0⟩, ((0 : Nat) : Int)) (s : Int)) (fun i : Nat => (i : Int)) a0.f2.length (fun _ => false) (fun _ => false) () ?_ ?_]
        · rw [show fst a0.f2.length (fun _ => false) = none from fst_none.2 fun _ _ => rfl]
        · intro k hk _
          obtain ⟨t, ht, htl, htb⟩ := keeps_auto hf hn sm (a0.f2[k]).f0
          obtain ⟨u, hu, hul, hub⟩ := enabled_auto hf hn sm (a0.f2[k]).f0
          have hz := andNot_zero htl hul fun j hj => by
            obtain ⟨k2, m2, q1, q2, q3, q4⟩ := (htb j).1 hj
            exact (hub j).2 ⟨k2, m2, q1, q2, rfl, q4⟩
          unfold m_law09_AutoKeeps_L0
          simp only [lt_cast, decide_eq_true hk, ifB_true, gi_of hk, some_bind', ht, hu, hz, Bool.not_true, ifB_false, outcomes_auto sm]
          have hlen := outcOf_len sm (op := (a0.f2[k]).f0) a0.f2.length (Nat.le_refl _)
          have := keeps_L1 sm h0 hsl htl (List.getElem?_eq_getElem hk) htb (l := outcOf a0 (a0.f2[k]).f0 a0.f2.length) (by omega)
          rw [show (((0 : Nat) : Int)) = (0 : Int) from rfl, this, wrap_succ (by omega)]
          rfl
        · intro _
          unfold m_law09_AutoKeeps_L0
          simp only [lt_cast, Nat.lt_irrefl, decide_false, ifB_false]]
      simp only [some_bind']
    · rw [if_neg h0, decide_eq_false h0]
      rfl
end Go.E
