import Derived.Test.YthgohaidfaldnaaMQB
set_option linter.all false
set_option maxRecDepth 10000
namespace Go.E
open Go Go.Proofs Go.Eng
theorem fin_out {p : TProto} (i : Nat) (h : finB p i = true) : i < p.f1.length := finB_lt h
theorem of_lt {p : TProto} (hf : Fits p) {op : ByteArray} {g : TMove → Bool} {j : Nat} (h : OfB p op g j) : j < p.f1.length := by
  obtain ⟨k, m, h1, h2, h3, h4⟩ := h
  obtain ⟨⟨a, ha, han⟩, _⟩ := hf k m h1
  omega
/-- What has an outcome in a state, is a move out of it. -/
theorem out_pos {p : TProto} (ho : Once p) (hne : ∀ (k : Nat) (m : TMove), p.f2[k]? = some m → 0 < m.f2.length) {op : ByteArray} {j : Nat} : decide (0 < ((outsOf p (j : Int) op).length : Int)) = true ↔ OfB p op (fun _ => true) j := by
  rw [decide_eq_true_eq]
  constructor
  · intro h
    obtain ⟨k, m, h1, h2, h3, h4⟩ := (outsOf_get ho (l := 0)).1 (List.getElem?_eq_getElem (show 0 < (outsOf p (j : Int) op).length by omega))
    exact ⟨k, m, h1, h2, rfl, h3⟩
  · rintro ⟨k, m, h1, h2, _, h4⟩
    have := (outsOf_get (p := p) (i := (j : Int)) (op := op) ho (l := 0) (o := m.f2[0]'(hne k m h1))).2 ⟨k, m, h1, h2, h4, List.getElem?_eq_getElem (hne k m h1)⟩
    have := (List.getElem?_eq_some_iff.1 this).1
    omega
theorem keep_all {p : TProto} (ho : Once p) (hne : ∀ (k : Nat) (m : TMove), p.f2[k]? = some m → 0 < m.f2.length) {op : ByteArray} {j : Nat} : (decide (0 < ((outsOf p (j : Int) op).length : Int)) && allTo (outsOf p (j : Int) op) (j : Int) (outsOf p (j : Int) op).length) = true ↔ OfB p op keepB j := by
  rw [Bool.and_eq_true, out_pos ho hne, allTo_iff]
  constructor
  · rintro ⟨⟨k, m, h1, h2, _, h4⟩, ha⟩
    refine ⟨k, m, h1, h2, keepB_iff.2 fun l o hlo => ?_, h4⟩
    rw [h4]
    exact ha l o ((outsOf_get ho).2 ⟨k, m, h1, h2, h4, hlo⟩)
  · rintro ⟨k, m, h1, h2, h3, h4⟩
    refine ⟨⟨k, m, h1, h2, rfl, h4⟩, fun l o hlo => ?_⟩
    obtain ⟨k', m', g1, g2, g3, g4⟩ := (outsOf_get ho).1 hlo
    have e := ho k k' m m' h1 g1 (by rw [h2, g2]) (by rw [h4, g3])
    subst e
    rw [h1] at g1; cases g1
    rw [keepB_iff.1 h3 l o g4, h4]
theorem same_bits {s t : Nat} (h : ∀ j, s.testBit j = t.testBit j) : s = t := Nat.eq_of_testBit_eq h
theorem tells_body {p : TProto} (sm : Sm p) (h0 : (W p).1 = 0) (op : ByteArray) : ∃ (e f : Nat), m_auto_Auto_Enabled (some ⟨p⟩) op = some (e : Int) ∧ m_ref09_Set p 1 op = some (e : Int) ∧ m_auto_Auto_Keeps (some ⟨p⟩) op = some (f : Int) ∧ m_ref09_Set p 2 op = some (f : Int) := by
  obtain ⟨hn, hn1, hf, ho, hend, hre, _⟩ := good_of h0
  have hne := nonempty_of h0
  obtain ⟨t, ht, htl, htb⟩ := keeps_auto hf hn sm op
  obtain ⟨u, hu, hul, hub⟩ := enabled_auto hf hn sm op
  obtain ⟨x, hx, hxb⟩ := set_ref sm hn 1 (by omega) op
  obtain ⟨y, hy, hyb⟩ := set_ref sm hn 2 (by omega) op
  have e1 : x = u := same_bits fun j => by
    rw [Bool.eq_iff_iff, hxb, hub, Bool.and_eq_true, decide_eq_true_eq]
    have : SetB p 1 op j = decide (0 < ((outsOf p (j : Int) op).length : Int)) := by unfold SetB; simp
    rw [this, out_pos ho hne]
    exact ⟨fun h => h.2, fun h => ⟨of_lt hf h, h⟩⟩
  have e2 : y = t := same_bits fun j => by
    rw [Bool.eq_iff_iff, hyb, htb, Bool.and_eq_true, decide_eq_true_eq]
    have : SetB p 2 op j = (decide (0 < ((outsOf p (j : Int) op).length : Int)) && allTo (outsOf p (j : Int) op) (j : Int) (outsOf p (j : Int) op).length) := by unfold SetB; simp
    rw [this, keep_all ho hne]
    exact ⟨fun h => h.2, fun h => ⟨of_lt hf h, h⟩⟩
  subst e1 e2
  exact ⟨x, y, hu, hx, ht, hy⟩
theorem tells_L1 {p : TProto} (sm : Sm p) (op : ByteArray) : loopO (m_law09_AutoTells_L1 p (some ⟨p⟩, 0) op) (-1) = some (.inl ()) := by
  have ha := sm.a
  rw [show ((-1 : Int)) = ((0 : Nat) : Int) - 1 from rfl, loopO_first (b := m_law09_AutoTells_L1 p (some ⟨p⟩, 0) op) (fun i : Nat => (i : Int) - 1) (p.f1.length + 2) (fun _ => false) (fun _ => false) () ?_ ?_]
  · rw [show fst (p.f1.length + 2) (fun _ => false) = none from fst_none.2 fun _ _ => rfl]
  · intro i hi _
    unfold m_law09_AutoTells_L1
    dsimp only
    rw [decide_eq_true (show ((i : Int) - 1 ≤ (p.f1.length : Int)) by omega)]
    simp only [ifB_true, outs_auto sm, outs_ref sm, some_bind', same_self (outsOf_len sm _ op), Bool.not_true, ifB_false]
    rw [wrap_i64 (by omega) (by omega), show ((i : Int) - 1 + 1) = ((i + 1 : Nat) : Int) - 1 from by omega]
    rfl
  · intro _
    unfold m_law09_AutoTells_L1
    dsimp only
    rw [decide_eq_false (show ¬ (_ : Int) ≤ _ by omega)]
    rfl
theorem tells_L0 {p : TProto} (sm : Sm p) (h0 : (W p).1 = 0) (op : ByteArray) : loopO (m_law09_AutoTells_L0 p op (some ⟨p⟩, 0)) 0 = some (.inl ()) := by
  have hb := sm.b
  rw [show ((0 : Int)) = ((0 : Nat) : Int) from rfl, loopO_first (b := m_law09_AutoTells_L0 p op (some ⟨p⟩, ((0 : Nat) : Int))) (fun i : Nat => (i : Int)) (p.f2.length + 1) (fun _ => false) (fun _ => false) () ?_ ?_]
  · rw [show fst (p.f2.length + 1) (fun _ => false) = none from fst_none.2 fun _ _ => rfl]
  · intro i hi _
    unfold m_law09_AutoTells_L0
    dsimp only
    rw [decide_eq_true (show (i : Int) ≤ (p.f2.length : Int) by omega), ifB_true]
    obtain ⟨o, ho⟩ : ∃ o, (ifB (decide ((i : Int) < (p.f2.length : Int))) (Option.bind (gi p.f2 (i : Int)) fun v33 => some (v33.f0)) (some op) : Option ByteArray) = some o := by
      by_cases h : i < p.f2.length
      · rw [lt_cast, decide_eq_true h, gi_of h]
        exact ⟨_, rfl⟩
      · rw [lt_cast, decide_eq_false h]
        exact ⟨_, rfl⟩
    rw [ho]
    obtain ⟨e, f, h1, h2, h3, h4⟩ := tells_body sm h0 o
    have hlen := outcOf_len sm (op := o) p.f2.length (Nat.le_refl _)
    simp only [some_bind', outcomes_auto sm, outcomes_ref sm, texts_self (show (outcOf p o p.f2.length).length ≤ 6400 by omega), h1, h2, h3, h4, Bool.not_true, ifB_false, decide_true]
    have := tells_L1 sm o
    rw [show ((0 : Nat) : Int) = 0 from rfl, this, wrap_succ (by omega)]
    rfl
  · intro _
    unfold m_law09_AutoTells_L0
    dsimp only
    rw [decide_eq_false (show ¬ (_ : Int) ≤ _ by omega)]
    rfl
theorem state_own {p : TProto} (hn : p.f1.length ≤ 16) {i : Nat} (hi : i < p.f1.length) (hd : dup p.f1.length (nmS p) i = false) : m_auto_Auto_State (some ⟨p⟩) (p.f1[i]).f0 = some ((i : Int), true) := by
  rw [state_auto hn]
  cases hq : fst p.f1.length (nameP p (p.f1[i]).f0) with
  | none =>
    have := fst_none.1 hq i hi
    unfold nameP at this
    rw [List.getElem?_eq_getElem hi] at this
    simp at this
  | some k =>
    obtain ⟨h1, h2⟩ := fst_some hq
    unfold nameP at h2
    have hmin : ¬ i < k := by
      intro hlt
      unfold fst at hq
      rw [List.find?_range_eq_some] at hq
      have := hq.2.2 i hlt
      unfold nameP at this
      rw [List.getElem?_eq_getElem hi] at this
      simp at this
    by_cases e : k = i
    · rw [e]
    · exfalso
      unfold dup at hd
      rw [Option.isSome_eq_false_iff, Option.isNone_iff_eq_none, fst_none] at hd
      have := hd k (by omega)
      unfold nmS at this
      rw [List.getElem?_eq_getElem h1] at h2
      rw [List.getElem?_eq_getElem h1, List.getElem?_eq_getElem hi] at this
      dsimp only at this h2
      rw [h2] at this
      cases this
theorem tells_L2 {p : TProto} (sm : Sm p) (ok : okTProto p) (h0 : (W p).1 = 0) {x : ByteArray} (hx : x.size ≤ 100) : ∃ y, loopO (m_law09_AutoTells_L2 p (some ⟨p⟩, 0)) (x, 0) = some (.inl y) ∧ y.size ≤ 100 + 16 * 140737488351232 ∧ ∀ (k : Nat) (s : TState), p.f1[k]? = some s → s.f0.size ≤ y.size := by
  obtain ⟨hn, hn1, hf, ho, hend, hre, hd⟩ := good_of h0
  have key : ∃ r, loopO (m_law09_AutoTells_L2 p (some ⟨p⟩, 0)) (x, 0) = some r ∧ ∃ y, r = .inl y ∧ y.size ≤ 100 + 16 * 140737488351232 ∧ ∀ (k : Nat) (s : TState), p.f1[k]? = some s → s.f0.size ≤ y.size := by
    refine loopO_count p.f1.length (fun n st => st.2 = (n : Int) ∧ st.1.size ≤ 100 + n * 140737488351232 ∧ ∀ (k : Nat) (s : TState), k < n → p.f1[k]? = some s → s.f0.size ≤ st.1.size) _ ?_ ?_ ⟨rfl, by simpa using hx, fun k s h => absurd h (Nat.not_lt_zero _)⟩
    · rintro n ⟨v, w⟩ hk ⟨rfl, hv, hs⟩
      left
      dsimp only at hv hs
      have hsz : (p.f1[n]).f0.size ≤ 140737488351232 := (ok.2.1.2 _ (List.getElem_mem hk)).1
      unfold m_law09_AutoTells_L2
      simp only [lt_cast, decide_eq_true hk, ifB_true, gi_of hk, some_bind', state_own hn hk (hd n hk), decide_true, Bool.not_true, ifB_false]
      have hle : v.size + (p.f1[n]).f0.size ≤ 9223372036854775807 := by
        have : n * 140737488351232 ≤ 16 * 140737488351232 := Nat.mul_le_mul_right _ (by omega)
        omega
      rw [rq_true (decide_eq_true hle), wrap_succ (by omega)]
      refine ⟨_, rfl, rfl, ?_, fun k s hkn hks => ?_⟩
      · dsimp only
        rw [ByteArray.size_append]
        omega
      · dsimp only
        rw [ByteArray.size_append]
        by_cases e : k = n
        · subst e
          rw [List.getElem?_eq_getElem hk] at hks; cases hks
          omega
        · have := hs k s (by omega) hks
          omega
    · rintro ⟨v, w⟩ ⟨rfl, hv, hs⟩
      unfold m_law09_AutoTells_L2
      simp only [lt_cast, Nat.lt_irrefl, decide_false, ifB_false]
      dsimp only at hv hs
      refine ⟨_, rfl, v, rfl, ?_, fun k s hks => hs k s (List.getElem?_eq_some_iff.1 hks).1 hks⟩
      exact Nat.le_trans hv (Nat.add_le_add_left (Nat.mul_le_mul_right _ hn) _)
  obtain ⟨_, hr, y, rfl, h1, h2⟩ := key
  exact ⟨y, hr, h1, h2⟩
theorem P_AutoTells (a0 : TProto) (a1 a2 : ByteArray) (h : okTProto a0) (h1 : a1.size ≤ 140737488351232) (h2 : a2.size ≤ 140737488351232) : m_law09_AutoTells a0 a1 a2 = some true := by
  obtain ⟨b, hb, hs⟩ := small_ref h
  unfold m_law09_AutoTells
  rw [awake_tt]
  simp only [some_bind', Bool.not_true, ifB_false, hb]
  cases b with
  | false => rfl
  | true =>
    have sm := hs rfl
    simp only [Bool.not_true, ifB_false]
    by_cases e1 : (100 : Int) < (a1.size : Int)
    · rw [decide_eq_true e1]; rfl
    by_cases e2 : (100 : Int) < (a2.size : Int)
    · rw [decide_eq_false e1, decide_eq_true e2]; rfl
    rw [decide_eq_false e1, decide_eq_false e2]
    simp only [Bool.not_true, ifB_false, wrong_ref sm, new_auto sm, some_bind']
    by_cases h0 : (W a0).1 = 0
    · rw [if_pos h0, decide_eq_true h0]
      simp only [Bool.not_true, ifB_false, Option.isNone_some]
      obtain ⟨hn, hn1, hf, ho, _⟩ := good_of h0
      have hbb := sm.b
      have hlen := opsOf_len (p := a0) _ (Nat.le_refl _)
      obtain ⟨f, hf1, hfl, hfb⟩ := finals_auto hn
      obtain ⟨x, hx, hxb⟩ := set_ref sm hn 0 (by omega) (⟨#[]⟩ : ByteArray)
      have e : x = f := same_bits fun j => by
        rw [hxb, hfb]
        have : SetB a0 0 (⟨#[]⟩ : ByteArray) j = finB a0 j := by unfold SetB; simp
        rw [this]
        cases hq : finB a0 j with
        | false => rw [Bool.and_false]
        | true => rw [decide_eq_true (finB_lt hq)]; rfl
      subst e
      obtain ⟨y, hy, hys, hyn⟩ := tells_L2 sm h h0 (x := a2) (by omega)
      rw [ops_auto sm, ops_ref sm]
      unfold m_auto_Auto_Finals
      have hx' : m_ref09_Set a0 0 (⟨#[]⟩ : ByteArray) = some (x : Int) := hx
      simp only [some_bind', texts_self (show (opsOf a0 a0.f2.length).length ≤ 6400 by omega), Bool.not_true, ifB_false, hf1, hx', decide_true, tells_L0 sm h0, hy]
      have hle : y.size + (⟨#[39]⟩ : ByteArray).size ≤ 9223372036854775807 := by
        have : (⟨#[39]⟩ : ByteArray).size = 1 := rfl
        omega
      rw [rq_true (decide_eq_true hle), state_auto hn]
      rw [show fst a0.f1.length (nameP a0 (y ++ (⟨#[39]⟩ : ByteArray))) = none from fst_none.2 fun i hi => by
        unfold nameP
        rw [List.getElem?_eq_getElem hi]
        apply decide_eq_false
        intro hq
        have h1 := hyn i _ (List.getElem?_eq_getElem hi)
        rw [hq, ByteArray.size_append] at h1
        have : (⟨#[39]⟩ : ByteArray).size = 1 := rfl
        omega]
      rfl
    · rw [if_neg h0, decide_eq_false h0]
      rfl
end Go.E
