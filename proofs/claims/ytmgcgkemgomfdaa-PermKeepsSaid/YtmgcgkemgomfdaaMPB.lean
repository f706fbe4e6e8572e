import Derived.Test.YtmgcgkemgomfdaaMPA
/-! Permissions split part after part: what is kept. -/
set_option linter.all false
set_option maxRecDepth 10000
namespace Go.E
open Go Go.Proofs Go.Eng
/-- Kinds that may be beside each other. -/
def Mode (ks : List Int) : Prop := ks = [0] ∨ ((∀ x ∈ ks, x = 1 ∨ x = 4) ∧ ks.count 1 ≤ 1) ∨ (∀ x ∈ ks, x = 2 ∨ x = 4) ∨ (∀ x ∈ ks, x = 3)
theorem all_set {P : Int → Prop} {ks : List Int} {i : Nat} {a k : Int} (h : ∀ x ∈ ks, P x) (ha : P a) (hk : P k) : ∀ x ∈ ks.set i a ++ [k], P x := by
  intro x hx
  rcases List.mem_append.1 hx with hx | hx
  · rcases List.mem_or_eq_of_mem_set hx with hx | rfl
    · exact h x hx
    · exact ha
  · rw [List.mem_singleton] at hx; rw [hx]; exact hk
theorem mode_step {ks : List Int} {i : Nat} (hi : i < ks.length) {k a : Int} (hm : Mode ks) (ht : tab ks[i] k = some a) : Mode (ks.set i a ++ [k]) := by
  have hmem : ks[i] ∈ ks := List.getElem_mem hi
  rcases hm with rfl | ⟨h1, hc⟩ | h2 | h3
  · have : i = 0 := by simpa using hi
    subst this
    simp only [List.getElem_cons_zero] at ht
    unfold tab at ht
    rw [if_pos rfl] at ht
    by_cases e1 : k = 1
    · rw [if_pos e1] at ht; cases ht; subst e1
      exact .inr (.inl ⟨by simp, by decide⟩)
    rw [if_neg e1] at ht
    by_cases e4 : k = 4
    · rw [if_pos e4] at ht; cases ht; subst e4
      exact .inr (.inl ⟨by simp, by decide⟩)
    rw [if_neg e4] at ht
    by_cases e2 : k = 2
    · rw [if_pos e2] at ht; cases ht; subst e2
      exact .inr (.inr (.inl (by simp)))
    rw [if_neg e2] at ht
    by_cases e3 : k = 3
    · rw [if_pos e3] at ht; cases ht; subst e3
      exact .inr (.inr (.inr (by simp)))
    rw [if_neg e3] at ht; cases ht
  · refine .inr (.inl ?_)
    have hcs := List.count_set (a := a) (b := (1 : Int)) (l := ks) (i := i) hi
    have hca : (ks.set i a ++ [k]).count 1 = (ks.set i a).count 1 + [k].count 1 := List.count_append ..
    rcases h1 _ hmem with e | e
    · rw [e] at ht hcs
      have hpos : 0 < ks.count 1 := List.count_pos_iff.2 (by rw [← e]; exact hmem)
      unfold tab at ht
      rw [if_neg (by decide), if_pos rfl] at ht
      by_cases e1 : k = 1
      · rw [if_pos e1] at ht; cases ht; subst e1
        refine ⟨all_set (P := fun x => x = 1 ∨ x = 4) h1 (.inr rfl) (.inl rfl), ?_⟩
        rw [hca, hcs]
        simp
        omega
      rw [if_neg e1] at ht
      by_cases e4 : k = 4
      · rw [if_pos e4] at ht; cases ht; subst e4
        refine ⟨all_set (P := fun x => x = 1 ∨ x = 4) h1 (.inl rfl) (.inr rfl), ?_⟩
        rw [hca, hcs]
        simp
        omega
      rw [if_neg e4] at ht; cases ht
    · rw [e] at ht hcs
      unfold tab at ht
      rw [if_neg (by decide), if_neg (by decide), if_neg (by decide), if_neg (by decide), if_pos rfl] at ht
      by_cases e4 : k = 4
      · rw [if_pos e4] at ht; cases ht; subst e4
        refine ⟨all_set (P := fun x => x = 1 ∨ x = 4) h1 (.inr rfl) (.inr rfl), ?_⟩
        rw [hca, hcs]
        simp
        omega
      rw [if_neg e4] at ht; cases ht
  · refine .inr (.inr (.inl ?_))
    rcases h2 _ hmem with e | e
    · rw [e] at ht
      unfold tab at ht
      rw [if_neg (by decide), if_neg (by decide), if_pos rfl] at ht
      by_cases e2 : k = 2
      · rw [if_pos e2] at ht; cases ht; subst e2
        exact all_set (P := fun x => x = 2 ∨ x = 4) h2 (.inl rfl) (.inl rfl)
      rw [if_neg e2] at ht
      by_cases e4 : k = 4
      · rw [if_pos e4] at ht; cases ht; subst e4
        exact all_set (P := fun x => x = 2 ∨ x = 4) h2 (.inl rfl) (.inr rfl)
      rw [if_neg e4] at ht; cases ht
    · rw [e] at ht
      unfold tab at ht
      rw [if_neg (by decide), if_neg (by decide), if_neg (by decide), if_neg (by decide), if_pos rfl] at ht
      by_cases e4 : k = 4
      · rw [if_pos e4] at ht; cases ht; subst e4
        exact all_set (P := fun x => x = 2 ∨ x = 4) h2 (.inr rfl) (.inr rfl)
      rw [if_neg e4] at ht; cases ht
  · refine .inr (.inr (.inr ?_))
    have e := h3 _ hmem
    rw [e] at ht
    unfold tab at ht
    rw [if_neg (by decide), if_neg (by decide), if_neg (by decide), if_pos rfl] at ht
    by_cases e3 : k = 3
    · rw [if_pos e3] at ht; cases ht; subst e3
      exact all_set (P := fun x => x = 3) h3 rfl rfl
    rw [if_neg e3] at ht; cases ht
theorem mode_range {ks : List Int} (hm : Mode ks) : ∀ x ∈ ks, 0 ≤ x ∧ x ≤ 4 := by
  intro x hx
  rcases hm with rfl | ⟨h1, _⟩ | h2 | h3
  · simp at hx; omega
  · have := h1 x hx; omega
  · have := h2 x hx; omega
  · have := h3 x hx; omega
/-! The fractions' weights. -/
def wt (j : Nat) : Nat := 2 ^ (12 - j)
theorem sum_set : ∀ (l : List Nat) (i x : Nat) (h : i < l.length), (l.set i x).sum + l[i] = l.sum + x
  | a :: l, 0, x, _ => by simp; omega
  | a :: l, i + 1, x, h => by
    have := sum_set l i x (by simpa using h)
    simp at this ⊢
    omega
structure Inv (l : List TPerm) (n : Nat) : Prop where
  mode : Mode (l.map (·.f0))
  ne : 1 ≤ l.length
  len : l.length ≤ n + 1
  js : ∃ js : List Nat, l.map (·.f1) = js.map P2 ∧ (∀ j ∈ js, j ≤ n) ∧ (js.map wt).sum = 4096
theorem inv_step {l : List TPerm} {n i : Nat} (hi : i < l.length) (hn : n < 12) (h : Inv l n) {a b : TPerm} {j : Nat} {k : Int} (hj : (l[i]).f1 = P2 j) (ht : tab (l[i]).f0 k = some a.f0) (hb : b.f0 = k) (ha1 : a.f1 = P2 (j + 1)) (hb1 : b.f1 = P2 (j + 1)) :
    Inv (l.set i a ++ [b]) (n + 1) := by
  obtain ⟨js, h1, h2, h3⟩ := h.js
  have hlen : js.length = l.length := by have := congrArg List.length h1; simpa using this.symm
  have hij : i < js.length := by omega
  have ej : js[i] = j := by
    have e := congrArg (fun x => x[i]?) h1
    simp only [List.getElem?_map, List.getElem?_eq_getElem hi, List.getElem?_eq_getElem hij, Option.map_some, Option.some.injEq] at e
    rw [hj] at e
    have e2 : ((2 ^ j : Nat) : Int) = ((2 ^ js[i] : Nat) : Int) := congrArg TRat.f1 e
    exact ((Nat.pow_right_inj (by decide)).1 (Int.ofNat.inj e2)).symm
  have hjn : j ≤ n := by rw [← ej]; exact h2 _ (List.getElem_mem hij)
  refine ⟨?_, by simp, by simp; exact h.len, js.set i (j + 1) ++ [j + 1], ?_, ?_, ?_⟩
  · have := mode_step (ks := l.map (·.f0)) (i := i) (by simpa using hi) (k := k) (a := a.f0) h.mode (by simpa using ht)
    simpa [List.map_append, List.map_set, hb] using this
  · rw [List.map_append, List.map_append, List.map_set, List.map_set, h1]
    simp [ha1, hb1]
  · intro x hx
    rcases List.mem_append.1 hx with hx | hx
    · rcases List.mem_or_eq_of_mem_set hx with hx | rfl
      · have := h2 x hx; omega
      · omega
    · rw [List.mem_singleton] at hx; omega
  · rw [List.map_append, List.sum_append_nat, List.map_set]
    have hs := sum_set (js.map wt) i (wt (j + 1)) (by simpa using hij)
    have hw : wt j = wt (j + 1) + wt (j + 1) := by
      unfold wt
      rw [show 12 - j = (12 - (j + 1)) + 1 from by omega, Nat.pow_succ]
      omega
    simp only [List.getElem_map, ej] at hs
    simp only [List.map_cons, List.map_nil, List.sum_cons, List.sum_nil]
    omega
theorem keeps_L0 {a0 a1 : List Int} (h0 : a0.length ≤ 12) (hz0 : ∀ z ∈ a0, 0 ≤ z ∧ z < 256) (hz1 : ∀ z ∈ a1, 0 ≤ z ∧ z < 256) (hl1 : a1.length ≤ 140737488351232) : ∃ l, loopO (m_law15_PermKeeps_L0 a0 a1) (0, [⟨0, ⟨1, 1⟩, -1, 0⟩]) = some l ∧ Inv l 12 := by
  have key : ∃ l, loopO (m_law15_PermKeeps_L0 a0 a1) (0, [⟨0, ⟨1, 1⟩, -1, 0⟩]) = some l ∧ Inv l a0.length := by
    refine loopO_count a0.length (fun n st => st.1 = (n : Int) ∧ Inv st.2 n) _ ?_ ?_ ⟨rfl, ⟨.inl rfl, by simp, by simp, [0], rfl, by simp, rfl⟩⟩
    · rintro n ⟨w, l⟩ hn ⟨rfl, hI⟩
      left
      dsimp only at hI
      have hll := hI.len
      have hne := hI.ne
      obtain ⟨at_, hat, hatl⟩ : ∃ at_ : Nat, (ifB (decide (0 < (a1.length : Int))) (Option.bind (rq (decide ((a1.length : Int) ≠ 0))) fun _ => Option.bind (gi a1 (Int.tmod (n : Int) (a1.length : Int))) fun v22 => Option.bind (rq (decide ((l.length : Int) ≠ 0))) fun _ => some (Int.tmod (IntKind.wrap .i64 v22) (l.length : Int))) (some (0)) : Option Int) = some (at_ : Int) ∧ at_ < l.length := by
        by_cases hp : 0 < a1.length
        · have hm : Int.tmod (n : Int) (a1.length : Int) = ((n % a1.length : Nat) : Int) := by rw [Int.tmod_eq_emod_of_nonneg (by omega), Int.natCast_emod]
          have hlt : n % a1.length < a1.length := Nat.mod_lt _ hp
          obtain ⟨z0, z1⟩ := hz1 _ (List.getElem_mem hlt)
          refine ⟨(a1[n % a1.length]).toNat % l.length, ?_, Nat.mod_lt _ (by omega)⟩
          rw [decide_eq_true (show (0 : Int) < (a1.length : Int) by omega), ifB_true, rq_true (decide_eq_true (by omega)), hm]
          simp only [some_bind', gi_of hlt]
          rw [rq_true (decide_eq_true (by omega)), wrap_i64 (by omega) (by omega), Int.tmod_eq_emod_of_nonneg z0]
          simp only [some_bind']
          rw [Int.natCast_emod, Int.toNat_of_nonneg z0]
        · rw [decide_eq_false (show ¬ (0 : Int) < (a1.length : Int) by omega)]
          exact ⟨0, rfl, by omega⟩
      obtain ⟨y0, y1⟩ := hz0 _ (List.getElem_mem hn)
      obtain ⟨k, hk, hkr⟩ : ∃ k : Int, Int.tmod (IntKind.wrap .i64 a0[n]) 5 = k ∧ 0 ≤ k ∧ k ≤ 4 := ⟨_, rfl, by rw [wrap_i64 (by omega) (by omega), Int.tmod_eq_emod_of_nonneg y0]; omega⟩
      obtain ⟨js, j1, j2, j3⟩ := hI.js
      have hlen : js.length = l.length := by have := congrArg List.length j1; simpa using this.symm
      have hp : (l[at_]).f1 = P2 (js[at_]'(by omega)) := by
        have e := congrArg (fun x => x[at_]?) j1
        simpa [List.getElem?_map, List.getElem?_eq_getElem hatl, List.getElem?_eq_getElem (show at_ < js.length by omega)] using e
      have hjn := j2 _ (List.getElem_mem (show at_ < js.length by omega))
      have hf := mode_range hI.mode (l[at_]).f0 (List.mem_map_of_mem (List.getElem_mem hatl))
      obtain ⟨a, b, e, hs, hc⟩ := split_spec (p := l[at_]) (k := k) (by omega) hp hf hkr
      unfold m_law15_PermKeeps_L0
      dsimp only
      rw [lt_cast, decide_eq_true hn, ifB_true, hat]
      simp only [some_bind', gi_of hn, hk]
      rw [rq_true (decide_eq_true (by decide)), rq_true (decide_eq_true (by omega)), rq_true (decide_eq_true (by omega))]
      simp only [some_bind', gi_of hatl]
      have hin : (Option.bind (ifB (decide ((l[at_]).f0 = 0)) (some (!decide (k = 3))) (some false)) fun v31 => (ifB v31 (some (3)) (some (0)) : Option Int)) = some (if (l[at_]).f0 = 0 ∧ k ≠ 3 then (3 : Int) else 0) := by
        by_cases h0 : (l[at_]).f0 = 0 <;> by_cases h3 : k = 3 <;> simp [h0, h3, ifB]
      have hin2 : ∀ {β : Type} (g : Int → Option β), (Option.bind (ifB (decide ((l[at_]).f0 = 0)) (some (!decide (k = 3))) (some false)) fun v31 => Option.bind (ifB v31 (some (3)) (some (0)) : Option Int) g) = g (if (l[at_]).f0 = 0 ∧ k ≠ 3 then (3 : Int) else 0) := fun g => by
        by_cases h0 : (l[at_]).f0 = 0 <;> by_cases h3 : k = 3 <;> simp [h0, h3, ifB]
      rw [hin2, hs]
      simp only [some_bind']
      rw [wrap_succ (by omega)]
      rcases hc with he | ⟨rfl, ht, hb, ha1, hb1⟩
      · rw [decide_eq_false he]
        exact ⟨_, rfl, rfl, hI.mode, hI.ne, by have := hI.len; dsimp only; omega, js, j1, fun j hj => Nat.le_succ_of_le (j2 j hj), j3⟩
      · simp only [decide_true, Bool.not_true, ifB_false, Int.toNat_natCast]
        rw [rq_true (decide_eq_true (by simp; omega))]
        exact ⟨_, rfl, rfl, inv_step hatl (by omega) hI hp ht hb ha1 hb1⟩
    · rintro ⟨w, l⟩ ⟨rfl, hI⟩
      unfold m_law15_PermKeeps_L0
      simp only [lt_cast, Nat.lt_irrefl, decide_false, ifB_false]
      exact ⟨_, rfl, hI⟩
  obtain ⟨l, hl, hI⟩ := key
  obtain ⟨js, j1, j2, j3⟩ := hI.js
  exact ⟨l, hl, hI.mode, hI.ne, by have := hI.len; omega, js, j1, fun j hj => by have := j2 j hj; omega, j3⟩
end Go.E
