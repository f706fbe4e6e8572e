import Derived.Test.YthgohaidfaldnaaMPD
/-! Auto, plain: the reference's search. -/
set_option linter.all false
set_option maxRecDepth 10000
namespace Go.E
open Go Go.Proofs Go.Eng
theorem pigeon : ∀ (n : Nat) (S : List Nat), S.Nodup → (∀ x ∈ S, x < n) → S.length ≤ n
  | 0, S, _, h => by
    cases S with
    | nil => exact Nat.le_refl _
    | cons a l => exact absurd (h a (by simp)) (Nat.not_lt_zero _)
  | n + 1, S, hnd, h => by
    by_cases hm : n ∈ S
    · have h1 := pigeon n (S.erase n) (hnd.erase n) fun x hx => by
        have h2 := (List.Nodup.mem_erase_iff hnd).1 hx
        have := h x h2.2
        omega
      rw [List.length_erase_of_mem hm] at h1
      omega
    · have h1 := pigeon n S hnd fun x hx => by
        have := h x hx
        have : x ≠ n := fun e => hm (e ▸ hx)
        omega
      omega
abbrev cst (S : List Nat) : List Int := S.map fun n : Nat => (n : Int)
theorem has_ref {S : List Nat} {b : Nat} (h : S.length ≤ 1000) : m_ref09_has (cst S) (b : Int) = some (decide (b ∈ S)) := by
  unfold m_ref09_has
  have hl : (cst S).length = S.length := by simp
  rw [show ((0 : Int)) = ((0 : Nat) : Int) from rfl, loopO_first (fun i : Nat => (i : Int)) S.length (fun i => match S[i]? with | some x => decide (x = b) | none => false) (fun _ => true) () ?_ ?_]
  · cases hq : fst S.length (fun i => match S[i]? with | some x => decide (x = b) | none => false) with
    | some i =>
      obtain ⟨h1, h2⟩ := fst_some hq
      rw [List.getElem?_eq_getElem h1] at h2
      have : b ∈ S := by rw [← of_decide_eq_true h2]; exact List.getElem_mem h1
      rw [decide_eq_true this]; rfl
    | none =>
      rw [fst_none] at hq
      have : b ∉ S := fun hb => by
        obtain ⟨i, hi, he⟩ := List.getElem_of_mem hb
        have := hq i hi
        rw [List.getElem?_eq_getElem hi] at this
        exact absurd he (of_decide_eq_false this)
      rw [decide_eq_false this]; rfl
  · intro i hi _
    unfold m_ref09_has_L0
    have hi' : i < (cst S).length := by omega
    simp only [hl, lt_cast, decide_eq_true hi, ifB_true, gi_of hi', some_bind', List.getElem?_eq_getElem hi, List.getElem_map]
    rw [wrap_succ (by omega), show decide (((S[i] : Nat) : Int) = (b : Int)) = decide (S[i] = b) from decide_eq_decide.2 (by omega)]
    cases decide (S[i] = b) <;> rfl
  · intro _
    unfold m_ref09_has_L0
    simp only [hl, lt_cast, Nat.lt_irrefl, decide_false, ifB_false]
structure FI (p : TProto) (a0 : Nat) (S T : List Nat) (D : Nat → Nat → Nat → Prop) : Prop where
  nd : T.Nodup
  rg : ∀ x ∈ T, x < p.f1.length
  nf : ∀ x ∈ T, finB p x = false
  back : ∀ x ∈ T, Reach p x → Reach p a0
  pre : ∃ U, T = S ++ U
  done : ∀ a k l, D a k l → ∀ i j, S[a]? = some i → Edge p k l i j → j ∈ T
theorem FI.len {p : TProto} {a0 : Nat} {S T : List Nat} {D : Nat → Nat → Nat → Prop} (h : FI p a0 S T D) (hn : p.f1.length ≤ 16) : T.length ≤ 16 := by
  have := pigeon _ T h.nd h.rg
  omega
theorem FI.weak {p : TProto} {a0 : Nat} {S T : List Nat} {D D' : Nat → Nat → Nat → Prop} (h : FI p a0 S T D) (hd : ∀ a k l, D' a k l → ∀ i j, S[a]? = some i → Edge p k l i j → j ∈ T ∨ D a k l) : FI p a0 S T D' :=
  ⟨h.nd, h.rg, h.nf, h.back, h.pre, fun a k l hD i j hs he => by
    rcases hd a k l hD i j hs he with h1 | h1
    · exact h1
    · exact h.done a k l h1 i j hs he⟩
theorem Ends_L3 {p : TProto} (hf : Fits p) (hn : p.f1.length ≤ 16) {a0 x a k : Nat} {S T : List Nat} {m : TMove} (hm : p.f2[k]? = some m) (ho : m.f2.length ≤ 80) (hx : S[a]? = some x) (hxm : m.f1 = (x : Int)) (h : FI p a0 S T fun a' k' l' => a' < a ∨ (a' = a ∧ k' < k)) :
    ∃ r, loopO (m_ref09_Ends_L3 m p) (cst T, 0) = some r ∧ ((∃ T', r = .inl (cst T') ∧ FI p a0 S T' fun a' k' l' => a' < a ∨ (a' = a ∧ k' < k + 1)) ∨ (r = .inr true ∧ Reach p a0)) := by
  refine loopO_count m.f2.length (fun l st => st.2 = (l : Int) ∧ ∃ T', st.1 = cst T' ∧ FI p a0 S T' fun a' k' l' => a' < a ∨ (a' = a ∧ (k' < k ∨ (k' = k ∧ l' < l)))) _ ?_ ?_ ⟨rfl, T, rfl, h.weak fun a' k' l' hd _ _ _ _ => .inr (by rcases hd with hd | hd <;> omega)⟩
  · rintro l ⟨v, w⟩ hl ⟨rfl, T', rfl, hi⟩
    obtain ⟨_, hto⟩ := hf k m hm
    obtain ⟨b, hb, hbn⟩ := hto l m.f2[l] (List.getElem?_eq_getElem hl)
    have hedge : Edge p k l x b := ⟨m, m.f2[l], hm, List.getElem?_eq_getElem hl, hxm, hb⟩
    have huniq : ∀ i j, Edge p k l i j → j = b := by
      rintro i j ⟨m', o', h1, h2, h3, h4⟩
      rw [hm] at h1; cases h1
      rw [List.getElem?_eq_getElem hl] at h2; cases h2
      rw [hb] at h4
      omega
    have hxT : x ∈ T' := by
      obtain ⟨U, hU⟩ := hi.pre
      rw [hU]
      exact List.mem_append_left _ (List.mem_of_getElem? hx)
    have hlen := hi.len hn
    have hfb : finB p b = (p.f1[b]).f1 := by unfold finB; rw [List.getElem?_eq_getElem hbn]
    unfold m_ref09_Ends_L3
    simp only [lt_cast, decide_eq_true hl, ifB_true, gi_of hl, some_bind', hb, gi_of hbn, has_ref (show T'.length ≤ 1000 by omega)]
    rw [wrap_succ (by omega)]
    cases hq : (p.f1[b]).f1 with
    | true =>
      right
      exact ⟨_, rfl, .inr ⟨rfl, hi.back x hxT (.step hedge (.fin (by rw [hfb, hq])))⟩⟩
    | false =>
      left
      simp only [ifB_false]
      by_cases hbT : b ∈ T'
      · rw [decide_eq_true hbT]
        refine ⟨_, rfl, rfl, T', rfl, hi.weak fun a' k' l' hd i j hs he => ?_⟩
        by_cases e : a' = a ∧ k' = k ∧ l' = l
        · obtain ⟨rfl, rfl, rfl⟩ := e
          left; rw [huniq i j he]; exact hbT
        · right; omega
      · rw [decide_eq_false hbT]
        simp only [Bool.not_false, ifB_true, List.length_nil, List.length_map, List.nil_append, Nat.zero_add]
        rw [rq_true (decide_eq_true (show T'.length ≤ 1000000 by omega))]
        simp only [some_bind']
        rw [rq_true (decide_eq_true (show T'.length + [(b : Int)].length ≤ 1000000 by simp; omega))]
        simp only [some_bind']
        refine ⟨_, rfl, rfl, T' ++ [b], by simp, ?_, ?_, ?_, ?_, ?_, ?_⟩
        · exact List.nodup_append.2 ⟨hi.nd, by simp, fun y hy z hz => by rw [List.mem_singleton.1 hz]; exact fun e => hbT (e ▸ hy)⟩
        · intro y hy
          rcases List.mem_append.1 hy with hy | hy
          · exact hi.rg y hy
          · rw [List.mem_singleton.1 hy]; exact hbn
        · intro y hy
          rcases List.mem_append.1 hy with hy | hy
          · exact hi.nf y hy
          · rw [List.mem_singleton.1 hy, hfb, hq]
        · intro y hy hr
          rcases List.mem_append.1 hy with hy | hy
          · exact hi.back y hy hr
          · rw [List.mem_singleton.1 hy] at hr
            exact hi.back x hxT (.step hedge hr)
        · obtain ⟨U, hU⟩ := hi.pre
          exact ⟨U ++ [b], by rw [hU, List.append_assoc]⟩
        · intro a' k' l' hd i j hs he
          by_cases e : a' = a ∧ k' = k ∧ l' = l
          · obtain ⟨rfl, rfl, rfl⟩ := e
            rw [huniq i j he]; simp
          · exact List.mem_append_left _ (hi.done a' k' l' (by omega) i j hs he)
  · rintro ⟨v, w⟩ ⟨rfl, T', rfl, hi⟩
    unfold m_ref09_Ends_L3
    simp only [lt_cast, Nat.lt_irrefl, decide_false, ifB_false]
    refine ⟨_, rfl, .inl ⟨T', rfl, hi.weak fun a' k' l' hd i j hs he => ?_⟩⟩
    right
    obtain ⟨m', o', h1, h2, _⟩ := he
    by_cases e : k' = k
    · subst e
      rw [hm] at h1; cases h1
      have := (List.getElem?_eq_some_iff.1 h2).1
      omega
    · omega
end Go.E
