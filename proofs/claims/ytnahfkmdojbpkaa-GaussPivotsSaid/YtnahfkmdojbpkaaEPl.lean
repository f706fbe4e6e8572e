import Derived.Test.YtnahfkmdojbpkaaEMc
/-! Plain laws: loops that end. -/
set_option linter.all false
namespace Go.Eng
open Go
variable {σ χ : Type}
/-- A loop that keeps I, comes nearer to its end with each round, and of whose answer Q holds. -/
theorem loopO_total {b : σ → Option (σ ⊕ χ)} (I : σ → Prop) (μ : σ → Nat) (Q : χ → Prop)
    (step : ∀ s, I s → (∃ s', b s = some (.inl s') ∧ I s' ∧ μ s' < μ s) ∨ ∃ r, b s = some (.inr r) ∧ Q r) : ∀ (s : σ), I s → ∃ r, loopO b s = some r ∧ Q r := by
  have main : ∀ (n : Nat) (s : σ), μ s ≤ n → I s → ∃ r, loopO b s = some r ∧ Q r := by
    intro n
    induction n with
    | zero =>
      intro s hm hi
      rcases step s hi with ⟨s', _, _, hlt⟩ | ⟨r, hr, hq⟩
      · omega
      · exact ⟨r, loopO_inr hr, hq⟩
    | succ n ih =>
      intro s hm hi
      rcases step s hi with ⟨s', hs, hi', hlt⟩ | ⟨r, hr, hq⟩
      · obtain ⟨r, h1, h2⟩ := ih s' (by omega) hi'
        exact ⟨r, by rw [loopO_inl hs]; exact h1, h2⟩
      · exact ⟨r, loopO_inr hr, hq⟩
  exact fun s hi => main (μ s) s (Nat.le_refl _) hi
theorem wrap_i64 {x : Int} (h0 : -9223372036854775808 ≤ x) (h1 : x < 9223372036854775808) : IntKind.wrap .i64 x = x := by rw [IntKind.wrap_i64]; omega
/-- A loop that counts up to n. -/
theorem loopO_count {b : σ → Option (σ ⊕ χ)} (n : Nat) (I : Nat → σ → Prop) (Q : χ → Prop)
    (step : ∀ i s, i < n → I i s → (∃ s', b s = some (.inl s') ∧ I (i + 1) s') ∨ ∃ r, b s = some (.inr r) ∧ Q r) (last : ∀ s, I n s → ∃ r, b s = some (.inr r) ∧ Q r) {s : σ} (h0 : I 0 s) : ∃ r, loopO b s = some r ∧ Q r := by
  have main : ∀ (k i : Nat) (s : σ), i + k = n → I i s → ∃ r, loopO b s = some r ∧ Q r := by
    intro k
    induction k with
    | zero =>
      intro i s hk hi
      obtain ⟨r, hr, hq⟩ := last s (by rw [← hk]; exact hi)
      exact ⟨r, loopO_inr hr, hq⟩
    | succ k ih =>
      intro i s hk hi
      rcases step i s (by omega) hi with ⟨s', hs, hi'⟩ | ⟨r, hr, hq⟩
      · obtain ⟨r, h1, h2⟩ := ih (i + 1) s' (by omega) hi'
        exact ⟨r, by rw [loopO_inl hs]; exact h1, h2⟩
      · exact ⟨r, loopO_inr hr, hq⟩
  exact main n 0 s (by omega) h0
theorem gi_nat {α : Type} {l : List α} {i : Nat} : gi l (i : Int) = l[i]? := by
  unfold gi; simp
theorem gi_of {α : Type} {l : List α} {i : Nat} (h : i < l.length) : gi l (i : Int) = some l[i] := by
  rw [gi_nat, List.getElem?_eq_getElem h]
/-- The first place below n at which P holds. -/
def fst (n : Nat) (P : Nat → Bool) : Option Nat := (List.range n).find? P
theorem fst_none {n : Nat} {P : Nat → Bool} : fst n P = none ↔ ∀ i, i < n → P i = false := by
  unfold fst
  rw [List.find?_eq_none]
  simp
theorem fst_some {n i : Nat} {P : Nat → Bool} (h : fst n P = some i) : i < n ∧ P i = true := by
  unfold fst at h
  exact ⟨by simpa using List.mem_of_find?_eq_some h, List.find?_some h⟩
theorem fst_congr {n : Nat} {P P' : Nat → Bool} (h : ∀ i, i < n → P i = P' i) : fst n P = fst n P' := by
  unfold fst
  induction n with
  | zero => rfl
  | succ n ih =>
    rw [List.range_succ, List.find?_append, List.find?_append, ih fun i hi => h i (by omega)]
    simp only [List.find?_cons, List.find?_nil, h n (by omega)]
theorem find_range' {n : Nat} {P : Nat → Bool} : ∀ (k i : Nat), (List.range' i (k + 1)).find? P = if P i then some i else (List.range' (i + 1) k).find? P := by
  intro k i
  rw [List.range'_succ, List.find?_cons]
  cases P i <;> rfl
/-- A loop that looks for the first. -/
theorem loopO_first {ρ ω : Type} {b : σ → Option (σ ⊕ (ω ⊕ ρ))} (mk : Nat → σ) (n : Nat) (P : Nat → Bool) (r : Nat → ρ) (u : ω) (hb : ∀ i, i < n → (∀ j, j < i → P j = false) → b (mk i) = some (if P i then .inr (.inr (r i)) else .inl (mk (i + 1)))) (hl : (∀ j, j < n → P j = false) → b (mk n) = some (.inr (.inl u))) :
    loopO b (mk 0) = some (match fst n P with | some i => .inr (r i) | none => .inl u) := by
  have main : ∀ (k i : Nat), i + k = n → (∀ j, j < i → P j = false) → loopO b (mk i) = some (match (List.range' i k).find? P with | some i => .inr (r i) | none => .inl u) := by
    intro k
    induction k with
    | zero =>
      intro i hk hj
      have e : i = n := by omega
      subst e
      exact loopO_inr (hl hj)
    | succ k ih =>
      intro i hk hj
      rw [find_range' (n := n)]
      have h := hb i (by omega) hj
      cases hp : P i with
      | true =>
        rw [hp, if_pos rfl] at h
        rw [if_pos rfl]
        exact loopO_inr h
      | false =>
        rw [hp, if_neg (by decide)] at h
        rw [if_neg (by decide), loopO_inl h]
        exact ih (i + 1) (by omega) fun j hj' => by
          by_cases e : j = i
          · rw [e]; exact hp
          · exact hj j (by omega)
  have := main n 0 (by omega) (by intro j hj; omega)
  rwa [show List.range' 0 n = List.range n from List.range_eq_range'.symm] at this
theorem loopO_first1 {ρ : Type} {b : σ → Option (σ ⊕ ρ)} (mk : Nat → σ) (n : Nat) (P : Nat → Bool) (r : Nat → ρ) (u : ρ) (hb : ∀ i, i < n → (∀ j, j < i → P j = false) → b (mk i) = some (if P i then .inr (r i) else .inl (mk (i + 1)))) (hl : (∀ j, j < n → P j = false) → b (mk n) = some (.inr u)) :
    loopO b (mk 0) = some (match fst n P with | some i => r i | none => u) := by
  have main : ∀ (k i : Nat), i + k = n → (∀ j, j < i → P j = false) → loopO b (mk i) = some (match (List.range' i k).find? P with | some i => r i | none => u) := by
    intro k
    induction k with
    | zero =>
      intro i hk hj
      have e : i = n := by omega
      subst e
      exact loopO_inr (hl hj)
    | succ k ih =>
      intro i hk hj
      rw [find_range' (n := n)]
      have h := hb i (by omega) hj
      cases hp : P i with
      | true =>
        rw [hp, if_pos rfl] at h
        rw [if_pos rfl]
        exact loopO_inr h
      | false =>
        rw [hp, if_neg (by decide)] at h
        rw [if_neg (by decide), loopO_inl h]
        exact ih (i + 1) (by omega) fun j hj' => by
          by_cases e : j = i
          · rw [e]; exact hp
          · exact hj j (by omega)
  have := main n 0 (by omega) (by intro j hj; omega)
  rwa [show List.range' 0 n = List.range n from List.range_eq_range'.symm] at this
/-- A loop that goes through all, and carries a state. -/
theorem loopO_fold {τ : Type} {b : σ → Option (σ ⊕ χ)} (mk : τ → Nat → σ) (n : Nat) (F : Nat → τ → τ) (g : τ → χ) (I : Nat → τ → Prop) (hI : ∀ i t, i < n → I i t → I (i + 1) (F i t)) (hb : ∀ i t, i < n → I i t → b (mk t i) = some (.inl (mk (F i t) (i + 1)))) (hl : ∀ t, I n t → b (mk t n) = some (.inr (g t))) {t0 : τ} (h0 : I 0 t0) :
    loopO b (mk t0 0) = some (g ((List.range n).foldl (fun t i => F i t) t0)) ∧ I n ((List.range n).foldl (fun t i => F i t) t0) := by
  have main : ∀ (k i : Nat) (t : τ), i + k = n → I i t → loopO b (mk t i) = some (g ((List.range' i k).foldl (fun t i => F i t) t)) ∧ I n ((List.range' i k).foldl (fun t i => F i t) t) := by
    intro k
    induction k with
    | zero =>
      intro i t hk hi
      have e : i = n := by omega
      subst e
      exact ⟨loopO_inr (hl t hi), hi⟩
    | succ k ih =>
      intro i t hk hi
      rw [List.range'_succ, List.foldl_cons, loopO_inl (hb i t (by omega) hi)]
      exact ih (i + 1) (F i t) (by omega) (hI i t (by omega) hi)
  have := main n 0 t0 (by omega) h0
  rwa [show List.range' 0 n = List.range n from List.range_eq_range'.symm] at this
theorem some_bind' {α β : Type} (a : α) (f : α → Option β) : Option.bind (some a) f = f a := rfl
theorem rq_true {c : Bool} (h : c = true) : rq c = some () := by rw [h]; rfl
theorem lt_cast {i n : Nat} : decide ((i : Int) < (n : Int)) = decide (i < n) := by
  by_cases h : i < n
  · rw [decide_eq_true h, decide_eq_true (by omega)]
  · rw [decide_eq_false h, decide_eq_false (by omega)]
theorem wrap_succ {i : Nat} (h : i < 9223372036854775807) : IntKind.wrap .i64 ((i : Int) + 1) = ((i + 1 : Nat) : Int) := by
  rw [wrap_i64 (by omega) (by omega)]; omega
end Go.Eng
