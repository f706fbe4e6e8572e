import Derived.Test.YtnahfkmdojbpkaaEX
/-! The engine, part Y: a slice that grows. -/
set_option linter.all false
namespace Go.Eng
/-- A slice that may grow in place, or has not begun to: its object's slot is t. -/
def Grow (G : Heap) (d t n : Nat) (es : List (List PV)) (g : GV) : Prop := (g = .csl es ∧ G d t = []) ∨ (g = .tsl es (d, t, 0) ∧ get G (d, t, 0) = some (.tok es.length n))
theorem Grow.start {G : Heap} {d t n : Nat} {es : List (List PV)} (h : G d t = []) : Grow G d t n es (.csl es) := .inl ⟨rfl, h⟩
theorem Grow.wk {G : Heap} {d t n : Nat} {es : List (List PV)} {g : GV} (h : Grow G d t n es g) : wkR g (.p (.sl es)) := by
  rcases h with ⟨rfl, _⟩ | ⟨rfl, _⟩ <;> unfold wkR
  · exact .inr rfl
  · exact .inl rfl
theorem Grow.len {G : Heap} {d t n : Nat} {es : List (List PV)} {g : GV} (h : Grow G d t n es g) : lenOf g = some es.length := by
  rcases h with ⟨rfl, _⟩ | ⟨rfl, _⟩ <;> rfl
theorem Grow.elems {G : Heap} {d t n : Nat} {es : List (List PV)} {g : GV} (h : Grow G d t n es g) : Go.Eng.elems g = some es := by
  rcases h with ⟨rfl, _⟩ | ⟨rfl, _⟩ <;> rfl
section
variable {P : Program} {C : CR} {A : Ann} {d : Nat}
theorem append_grow {K : St → Prop} {F : Nat → GV} {G : Heap} {ty tx : TypeId} {es xs : List (List PV)} {g x : GV} {j : Nat} {e n b : Nat} (hg : Grow G d j n es g) (he : elT P ty = some (e, n, b)) (hx : srcOf P G tx n x = some xs) (ha : A.pureAt j = false)
    (h1 : sizes es n) (h2 : sizes xs n) (hb : (es.length + xs.length) * b ≤ 140737488355328) (hne : xs ≠ [])
    (hK : ∀ G', get G' (d, j, 0) = some (.tok (es ++ xs).length n) → (∀ k i, ¬ (k = d ∧ i = j) → G' k i = G k i) → (∀ d' X, d' < d → agree d' G X → agree d' G' X) → K ⟨upd F j (.tsl (es ++ xs) (d, j, 0)), G'⟩) (hra : A.arrAt j = false := by rfl) (hop : A.openAt j = false := by rfl) :
    gAppend P A d G ty tx g x (some j) (kont d (some j) K ⟨F, G⟩) := by
  rcases hg with ⟨rfl, hf⟩ | ⟨rfl, ht⟩
  · refine append_new he hx ha h1 h2 hb hne hf ?_ hra hop
    refine hK (fillKey G d j [.tok (es.length + xs.length) n]) ?_ ?_ ?_
    · simp
    · intro k i hki
      unfold fillKey
      rw [if_neg hki]
    · intro d' X hd h k i hk
      unfold fillKey
      rw [if_neg (by omega)]
      exact h k i hk
  · refine append_tok he hx ha h1 h2 hb ht ?_
    refine hK (setKey G (d, j, 0) (.tok (es.length + xs.length) n)) ?_ ?_ ?_
    · simp [get_set3, ht]
    · intro k i hki
      unfold setKey
      simp [hki]
    · intro d' X hd h k i hk
      unfold setKey
      have : ¬ (k = d) := by omega
      simp only [this, false_and, if_false]
      exact h k i hk
end
end Go.Eng
