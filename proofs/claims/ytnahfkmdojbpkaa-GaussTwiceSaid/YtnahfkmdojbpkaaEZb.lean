import Derived.Test.YtnahfkmdojbpkaaEZ
/-! The engine: what is known at a loop's head when slots are freed. -/
set_option linter.all false
namespace Go.Eng
theorem clean_cons {d t : Nat} {ts : List Nat} {s : St} : clean d (t :: ts) s = cleanS d (t :: ts) s := rfl
theorem cleanS_F {d t : Nat} {ts : List Nat} {s : St} : (cleanS d ts s).F t = wkA (decide (t + 1000000 ∈ ts)) (poison d ts (s.F t)) := rfl
theorem cleanS_G {d k t : Nat} {ts : List Nat} {s : St} : (cleanS d ts s).G k t = if k = d then (if t ∈ ts then [] else (s.G k t).map (poisonO d ts)) else s.G k t := rfl
theorem get_cleanS {d k t c : Nat} {ts : List Nat} {s : St} : get (cleanS d ts s).G (k, t, c) = if k = d then (if t ∈ ts then none else (get s.G (k, t, c)).map (poisonO d ts)) else get s.G (k, t, c) := by
  unfold get
  dsimp only
  rw [cleanS_G]
  by_cases hk : k = d
  · rw [if_pos hk, if_pos hk]
    by_cases ht : t ∈ ts
    · rw [if_pos ht, if_pos ht]; rfl
    · rw [if_neg ht, if_neg ht]; simp
  · rw [if_neg hk, if_neg hk]
theorem Grow.poison {G : Heap} {d t n : Nat} {es : List (List PV)} {g : GV} {ts : List Nat} (h : Grow G d t n es g) (ht : t ∉ ts) : Go.Eng.poison d ts g = g := by
  rcases h with ⟨rfl, _⟩ | ⟨rfl, _⟩
  · simp [Go.Eng.poison]
  · simp [Go.Eng.poison, ht]
theorem Grow.cleanS {s : St} {d t n : Nat} {es : List (List PV)} {g : GV} {ts : List Nat} (h : Grow s.G d t n es g) (ht : t ∉ ts) : Grow (Go.Eng.cleanS d ts s).G d t n es g := by
  rcases h with ⟨rfl, h⟩ | ⟨rfl, h⟩
  · exact .inl ⟨rfl, by rw [cleanS_G, if_pos rfl, if_neg ht, h]; rfl⟩
  · exact .inr ⟨rfl, by rw [get_cleanS, if_pos rfl, if_neg ht, h]; rfl⟩
theorem agree_cleanS {d d' : Nat} {ts : List Nat} {s : St} {G : Heap} (hd : d' < d) (h : agree d' s.G G) : agree d' (cleanS d ts s).G G := fun k t hk => by
  rw [cleanS_G, if_neg (by omega)]
  exact h k t hk
end Go.Eng
