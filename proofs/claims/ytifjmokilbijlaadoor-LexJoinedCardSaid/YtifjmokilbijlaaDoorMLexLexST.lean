-- The tokens of a text, in plain Lean: what lex.Tokens and ballcockref05.Tokens are to be told by. (No program in sight.)
set_option linter.unusedVariables false
namespace BallLex
/-- The byte at a place; 0 behind the end. -/
def by_ (s : ByteArray) (i : Nat) : Nat := if h : i < s.size then (s[i]'h).toNat else 0
def blank (c : Nat) : Bool := c == 32 || c == 9 || c == 10 || c == 13
def letter (c : Nat) : Bool := (decide (97 ≤ c) && decide (c ≤ 122)) || (decide (65 ≤ c) && decide (c ≤ 90)) || c == 95
def digit (c : Nat) : Bool := decide (48 ≤ c) && decide (c ≤ 57)
def sign (c : Nat) : Bool := [123, 125, 40, 41, 59, 44, 46, 58, 61, 60, 43, 45, 42, 47, 124, 38].contains c
/-- As far as bytes are so. -/
def rp (p : Nat → Bool) (s : ByteArray) (i : Nat) : Nat := if _h : i < s.size ∧ p (by_ s i) = true then rp p s (i + 1) else i
termination_by s.size - i
theorem rp_stop {p : Nat → Bool} {s : ByteArray} {i : Nat} (h : ¬ (i < s.size ∧ p (by_ s i) = true)) : rp p s i = i := by rw [rp, dif_neg h]
theorem rp_go {p : Nat → Bool} {s : ByteArray} {i : Nat} (h : i < s.size) (hp : p (by_ s i) = true) : rp p s i = rp p s (i + 1) := by rw [rp, dif_pos ⟨h, hp⟩]
theorem rp_ge (p : Nat → Bool) (s : ByteArray) (i : Nat) : i ≤ rp p s i := by
  rw [rp]
  split
  · have := rp_ge p s (i + 1); omega
  · exact Nat.le_refl _
termination_by s.size - i
theorem rp_le (p : Nat → Bool) (s : ByteArray) (i : Nat) (hi : i ≤ s.size) : rp p s i ≤ s.size := by
  rw [rp]
  split
  · exact rp_le p s (i + 1) (by omega)
  · exact hi
termination_by s.size - i
theorem rp_gt {p : Nat → Bool} {s : ByteArray} {i : Nat} (h : i < s.size) (hp : p (by_ s i) = true) : i < rp p s i := by
  rw [rp_go h hp]; have := rp_ge p s (i + 1); omega
/-- Not a line's end. -/
def inLine (c : Nat) : Bool := !(c == 10)
/-- Behind blanks and remarks. -/
def nb (s : ByteArray) (i : Nat) : Nat :=
  if h : i < s.size then
    if blank (by_ s i) = true then nb s (i + 1)
    else if h2 : by_ s i = 35 then nb s (rp inLine s i)
    else i
  else i
termination_by s.size - i
decreasing_by
  · omega
  · have := rp_gt (p := inLine) h (by rw [h2]; rfl)
    have := rp_le inLine s i (by omega)
    omega
theorem nb_blank {s : ByteArray} {i : Nat} (h : i < s.size) (hb : blank (by_ s i) = true) : nb s i = nb s (i + 1) := by rw [nb, dif_pos h, if_pos hb]
theorem nb_mark {s : ByteArray} {i : Nat} (h : i < s.size) (h2 : by_ s i = 35) : nb s i = nb s (rp inLine s i) := by
  rw [nb, dif_pos h, if_neg (by rw [h2]; decide), dif_pos h2]
theorem nb_end {s : ByteArray} {i : Nat} (h : ¬ i < s.size) : nb s i = i := by rw [nb, dif_neg h]
theorem nb_stop {s : ByteArray} {i : Nat} (h : i < s.size) (hb : blank (by_ s i) = false) (h2 : by_ s i ≠ 35) : nb s i = i := by
  rw [nb, dif_pos h, if_neg (by simp [hb]), dif_neg h2]
theorem nb_run (s : ByteArray) (i : Nat) : nb s (rp blank s i) = nb s i := by
  rw [rp]
  split
  · rename_i h
    rw [nb_run s (i + 1), nb_blank h.1 h.2]
  · rfl
termination_by s.size - i
theorem nb_ge (s : ByteArray) (i : Nat) : i ≤ nb s i := by
  rw [nb]
  split
  · split
    · have := nb_ge s (i + 1); omega
    · split
      · rename_i h _ h2
        have h3 := rp_gt (p := inLine) h (by rw [h2]; rfl)
        have h4 := rp_le inLine s i (by omega)
        have := nb_ge s (rp inLine s i)
        omega
      · exact Nat.le_refl _
  · exact Nat.le_refl _
termination_by s.size - i
theorem nb_le (s : ByteArray) (i : Nat) (hi : i ≤ s.size) : nb s i ≤ s.size := by
  rw [nb]
  split
  · split
    · exact nb_le s (i + 1) (by omega)
    · split
      · rename_i h _ h2
        have h3 := rp_gt (p := inLine) h (by rw [h2]; rfl)
        have h4 := rp_le inLine s i (by omega)
        exact nb_le s (rp inLine s i) h4
      · exact hi
  · exact hi
termination_by s.size - i
/-- Two bytes that are one sign. -/
def pair (s : ByteArray) (i : Nat) : Bool := decide (i + 1 < s.size) && ((by_ s i == 61 && by_ s (i + 1) == 61) || (by_ s i == 45 && by_ s (i + 1) == 62))
/-- The token at a place that is no blank: its kind and where it ends; none: a fault. -/
def tokAt (s : ByteArray) (i : Nat) : Option (Nat × Nat) :=
  if letter (by_ s i) = true then some (0, rp (fun c => letter c || digit c) s i)
  else if digit (by_ s i) = true then (if 18 < rp digit s i - i then none else some (1, rp digit s i))
  else if pair s i = true then some (2, i + 2)
  else if sign (by_ s i) = true then some (2, i + 1)
  else none
theorem tokAt_gt {s : ByteArray} {i k j : Nat} (h : i < s.size) (ht : tokAt s i = some (k, j)) : i < j ∧ j ≤ s.size := by
  unfold tokAt at ht
  split at ht
  · rename_i h1
    obtain ⟨_, rfl⟩ := Prod.mk.inj (Option.some.inj ht)
    exact ⟨rp_gt h (by simp [h1]), rp_le _ s i (by omega)⟩
  · split at ht
    · rename_i h1
      split at ht
      · cases ht
      · obtain ⟨_, rfl⟩ := Prod.mk.inj (Option.some.inj ht)
        exact ⟨rp_gt h h1, rp_le _ s i (by omega)⟩
    · split at ht
      · rename_i h1
        obtain ⟨_, rfl⟩ := Prod.mk.inj (Option.some.inj ht)
        simp [pair] at h1
        omega
      · split at ht
        · obtain ⟨_, rfl⟩ := Prod.mk.inj (Option.some.inj ht)
          omega
        · cases ht
/-- A token: its kind, from where, to where. -/
structure Tk where
  k : Nat
  a : Nat
  b : Nat
/-- The tokens from a place on (.inl), or where the first fault stands (.inr). -/
def toks (s : ByteArray) (i : Nat) : List Tk ⊕ Nat :=
  if h : nb s i < s.size then
    match ht : tokAt s (nb s i) with
    | none => .inr (nb s i)
    | some (k, j) => match toks s j with
      | .inl l => .inl (⟨k, nb s i, j⟩ :: l)
      | .inr e => .inr e
  else .inl [⟨3, s.size, s.size⟩]
termination_by s.size - i
decreasing_by
  have := nb_ge s i
  have := tokAt_gt h ht
  omega
theorem toks_end {s : ByteArray} {i : Nat} (h : ¬ nb s i < s.size) : toks s i = .inl [⟨3, s.size, s.size⟩] := by rw [toks, dif_neg h]
theorem toks_bad {s : ByteArray} {i : Nat} (h : nb s i < s.size) (ht : tokAt s (nb s i) = none) : toks s i = .inr (nb s i) := by
  rw [toks, dif_pos h]
  split
  · rfl
  · rename_i h2; rw [ht] at h2; cases h2
theorem toks_more {s : ByteArray} {i k j : Nat} (h : nb s i < s.size) (ht : tokAt s (nb s i) = some (k, j)) : toks s i = match toks s j with
    | .inl l => .inl (⟨k, nb s i, j⟩ :: l)
    | .inr e => .inr e := by
  rw [toks, dif_pos h]
  split
  · rename_i h2; rw [ht] at h2; cases h2
  · rename_i h2
    rw [ht] at h2
    obtain ⟨rfl, rfl⟩ := Prod.mk.inj (Option.some.inj h2)
    rfl
end BallLex
