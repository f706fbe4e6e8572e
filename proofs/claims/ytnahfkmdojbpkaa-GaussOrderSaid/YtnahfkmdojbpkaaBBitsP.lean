namespace BallBits
/-- The number that a row of bof tells, the least first. -/
def nv : List Bool → Nat
  | [] => 0
  | b :: l => b.toNat + 2 * nv l
/-- The bof of a number, the least first, the last one set. -/
def bof (n : Nat) : List Bool := if h : n = 0 then [] else (n % 2 == 1) :: bof (n / 2)
termination_by n
decreasing_by omega
theorem bof_zero : bof 0 = [] := by rw [bof]; simp
theorem bof_pos {n : Nat} (h : n ≠ 0) : bof n = (n % 2 == 1) :: bof (n / 2) := by rw [bof]; simp [h]
theorem nv_nil : nv [] = 0 := rfl
theorem nv_cons (b : Bool) (l : List Bool) : nv (b :: l) = b.toNat + 2 * nv l := rfl
theorem nv_bof (n : Nat) : nv (bof n) = n := by
  induction n using Nat.strongRecOn with
  | _ n ih =>
    by_cases h : n = 0
    · subst h; simp [bof_zero, nv]
    · rw [bof_pos h, nv_cons, ih (n / 2) (by omega)]
      rcases Nat.mod_two_eq_zero_or_one n with e | e <;> simp [e] <;> omega
theorem bof_cons {b : Bool} {m : Nat} (h : b = true ∨ m ≠ 0) : bof (b.toNat + 2 * m) = b :: bof m := by
  have h0 : b.toNat + 2 * m ≠ 0 := by rcases h with h | h <;> cases b <;> simp_all <;> omega
  rw [bof_pos h0]
  cases b <;> simp <;> (first | (congr 1; omega) | skip)
theorem nv_append (a b : List Bool) : nv (a ++ b) = nv a + 2 ^ a.length * nv b := by
  induction a with
  | nil => simp [nv]
  | cons c a ih => simp only [List.cons_append, nv_cons, ih, List.length_cons, Nat.pow_succ]; grind
theorem nv_lt (a : List Bool) : nv a < 2 ^ a.length := by
  induction a with
  | nil => simp [nv]
  | cons c a ih => simp only [nv_cons, List.length_cons, Nat.pow_succ]; cases c <;> simp <;> omega
theorem bof_nv_last (a : List Bool) : bof (nv (a ++ [true])) = a ++ [true] := by
  induction a with
  | nil => simp [nv, bof_pos, bof_zero]
  | cons c a ih =>
    simp only [List.cons_append, nv_cons]
    rw [bof_cons, ih]
    right
    rw [nv_append]
    have : 0 < 2 ^ a.length := Nat.pow_pos (by omega)
    simp [nv]
theorem length_bof_le {n m : Nat} (h : n < 2 ^ m) : (bof n).length ≤ m := by
  induction m generalizing n with
  | zero => simp at h; subst h; simp [bof_zero]
  | succ m ih =>
    by_cases h0 : n = 0
    · subst h0; simp [bof_zero]
    · rw [bof_pos h0]
      have := ih (n := n / 2) (by rw [Nat.pow_succ] at h; omega)
      simp; omega
theorem lt_of_length {n m : Nat} (h : (bof n).length ≤ m) : n < 2 ^ m := by
  have h1 := nv_lt (bof n)
  rw [nv_bof] at h1
  exact Nat.lt_of_lt_of_le h1 (Nat.pow_le_pow_right (by omega) h)
theorem length_bof (n m : Nat) : (bof n).length ≤ m ↔ n < 2 ^ m := ⟨lt_of_length, length_bof_le⟩
theorem bof_eq_nil {n : Nat} : bof n = [] ↔ n = 0 := by
  constructor
  · intro h; have := nv_bof n; rw [h] at this; simp [nv] at this; omega
  · rintro rfl; exact bof_zero
theorem nv_take_succ (l : List Bool) (i : Nat) (h : i < l.length) : nv (l.take (i + 1)) = nv (l.take i) + 2 ^ i * (l.getD i false).toNat := by
  rw [List.take_succ_eq_append_getElem h, nv_append]
  simp [nv, List.length_take, Nat.min_eq_left (Nat.le_of_lt h), List.getD_eq_getElem?_getD, List.getElem?_eq_getElem h]
theorem nv_drop (l : List Bool) (i : Nat) (h : i < l.length) : nv (l.drop i) = (l.getD i false).toNat + 2 * nv (l.drop (i + 1)) := by
  rw [List.drop_eq_getElem_cons h, nv_cons]
  simp [List.getD_eq_getElem?_getD, List.getElem?_eq_getElem h]
theorem nv_drop' (l : List Bool) (i : Nat) : nv (l.drop i) = (l.getD i false).toNat + 2 * nv (l.drop (i + 1)) := by
  by_cases h : i < l.length
  · exact nv_drop l i h
  · rw [List.drop_eq_nil_of_le (by omega), List.drop_eq_nil_of_le (by omega)]
    simp [nv, List.getD_eq_getElem?_getD, List.getElem?_eq_none (by omega : l.length ≤ i)]
theorem nv_split (l : List Bool) (i : Nat) : nv l = nv (l.take i) + 2 ^ (min i l.length) * nv (l.drop i) := by
  have := nv_append (l.take i) (l.drop i)
  rw [List.take_append_drop, List.length_take] at this
  exact this
theorem take_one_bof (l : List Bool) (i : Nat) (h : i < l.length) (hb : l.getD i false = true) : bof (nv (l.take (i + 1))) = l.take (i + 1) := by
  have e : l.take (i + 1) = l.take i ++ [true] := by
    rw [List.take_succ_eq_append_getElem h]
    simp [List.getD_eq_getElem?_getD, List.getElem?_eq_getElem h] at hb
    rw [hb]
  rw [e, bof_nv_last]
theorem bof_length_eq_of {a b : Nat} (h : (bof a).length < (bof b).length) : a < b := by
  have h1 := lt_of_length (Nat.le_refl (bof a).length)
  have h2 : ¬ b < 2 ^ (bof a).length := by rw [← length_bof]; omega
  omega
end BallBits
