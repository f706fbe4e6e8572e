namespace BallQ
/-- One digit of a quotient, Knuth's way: base B, a divisor y = y1 B + y0 whose first digit is at least half of B. -/
structure Digit (u c y y1 y0 B qh rh : Nat) : Prop where
  up : qh * y1 + rh = u
  ge : (u * B + c) / y ≤ qh
theorem digit_start {u c y y1 y0 B : Nat} (hy : y = y1 * B + y0) (_h1 : 0 < y1) (hc : c < B) : Digit u c y y1 y0 B (u / y1) (u % y1) := by
  refine ⟨by rw [Nat.mul_comm]; exact Nat.div_add_mod u y1, ?_⟩
  rw [Nat.le_div_iff_mul_le _h1]
  generalize hQ : (u * B + c) / y = Q
  have h := Nat.div_mul_le_self (u * B + c) y
  rw [hQ, hy, Nat.mul_add] at h
  have h2 : (Q * y1) * B ≤ u * B + c := by rw [← Nat.mul_assoc] at h; omega
  have hB : 0 < B := by omega
  rcases Nat.lt_or_ge u (Q * y1) with h3 | h3
  · have : (u + 1) * B ≤ (Q * y1) * B := Nat.mul_le_mul_right _ h3
    rw [Nat.add_mul] at this
    omega
  · exact h3
/-- The trial digit is too great where the test says so. -/
theorem digit_more {u c y y1 y0 B qh rh : Nat} (d : Digit u c y y1 y0 B qh rh) (hy : y = y1 * B + y0) (hyp : 0 < y) (hu : u < y) (hc : c < B) (h : B ≤ qh ∨ B * rh + c < qh * y0) : (u * B + c) / y < qh := by
  rcases h with h | h
  · have : (u * B + c) / y < B := by
      rw [Nat.div_lt_iff_lt_mul hyp]
      have : (u + 1) * B ≤ y * B := Nat.mul_le_mul_right _ hu
      rw [Nat.add_mul] at this
      have e : B * y = y * B := Nat.mul_comm _ _
      omega
    omega
  · rw [Nat.div_lt_iff_lt_mul hyp]
    have e1 : qh * y = (qh * y1) * B + qh * y0 := by rw [hy, Nat.mul_add, Nat.mul_assoc]
    have e2 : u * B = (qh * y1) * B + rh * B := by rw [← d.up, Nat.add_mul]
    have e3 : B * rh = rh * B := Nat.mul_comm _ _
    omega
theorem digit_step {u c y y1 y0 B qh rh : Nat} (d : Digit u c y y1 y0 B qh rh) (h : (u * B + c) / y < qh) : Digit u c y y1 y0 B (qh - 1) (rh + y1) := by
  refine ⟨?_, Nat.le_sub_one_of_lt h⟩
  have := d.up
  have hq : 0 < qh := Nat.lt_of_le_of_lt (Nat.zero_le _) h
  clear h d
  obtain ⟨k, rfl⟩ : ∃ k, qh = k + 1 := ⟨qh - 1, by omega⟩
  rw [Nat.add_mul] at this
  simp; omega
/-- It is the digit where the test says no. -/
theorem digit_end {u c y y1 y0 B qh rh : Nat} (d : Digit u c y y1 y0 B qh rh) (hy : y = y1 * B + y0) (hyp : 0 < y) (h : qh * y0 ≤ B * rh + c) : qh = (u * B + c) / y := by
  apply Nat.le_antisymm _ d.ge
  rw [Nat.le_div_iff_mul_le hyp]
  have e1 : qh * y = (qh * y1) * B + qh * y0 := by rw [hy, Nat.mul_add, Nat.mul_assoc]
  have e2 : u * B = (qh * y1) * B + rh * B := by rw [← d.up, Nat.add_mul]
  have e3 : B * rh = rh * B := Nat.mul_comm _ _
  omega
/-- Or where the rest has a digit more. -/
theorem digit_far {u c y y1 y0 B qh rh : Nat} (d : Digit u c y y1 y0 B qh rh) (hy : y = y1 * B + y0) (hyp : 0 < y) (h0 : y0 < B) (hq : qh ≤ B) (hr : B ≤ rh) : qh = (u * B + c) / y := by
  apply digit_end d hy hyp
  have h1 : qh * y0 ≤ B * B := Nat.mul_le_mul hq (by omega)
  have h2 : B * B ≤ B * rh := Nat.mul_le_mul_left _ hr
  omega
theorem digit_bound {u y y1 y0 B : Nat} (hy : y = y1 * B + y0) (hu : u < y) (h0 : y0 < B) (h1 : B ≤ 2 * y1) (hp : 0 < y1) : u / y1 ≤ B + 1 := by
  have : u < (B + 2) * y1 := by
    have e : (B + 2) * y1 = y1 * B + 2 * y1 := by rw [Nat.add_mul, Nat.mul_comm]
    omega
  have := (Nat.div_lt_iff_lt_mul hp).2 this
  omega
theorem two_digits {U y B u c1 c0 : Nat} (hyp : 0 < y) (hU : U = u * (B * B) + (c1 * B + c0)) :
    U / y = (u * B + c1) / y * B + (((u * B + c1) % y) * B + c0) / y ∧ U % y = (((u * B + c1) % y) * B + c0) % y := by
  have h1 := Nat.div_add_mod (u * B + c1) y
  generalize (u * B + c1) / y = q1 at *
  generalize (u * B + c1) % y = r1 at *
  have e : U = y * (q1 * B) + (r1 * B + c0) := by
    have : U = (u * B + c1) * B + c0 := by rw [hU]; grind
    rw [this, ← h1]; grind
  rw [e]
  constructor
  · rw [Nat.mul_add_div hyp]
  · rw [Nat.mul_add_mod]
end BallQ
