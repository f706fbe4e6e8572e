import Derived.Test.YtmgcgkemgomfdaaMD
import Derived.Test.YtmgcgkemgomfdaaEPl
/-! Permissions split part after part: fractions and kinds. -/
set_option linter.all false
set_option maxRecDepth 10000
namespace Go.E
open Go Go.Proofs Go.Eng
abbrev P2 (j : Nat) : TRat := ⟨1, ((2 ^ j : Nat) : Int)⟩
theorem p2_le {j : Nat} (h : j ≤ 13) : 1 ≤ 2 ^ j ∧ 2 ^ j ≤ 8192 := ⟨Nat.one_le_two_pow, Nat.le_trans (Nat.pow_le_pow_right (by decide) h) (by decide)⟩
theorem in_p2 {j : Nat} (h : j ≤ 13) : in64R (P2 j) := by
  obtain ⟨h1, h2⟩ := p2_le h
  unfold in64R P2 BallQ.In64
  dsimp only
  generalize 2 ^ j = x at *
  omega
theorem right_p2 {j : Nat} (h : j ≤ 13) : BallQ.Right 1 ((2 ^ j : Nat) : Int) := by
  obtain ⟨h1, h2⟩ := p2_le h
  refine ⟨by generalize 2 ^ j = x at *; omega, by decide, ?_⟩
  show Nat.gcd 1 _ = 1
  exact Nat.gcd_one_left _
theorem mul_half : ∀ j, j < 13 → mulS 1 ((2 ^ j : Nat) : Int) 1 2 = (1, ((2 ^ (j + 1) : Nat) : Int), 0) := by decide +kernel
theorem m_mul {j : Nat} (h : j < 13) : m_rat_Mul (P2 j) ⟨1, 2⟩ = some (P2 (j + 1), 0) := by
  unfold m_rat_Mul
  rw [rq_true (decide_eq_true ⟨in_p2 (by omega), by decide⟩)]
  show some (toR (mulS 1 ((2 ^ j : Nat) : Int) 1 2)) = _
  rw [mul_half j h]; rfl
theorem m_sub : m_rat_Sub ⟨1, 1⟩ ⟨1, 2⟩ = some (⟨1, 2⟩, 0) := by
  unfold m_rat_Sub m_rat_Right m_rat_minus m_rat_Add
  rw [rq_true (decide_eq_true (by decide : in64R ⟨1, 2⟩))]
  simp only [some_bind']
  rw [show decide (BallQ.Right (⟨1, 2⟩ : TRat).f0 (⟨1, 2⟩ : TRat).f1) = true from by decide +kernel]
  simp only [Bool.not_true, ifB_false]
  rw [rq_true (decide_eq_true (by decide +kernel))]
  simp only [some_bind']
  rw [show addS 1 1 (IntKind.wrap .i64 (0 - 1)) 2 = (1, 2, 0) from by decide +kernel]
  rfl
theorem m_parts {j : Nat} (h : j < 13) : m_perm_parts (P2 j) ⟨1, 2⟩ = some (P2 (j + 1), P2 (j + 1), 0) := by
  unfold m_perm_parts m_perm_one
  simp only [some_bind', m_sub, m_mul h]
  rfl
theorem m_right {j : Nat} (h : j ≤ 13) : m_rat_Right (P2 j) = some true := by
  unfold m_rat_Right
  rw [rq_true (decide_eq_true (in_p2 h))]
  show some (decide (BallQ.Right 1 ((2 ^ j : Nat) : Int))) = _
  rw [decide_eq_true (right_p2 h)]
theorem m_right2 : m_rat_Right ⟨1, 2⟩ = some true := m_right (j := 1) (by decide)
/-- What is left of a kind, where another one is split off. -/
def tab (f k : Int) : Option Int :=
  if f = 0 then (if k = 1 then some 4 else if k = 4 then some 1 else if k = 2 then some 2 else if k = 3 then some 3 else none)
  else if f = 1 then (if k = 1 then some 4 else if k = 4 then some 1 else none)
  else if f = 2 then (if k = 2 then some 2 else if k = 4 then some 2 else none)
  else if f = 3 then (if k = 3 then some 3 else none)
  else if f = 4 then (if k = 4 then some 4 else none) else none
theorem left_tab {f k : Int} (hf : 0 ≤ f ∧ f ≤ 4) (hk : 0 ≤ k ∧ k ≤ 4) : m_perm_left f k = some (match tab f k with | some a => (a, true) | none => (0, false)) := by
  have h1 : f = 0 ∨ f = 1 ∨ f = 2 ∨ f = 3 ∨ f = 4 := by omega
  have h2 : k = 0 ∨ k = 1 ∨ k = 2 ∨ k = 3 ∨ k = 4 := by omega
  rcases h1 with rfl | rfl | rfl | rfl | rfl <;> rcases h2 with rfl | rfl | rfl | rfl | rfl <;> rfl
theorem split_spec {p : TPerm} {j : Nat} {k : Int} (hj : j < 13) (hp : p.f1 = P2 j) (hf : 0 ≤ p.f0 ∧ p.f0 ≤ 4) (hk : 0 ≤ k ∧ k ≤ 4) :
    ∃ a b e, m_perm_Split p k ⟨1, 2⟩ (if p.f0 = 0 ∧ k ≠ 3 then 3 else 0) = some (a, b, e) ∧ (e ≠ 0 ∨ (e = 0 ∧ tab p.f0 k = some a.f0 ∧ b.f0 = k ∧ a.f1 = P2 (j + 1) ∧ b.f1 = P2 (j + 1))) := by
  unfold m_perm_Split
  rw [left_tab hf hk]
  simp only [some_bind']
  have hv2 : (ifB (decide (p.f0 = 0)) (some (!decide (k = 3))) (some false) : Option Bool) = some (decide (p.f0 = 0 ∧ k ≠ 3)) := by
    by_cases h0 : p.f0 = 0 <;> by_cases h3 : k = 3 <;> simp [h0, h3, ifB]
  rw [hv2]
  simp only [some_bind']
  cases ht : tab p.f0 k with
  | none => exact ⟨_, _, _, rfl, .inl (by decide)⟩
  | some a =>
    dsimp only
    rw [hp, m_right (by omega), m_right2]
    simp only [Bool.not_true, ifB_false, some_bind']
    rw [show decide ((⟨1, 2⟩ : TRat).f0 ≤ 0) = false from rfl, show decide ((⟨1, 2⟩ : TRat).f1 ≤ (⟨1, 2⟩ : TRat).f0) = false from rfl]
    simp only [ifB_false]
    have he : (!(decide (p.f0 = 0 ∧ k ≠ 3) == !decide ((if p.f0 = 0 ∧ k ≠ 3 then (3 : Int) else 0) = 0))) = false := by
      by_cases hc : p.f0 = 0 ∧ k ≠ 3
      · simp [hc]
      · simp only [if_neg hc, decide_eq_false hc]; rfl
    rw [he]
    simp only [ifB_false, some_bind', m_parts hj]
    simp only [decide_true, Bool.not_true, ifB_false]
    by_cases hc : p.f0 = 0 ∧ k ≠ 3
    · rw [decide_eq_true hc]
      exact ⟨_, _, _, rfl, .inr ⟨rfl, rfl, rfl, rfl, rfl⟩⟩
    · rw [decide_eq_false hc]
      exact ⟨_, _, _, rfl, .inr ⟨rfl, rfl, rfl, rfl, rfl⟩⟩
theorem awake15 : m_law15_awake = some true := by
  unfold m_law15_awake m_perm_Own m_perm_one
  simp only [some_bind']
  have h : m_perm_Split (⟨0, ⟨1, 1⟩, -1, 0⟩ : TPerm) 3 ⟨1, 3⟩ 0 = some (⟨3, ⟨2, 3⟩, -1, 0⟩, ⟨3, ⟨1, 3⟩, -1, 0⟩, 0) := by
    unfold m_perm_Split
    rw [left_tab (by decide) (by decide)]
    have r1 : m_rat_Right ⟨1, 1⟩ = some true := m_right (j := 0) (by decide)
    have r3 : m_rat_Right ⟨1, 3⟩ = some true := by
      unfold m_rat_Right
      rw [rq_true (decide_eq_true (by decide))]
      show some (decide (BallQ.Right 1 3)) = _
      rw [show decide (BallQ.Right 1 3) = true from by decide +kernel]
    have s3 : m_rat_Sub ⟨1, 1⟩ ⟨1, 3⟩ = some (⟨2, 3⟩, 0) := by
      unfold m_rat_Sub m_rat_minus m_rat_Add
      rw [r3]
      simp only [some_bind', Bool.not_true, ifB_false]
      rw [rq_true (decide_eq_true (by decide +kernel))]
      simp only [some_bind']
      rw [show addS 1 1 (IntKind.wrap .i64 (0 - 1)) 3 = (2, 3, 0) from by decide +kernel]
      rfl
    have p3 : m_perm_parts ⟨1, 1⟩ ⟨1, 3⟩ = some (⟨2, 3⟩, ⟨1, 3⟩, 0) := by
      unfold m_perm_parts m_perm_one m_rat_Mul
      simp only [some_bind', s3]
      rw [rq_true (decide_eq_true (by decide)), rq_true (decide_eq_true (by decide))]
      simp only [some_bind']
      rw [show mulS 1 1 2 3 = (2, 3, 0) from by decide +kernel, show mulS 1 1 1 3 = (1, 3, 0) from by decide +kernel]
      rfl
    simp only [some_bind']
    rw [show tab 0 3 = some 3 from rfl, r1, r3]
    simp only [some_bind']
    simp only [decide_true, ifB_true, some_bind', Bool.not_true, ifB_false]
    rw [show decide ((1 : Int) ≤ 0) = false from rfl, show decide ((3 : Int) ≤ 1) = false from rfl]
    simp only [ifB_false, some_bind', p3]
    rfl
  rw [h]
  rfl
end Go.E
