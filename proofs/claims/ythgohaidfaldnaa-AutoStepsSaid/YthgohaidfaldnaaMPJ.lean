import Derived.Test.YthgohaidfaldnaaMPI
/-! Auto, plain: awake. -/
set_option linter.all false
set_option maxRecDepth 10000
namespace Go.E
open Go Go.Proofs Go.Eng
theorem fst_zero {P : Nat → Bool} : fst 0 P = none := rfl
theorem fst_one_tt {P : Nat → Bool} (h : P 0 = true) : fst 1 P = some 0 := by
  unfold fst
  show (List.range' 0 1).find? P = _
  rw [find_range' (n := 1), h]; rfl
theorem fst_one_ff {P : Nat → Bool} (h : P 0 = false) : fst 1 P = none := by
  unfold fst
  show (List.range' 0 1).find? P = _
  rw [find_range' (n := 1), h]; rfl
theorem dup_zero {n : Nat} {nm : Nat → ByteArray} : dup n nm 0 = false := rfl
theorem sm_one (x : TState) : Sm (⟨ByteArray.empty, [x], []⟩ : TProto) := ⟨by simp, by simp, fun i hi => absurd hi (Nat.not_lt_zero _)⟩
theorem finB_one (x : TState) : finB (⟨ByteArray.empty, [x], []⟩ : TProto) 0 = x.f1 := rfl
theorem W_one (x : TState) : W (⟨ByteArray.empty, [x], []⟩ : TProto) = if x.f1 then (0, 0) else (5, 0) := by
  unfold W
  rw [if_neg (by simp)]
  have e1 : fst (⟨ByteArray.empty, [x], []⟩ : TProto).f1.length (dup (⟨ByteArray.empty, [x], []⟩ : TProto).f1.length (nmS (⟨ByteArray.empty, [x], []⟩ : TProto))) = none := fst_one_ff rfl
  rw [e1]
  dsimp only
  have e2 : ∀ P : Nat → Bool, fst ([] : List TMove).length P = none := fun _ => rfl
  rw [e2, e2, e2]
  dsimp only
  cases hx : x.f1 with
  | true =>
    have e3 : fst [x].length (fun i => !reachB (⟨ByteArray.empty, [x], []⟩ : TProto) i) = none := fst_one_ff (by rw [reachB_tt (.fin (by rw [finB_one, hx]))]; rfl)
    rw [e3]; rfl
  | false =>
    have e3 : fst [x].length (fun i => !reachB (⟨ByteArray.empty, [x], []⟩ : TProto) i) = some 0 := fst_one_tt (by
      rw [reachB_ff fun h => by
        cases h with
        | fin h => rw [finB_one, hx] at h; cases h
        | step he _ => obtain ⟨m, o, h1, _⟩ := he; simp at h1]
      rfl)
    rw [e3]; rfl
theorem awake_tt : m_law09_awake = some true := by
  unfold m_law09_awake
  rw [wrong_auto (sm_one _), new_auto (sm_one _), W_one, W_one]
  simp only [some_bind', if_neg (show ¬ (false = true) by decide), if_pos (show (true = true) from rfl), if_pos (show ((0 : Int), (0 : Int)).1 = 0 from rfl)]
  show Option.bind (m_auto_Auto_Finals (some (⟨(⟨ByteArray.empty, [(⟨(⟨#[65]⟩ : ByteArray), true⟩ : TState)], []⟩ : TProto)⟩ : TAuto_Auto))) (fun r7 => some (decide (r7 = 1))) = some true
  unfold m_auto_Auto_Finals
  obtain ⟨s, h1, h2, h3⟩ := finals_auto (p := (⟨ByteArray.empty, [(⟨(⟨#[65]⟩ : ByteArray), true⟩ : TState)], []⟩ : TProto)) (by simp)
  simp only [some_bind', h1]
  have : s = 1 := by
    apply Nat.eq_of_testBit_eq
    intro i
    rw [h3]
    unfold finB
    cases i with
    | zero => rfl
    | succ i => simp [Nat.testBit_succ]
  rw [this]
  rfl
end Go.E
