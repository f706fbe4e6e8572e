-- Plain facts on pieces of a text, for lexer.sign. (No program in sight.)
import Derived.Test.YtifjmokilbijlaaDoorMLexLexST
import Derived.Lib.Strings
import Derived.Lib.Bytealg
set_option linter.unusedVariables false
namespace BallLex
open Go
theorem len_ (s : ByteArray) : s.data.toList.length = s.size := (Lib.size_eq s).symm
theorem by_lt {s : ByteArray} {i : Nat} (h : i < s.size) : by_ s i = (s.data.toList[i]'(by rw [len_]; exact h)).toNat := by
  unfold by_; rw [dif_pos h]; rfl
theorem piece2 (s : ByteArray) (i : Nat) (h : i + 1 < s.size) : (s.data.toList.drop i).take 2 = [s.data.toList[i]'(by rw [len_]; omega), s.data.toList[i+1]'(by rw [len_]; omega)] := by
  have hl := len_ s
  apply List.ext_getElem
  · simp; omega
  · intro n h1 h2
    simp at h2
    have : n = 0 ∨ n = 1 := by omega
    rcases this with rfl | rfl <;> simp
theorem piece1 (s : ByteArray) (i : Nat) (h : i < s.size) : (s.data.toList.drop i).take 1 = [s.data.toList[i]'(by rw [len_]; omega)] := by
  have hl := len_ s
  apply List.ext_getElem
  · simp; omega
  · intro n h1 h2
    simp at h2
    subst h2
    simp
theorem tail_ (s : ByteArray) (i k : Nat) : ((s.extract i s.size).extract 0 k).toList = (s.data.toList.drop i).take k := by
  have h : (s.data.toList.drop i).length = s.size - i := by rw [List.length_drop, len_]
  have e : (s.data.toList.drop i).take (s.size - i) = s.data.toList.drop i := List.take_of_length_le (by omega)
  rw [Lib.extract_toList, Lib.extract_data, e, List.drop_zero, Nat.sub_zero]
theorem two_ (s : ByteArray) (i : Nat) (a b : UInt8) (hi : i < s.size) : (decide (2 ≤ (s.extract i s.size).size) && (((s.extract i s.size).extract 0 2).toList == [a, b])) = (decide (i + 1 < s.size) && (by_ s i == a.toNat && by_ s (i + 1) == b.toNat)) := by
  rw [tail_]
  have hz : (s.extract i s.size).size = s.size - i := by rw [ByteArray.size_extract]; omega
  rw [hz]
  by_cases h : i + 1 < s.size
  · rw [decide_eq_true (show 2 ≤ s.size - i by omega), decide_eq_true h, piece2 s i h, by_lt hi, by_lt h]
    have tn : ∀ x y : UInt8, (x == y) = (x.toNat == y.toNat) := fun x y => by
      rw [Bool.eq_iff_iff]; simp [UInt8.toNat_inj]
    simp [tn]
  · rw [decide_eq_false (show ¬ 2 ≤ s.size - i by omega), decide_eq_false h]; rfl
theorem lit2 (s : ByteArray) (i : Nat) (a b : UInt8) (h : i + 1 < s.size) (ha : by_ s i = a.toNat) (hb : by_ s (i + 1) = b.toNat) : (⟨#[a, b]⟩ : ByteArray) = s.extract i (i + 2) := by
  rw [Lib.extract_eq, show i + 2 - i = 2 by omega, piece2 s i h]
  rw [by_lt (by omega)] at ha
  rw [by_lt h] at hb
  rw [UInt8.toNat_inj.1 ha, UInt8.toNat_inj.1 hb]
theorem lit1 (s : ByteArray) (i : Nat) (a : UInt8) (h : i < s.size) (ha : by_ s i = a.toNat) : (⟨#[a]⟩ : ByteArray) = s.extract i (i + 1) := by
  rw [Lib.extract_eq, show i + 1 - i = 1 by omega, piece1 s i h]
  rw [by_lt h] at ha
  rw [UInt8.toNat_inj.1 ha]
theorem lit0 (s : ByteArray) (i : Nat) : (⟨#[]⟩ : ByteArray) = s.extract i i := by
  rw [Lib.extract_eq, Nat.sub_self, List.take_zero]
/-- How long the sign at a place is; 0: none. -/
def sgn (s : ByteArray) (i : Nat) : Nat := if pair s i = true then 2 else if sign (by_ s i) = true then 1 else 0
theorem sign_all : ∀ c : Fin 256, (Lib.indexByte [123, 125, 40, 41, 59, 44, 46, 58, 61, 60, 43, 45, 42, 47, 124, 38] (UInt8.ofNat c.val) < 0) ↔ sign c.val = false := by decide +kernel
theorem sign_lt {c : Nat} (h : c < 256) : sign c = true → c < 128 := by
  intro hs
  simp [sign] at hs
  omega
end BallLex
