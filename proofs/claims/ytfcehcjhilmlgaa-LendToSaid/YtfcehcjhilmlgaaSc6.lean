import Derived.Test.YtfcehcjhilmlgaaProg
import Derived.Test.YtfcehcjhilmlgaaSc5
section
namespace Go.E
open Go Go.Proofs Go.Eng
theorem en37 : elT Try.prog 37 = none := by kernel_rfl
theorem ae37 : aelT Try.prog 37 = some (2, 1) := by kernel_rfl
theorem en38 : elT Try.prog 38 = none := by kernel_rfl
theorem ae38 : aelT Try.prog 38 = some (2, 1) := by kernel_rfl
theorem en55 : elT Try.prog 55 = none := by kernel_rfl
theorem ae55 : aelT Try.prog 55 = some (5, 1) := by kernel_rfl
theorem el126 : elT Try.prog 126 = some (130, 4, 48) := by kernel_rfl
theorem el22 : elT Try.prog 22 = some (29, 4, 48) := by kernel_rfl
theorem el23 : elT Try.prog 23 = some (25, 2, 16) := by kernel_rfl
theorem el45 : elT Try.prog 45 = some (59, 9, 80) := by kernel_rfl
theorem el46 : elT Try.prog 46 = some (3, 1, 8) := by kernel_rfl
theorem ik3 : intK Try.prog 3 = some .i64 := by kernel_rfl
theorem el47 : elT Try.prog 47 = some (44, 1, 4) := by kernel_rfl
theorem ik44 : intK Try.prog 44 = some .u32 := by kernel_rfl
theorem el48 : elT Try.prog 48 = some (57, 3, 32) := by kernel_rfl
theorem el54 : elT Try.prog 54 = some (52, 5, 40) := by kernel_rfl
theorem el74 : elT Try.prog 74 = some (4, 1, 1) := by kernel_rfl
theorem el84 : elT Try.prog 84 = some (88, 6, 48) := by kernel_rfl
theorem el94 : elT Try.prog 94 = some (27, 3, 40) := by kernel_rfl
theorem el99 : elT Try.prog 99 = some (101, 2, 48) := by kernel_rfl
theorem ft25_0 : fldT Try.prog 25 0 = some 2 := by kernel_rfl
theorem fl101 : flds Try.prog 101 = some [(0, 1), (1, 1)] := by kernel_rfl
theorem fl128 : flds Try.prog 128 = some [(0, 1), (1, 1)] := by kernel_rfl
theorem fl130 : flds Try.prog 130 = some [(0, 3), (3, 1)] := by kernel_rfl
theorem fl25 : flds Try.prog 25 = some [(0, 1), (1, 1)] := by kernel_rfl
theorem fl27 : flds Try.prog 27 = some [(0, 1), (1, 2)] := by kernel_rfl
theorem fl29 : flds Try.prog 29 = some [(0, 1), (1, 3)] := by kernel_rfl
theorem fn38 : flds Try.prog 38 = none := by kernel_rfl
theorem fl52 : flds Try.prog 52 = some [(0, 1), (1, 2), (3, 1), (4, 1)] := by kernel_rfl
theorem fl57 : flds Try.prog 57 = some [(0, 1), (1, 1), (2, 1)] := by kernel_rfl
theorem fl59 : flds Try.prog 59 = some [(0, 1), (1, 1), (2, 1), (3, 1), (4, 2), (6, 1), (7, 1), (8, 1)] := by kernel_rfl
theorem fl62 : flds Try.prog 62 = some [(0, 1), (1, 1), (2, 1)] := by kernel_rfl
theorem fl71 : flds Try.prog 71 = some [(0, 1)] := by kernel_rfl
theorem fl77 : flds Try.prog 77 = some [(0, 1), (1, 1), (2, 1)] := by kernel_rfl
theorem fl86 : flds Try.prog 86 = some [(0, 1), (1, 1), (2, 1), (3, 1), (4, 1)] := by kernel_rfl
theorem fl88 : flds Try.prog 88 = some [(0, 5), (5, 1)] := by kernel_rfl
theorem ik111 : intK Try.prog 111 = some .u64 := by kernel_rfl
theorem ik165 : intK Try.prog 165 = some .u64 := by kernel_rfl
theorem ik2 : intK Try.prog 2 = some .i64 := by kernel_rfl
theorem ik36 : intK Try.prog 36 = some .i16 := by kernel_rfl
theorem ik5 : intK Try.prog 5 = some .u8 := by kernel_rfl
theorem bo4 : isBool Try.prog 4 = true := by kernel_rfl
theorem sl126 : isSl Try.prog 126 = true := by kernel_rfl
theorem sl22 : isSl Try.prog 22 = true := by kernel_rfl
theorem sl23 : isSl Try.prog 23 = true := by kernel_rfl
theorem sl3 : isSl Try.prog 3 = false := by kernel_rfl
theorem sl45 : isSl Try.prog 45 = true := by kernel_rfl
theorem sl46 : isSl Try.prog 46 = true := by kernel_rfl
theorem sl47 : isSl Try.prog 47 = true := by kernel_rfl
theorem sl48 : isSl Try.prog 48 = true := by kernel_rfl
theorem sl54 : isSl Try.prog 54 = true := by kernel_rfl
theorem sl74 : isSl Try.prog 74 = true := by kernel_rfl
theorem sl84 : isSl Try.prog 84 = true := by kernel_rfl
theorem sl94 : isSl Try.prog 94 = true := by kernel_rfl
theorem sl99 : isSl Try.prog 99 = true := by kernel_rfl
theorem st111 : isStr Try.prog 111 = false := by kernel_rfl
theorem st126 : isStr Try.prog 126 = false := by kernel_rfl
theorem st165 : isStr Try.prog 165 = false := by kernel_rfl
theorem st2 : isStr Try.prog 2 = false := by kernel_rfl
theorem st22 : isStr Try.prog 22 = false := by kernel_rfl
theorem st23 : isStr Try.prog 23 = false := by kernel_rfl
theorem st3 : isStr Try.prog 3 = false := by kernel_rfl
theorem st36 : isStr Try.prog 36 = false := by kernel_rfl
theorem st44 : isStr Try.prog 44 = false := by kernel_rfl
theorem st45 : isStr Try.prog 45 = false := by kernel_rfl
theorem st46 : isStr Try.prog 46 = false := by kernel_rfl
theorem st47 : isStr Try.prog 47 = false := by kernel_rfl
theorem st48 : isStr Try.prog 48 = false := by kernel_rfl
theorem st5 : isStr Try.prog 5 = false := by kernel_rfl
theorem st54 : isStr Try.prog 54 = false := by kernel_rfl
theorem st74 : isStr Try.prog 74 = false := by kernel_rfl
theorem st84 : isStr Try.prog 84 = false := by kernel_rfl
theorem st9 : isStr Try.prog 9 = true := by kernel_rfl
theorem st94 : isStr Try.prog 94 = false := by kernel_rfl
theorem st99 : isStr Try.prog 99 = false := by kernel_rfl
theorem sz101 : szT Try.prog 101 = some 2 := by kernel_rfl
theorem sz126 : szT Try.prog 126 = some 1 := by kernel_rfl
theorem sz130 : szT Try.prog 130 = some 4 := by kernel_rfl
theorem sz2 : szT Try.prog 2 = some 1 := by kernel_rfl
theorem sz22 : szT Try.prog 22 = some 1 := by kernel_rfl
theorem sz23 : szT Try.prog 23 = some 1 := by kernel_rfl
theorem sz25 : szT Try.prog 25 = some 2 := by kernel_rfl
theorem sz27 : szT Try.prog 27 = some 3 := by kernel_rfl
theorem sz29 : szT Try.prog 29 = some 4 := by kernel_rfl
theorem sz3 : szT Try.prog 3 = some 1 := by kernel_rfl
theorem sz38 : szT Try.prog 38 = some 2 := by kernel_rfl
theorem sz4 : szT Try.prog 4 = some 1 := by kernel_rfl
theorem sz44 : szT Try.prog 44 = some 1 := by kernel_rfl
theorem sz52 : szT Try.prog 52 = some 5 := by kernel_rfl
theorem sz59 : szT Try.prog 59 = some 9 := by kernel_rfl
theorem sz84 : szT Try.prog 84 = some 1 := by kernel_rfl
theorem sz88 : szT Try.prog 88 = some 6 := by kernel_rfl
theorem zc101 : zc Try.prog 101 = some [.slice none 0 0, .slice none 0 0] := by kernel_rfl
theorem zc128 : zc Try.prog 128 = some [.slice none 0 0, .bool false] := by kernel_rfl
theorem zc130 : zc Try.prog 130 = some [.slice none 0 0, .int .i64 0, .int .i64 0, .int .i64 0] := by kernel_rfl
theorem zc25 : zc Try.prog 25 = some [.int .i64 0, .int .i64 0] := by kernel_rfl
theorem zc27 : zc Try.prog 27 = some [.slice none 0 0, .int .i64 0, .int .i64 0] := by kernel_rfl
theorem zc29 : zc Try.prog 29 = some [.int .i64 0, .slice none 0 0, .int .i64 0, .int .i64 0] := by kernel_rfl
theorem zc3 : zc Try.prog 3 = some [.int .i64 0] := by kernel_rfl
theorem zc38 : zc Try.prog 38 = some [.int .i64 0, .int .i64 0] := by kernel_rfl
theorem zc52 : zc Try.prog 52 = some [.int .i64 0, .int .i64 0, .int .i64 0, .int .i64 0, .int .u32 0] := by kernel_rfl
theorem zc55 : zc Try.prog 55 = some [.int .i64 0, .int .i64 0, .int .i64 0, .int .i64 0, .int .i64 0] := by kernel_rfl
theorem zc57 : zc Try.prog 57 = some [.int .i64 0, .int .i64 0, .string .empty] := by kernel_rfl
theorem zc59 : zc Try.prog 59 = some [.string .empty, .bool false, .string .empty, .int .i64 0, .int .i64 0, .int .i64 0, .int .u32 0, .int .u32 0, .int .u32 0] := by kernel_rfl
theorem zc71 : zc Try.prog 71 = some [.bool false] := by kernel_rfl
theorem zc77 : zc Try.prog 77 = some [.slice none 0 0, .slice none 0 0, .bool false] := by kernel_rfl
theorem zc86 : zc Try.prog 86 = some [.slice none 0 0, .slice none 0 0, .slice none 0 0, .slice none 0 0, .slice none 0 0] := by kernel_rfl
theorem zc88 : zc Try.prog 88 = some [.int .i64 0, .int .i64 0, .int .i64 0, .int .i64 0, .int .u32 0, .bool false] := by kernel_rfl
theorem tk2 : tk Try.prog 2 = .one := by kernel_rfl
theorem tk3 : tk Try.prog 3 = .one := by kernel_rfl
theorem tk4 : tk Try.prog 4 = .one := by kernel_rfl
theorem tk9 : tk Try.prog 9 = .one := by kernel_rfl
theorem tk22 : tk Try.prog 22 = .one := by kernel_rfl
theorem tk23 : tk Try.prog 23 = .one := by kernel_rfl
theorem tk25 : tk Try.prog 25 = .row 2 := by kernel_rfl
theorem tk27 : tk Try.prog 27 = .row 3 := by kernel_rfl
theorem tk29 : tk Try.prog 29 = .row 4 := by kernel_rfl
theorem tk44 : tk Try.prog 44 = .one := by kernel_rfl
theorem tk47 : tk Try.prog 47 = .one := by kernel_rfl
theorem tk52 : tk Try.prog 52 = .row 5 := by kernel_rfl
theorem tk54 : tk Try.prog 54 = .one := by kernel_rfl
theorem tk57 : tk Try.prog 57 = .row 3 := by kernel_rfl
theorem tk59 : tk Try.prog 59 = .row 9 := by kernel_rfl
theorem tk62 : tk Try.prog 62 = .row 3 := by kernel_rfl
theorem tk74 : tk Try.prog 74 = .one := by kernel_rfl
theorem tk84 : tk Try.prog 84 = .one := by kernel_rfl
theorem tk101 : tk Try.prog 101 = .row 2 := by kernel_rfl
theorem tk126 : tk Try.prog 126 = .one := by kernel_rfl
theorem tk130 : tk Try.prog 130 = .row 4 := by kernel_rfl
theorem tk178 : tk Try.prog 178 = .one := by kernel_rfl
theorem mix : Try.prog.follows .mixedOrders = true := by kernel_rfl
attribute [simp] en37 ae37 en38 ae38 en55 ae55 el126 el22 el23 el45 el46 ik3 el47 ik44 el48 el54 el74 el84 el94 el99 ft25_0 fl101 fl128 fl130 fl25 fl27 fl29 fn38 fl52 fl57 fl59 fl62 fl71 fl77 fl86 fl88 ik111 ik165 ik2 ik36 ik5 bo4 sl126 sl22 sl23 sl3 sl45 sl46 sl47 sl48 sl54 sl74 sl84 sl94 sl99 st111 st126 st165 st2 st22 st23 st3 st36 st44 st45 st46 st47 st48 st5 st54 st74 st84 st9 st94 st99 sz101 sz126 sz130 sz2 sz22 sz23 sz25 sz27 sz29 sz3 sz38 sz4 sz44 sz52 sz59 sz84 sz88 zc101 zc128 zc130 zc25 zc27 zc29 zc3 zc38 zc52 zc55 zc57 zc59 zc71 zc77 zc86 zc88 tk2 tk3 tk4 tk9 tk22 tk23 tk25 tk27 tk29 tk44 tk47 tk52 tk54 tk57 tk59 tk62 tk74 tk84 tk101 tk126 tk130 tk178
attribute [go_sem] en37 ae37 en38 ae38 en55 ae55 el126 el22 el23 el45 el46 ik3 el47 ik44 el48 el54 el74 el84 el94 el99 ft25_0 fl101 fl128 fl130 fl25 fl27 fl29 fn38 fl52 fl57 fl59 fl62 fl71 fl77 fl86 fl88 ik111 ik165 ik2 ik36 ik5 bo4 sl126 sl22 sl23 sl3 sl45 sl46 sl47 sl48 sl54 sl74 sl84 sl94 sl99 st111 st126 st165 st2 st22 st23 st3 st36 st44 st45 st46 st47 st48 st5 st54 st74 st84 st9 st94 st99 sz101 sz126 sz130 sz2 sz22 sz23 sz25 sz27 sz29 sz3 sz38 sz4 sz44 sz52 sz59 sz84 sz88 zc101 zc128 zc130 zc25 zc27 zc29 zc3 zc38 zc52 zc55 zc57 zc59 zc71 zc77 zc86 zc88 tk2 tk3 tk4 tk9 tk22 tk23 tk25 tk27 tk29 tk44 tk47 tk52 tk54 tk57 tk59 tk62 tk74 tk84 tk101 tk126 tk130 tk178
end Go.E
end
section
namespace BallBits
def nv : List Bool → Nat
  | [] => 0
  | b :: l => b.toNat + 2 * nv l
def bof (n : Nat) : List Bool := if h : n = 0 then [] else (n % 2 == 1) :: bof (n / 2)
termination_by n
decreasing_by omega
theorem bof_zero : bof 0 = [] := by rw [bof]; simp
theorem bof_pos {n : Nat} (h : n ≠ 0) : bof n = (n % 2 == 1) :: bof (n / 2) := by rw [bof]; simp [h]
theorem nv_cons (b : Bool) (l : List Bool) : nv (b :: l) = b.toNat + 2 * nv l := rfl
theorem nv_bof (n : Nat) : nv (bof n) = n := by
  induction n using Nat.strongRecOn with
  | _ n ih =>
    by_cases h : n = 0
    · subst h; simp [bof_zero, nv]
    · rw [bof_pos h, nv_cons, ih (n / 2) (by omega)]
      rcases Nat.mod_two_eq_zero_or_one n with e | e <;> simp [e] <;> omega
theorem bof_cons {b : Bool} {m : Nat} (h : b = true ∨ m ≠ 0) : bof (b.toNat + 2 * m) = b :: bof m := by
  have h0 : b.toNat + 2 * m ≠ 0 := by rcases h with h | h <;> cases b <;> simp_all <;> omega
  rw [bof_pos h0]
  cases b <;> simp <;> (first | (congr 1; omega) | skip)
theorem nv_append (a b : List Bool) : nv (a ++ b) = nv a + 2 ^ a.length * nv b := by
  induction a with
  | nil => simp [nv]
  | cons c a ih => simp only [List.cons_append, nv_cons, ih, List.length_cons, Nat.pow_succ]; grind
theorem nv_lt (a : List Bool) : nv a < 2 ^ a.length := by
  induction a with
  | nil => simp [nv]
  | cons c a ih => simp only [nv_cons, List.length_cons, Nat.pow_succ]; cases c <;> simp <;> omega
theorem bof_nv_last (a : List Bool) : bof (nv (a ++ [true])) = a ++ [true] := by
  induction a with
  | nil => simp [nv, bof_pos, bof_zero]
  | cons c a ih =>
    simp only [List.cons_append, nv_cons]
    rw [bof_cons, ih]
    right
    rw [nv_append]
    have : 0 < 2 ^ a.length := Nat.pow_pos (by omega)
    simp [nv]
theorem length_bof_le {n m : Nat} (h : n < 2 ^ m) : (bof n).length ≤ m := by
  induction m generalizing n with
  | zero => simp at h; subst h; simp [bof_zero]
  | succ m ih =>
    by_cases h0 : n = 0
    · subst h0; simp [bof_zero]
    · rw [bof_pos h0]
      have := ih (n := n / 2) (by rw [Nat.pow_succ] at h; omega)
      simp; omega
theorem lt_of_length {n m : Nat} (h : (bof n).length ≤ m) : n < 2 ^ m := by
  have h1 := nv_lt (bof n)
  rw [nv_bof] at h1
  exact Nat.lt_of_lt_of_le h1 (Nat.pow_le_pow_right (by omega) h)
theorem nv_take_succ (l : List Bool) (i : Nat) (h : i < l.length) : nv (l.take (i + 1)) = nv (l.take i) + 2 ^ i * (l.getD i false).toNat := by
  rw [List.take_succ_eq_append_getElem h, nv_append]
  simp [nv, List.length_take, Nat.min_eq_left (Nat.le_of_lt h), List.getD_eq_getElem?_getD, List.getElem?_eq_getElem h]
theorem nv_drop (l : List Bool) (i : Nat) (h : i < l.length) : nv (l.drop i) = (l.getD i false).toNat + 2 * nv (l.drop (i + 1)) := by
  rw [List.drop_eq_getElem_cons h, nv_cons]
  simp [List.getD_eq_getElem?_getD, List.getElem?_eq_getElem h]
theorem nv_drop' (l : List Bool) (i : Nat) : nv (l.drop i) = (l.getD i false).toNat + 2 * nv (l.drop (i + 1)) := by
  by_cases h : i < l.length
  · exact nv_drop l i h
  · rw [List.drop_eq_nil_of_le (by omega), List.drop_eq_nil_of_le (by omega)]
    simp [nv, List.getD_eq_getElem?_getD, List.getElem?_eq_none (by omega : l.length ≤ i)]
theorem take_one_bof (l : List Bool) (i : Nat) (h : i < l.length) (hb : l.getD i false = true) : bof (nv (l.take (i + 1))) = l.take (i + 1) := by
  have e : l.take (i + 1) = l.take i ++ [true] := by
    rw [List.take_succ_eq_append_getElem h]
    simp [List.getD_eq_getElem?_getD, List.getElem?_eq_getElem h] at hb
    rw [hb]
  rw [e, bof_nv_last]
end BallBits
end
