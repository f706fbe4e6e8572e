import Derived.Test.YtnahfkmdojbpkaaEMc
import Derived.Test.YtnahfkmdojbpkaaProg
/-! What is asked of types (written by a program of this session). -/
namespace Go.E
open Go Go.Proofs Go.Eng
theorem el22 : elT Try.prog 22 = some (39, 3, 40) := by kernel_rfl
theorem el25 : elT Try.prog 25 = some (3, 1, 8) := by kernel_rfl
theorem ik3 : intK Try.prog 3 = some .i64 := by kernel_rfl
theorem el30 : elT Try.prog 30 = some (36, 2, 16) := by kernel_rfl
theorem el44 : elT Try.prog 44 = some (49, 4, 48) := by kernel_rfl
theorem el87 : elT Try.prog 87 = some (4, 1, 1) := by kernel_rfl
theorem ft36_0 : fldT Try.prog 36 0 = some 2 := by kernel_rfl
theorem fl36 : flds Try.prog 36 = some [(0, 1), (1, 1)] := by kernel_rfl
theorem fl39 : flds Try.prog 39 = some [(0, 1), (1, 2)] := by kernel_rfl
theorem fl46 : flds Try.prog 46 = some [(0, 1), (1, 1)] := by kernel_rfl
theorem fl49 : flds Try.prog 49 = some [(0, 3), (3, 1)] := by kernel_rfl
theorem fl91 : flds Try.prog 91 = some [(0, 1), (1, 1), (2, 1)] := by kernel_rfl
theorem ik2 : intK Try.prog 2 = some .i64 := by kernel_rfl
theorem ik5 : intK Try.prog 5 = some .u8 := by kernel_rfl
theorem ik72 : intK Try.prog 72 = some .u64 := by kernel_rfl
theorem ik99 : intK Try.prog 99 = some .u64 := by kernel_rfl
theorem bo4 : isBool Try.prog 4 = true := by kernel_rfl
theorem sl22 : isSl Try.prog 22 = true := by kernel_rfl
theorem sl25 : isSl Try.prog 25 = true := by kernel_rfl
theorem sl3 : isSl Try.prog 3 = false := by kernel_rfl
theorem sl30 : isSl Try.prog 30 = true := by kernel_rfl
theorem sl44 : isSl Try.prog 44 = true := by kernel_rfl
theorem sl87 : isSl Try.prog 87 = true := by kernel_rfl
theorem st2 : isStr Try.prog 2 = false := by kernel_rfl
theorem st22 : isStr Try.prog 22 = false := by kernel_rfl
theorem st25 : isStr Try.prog 25 = false := by kernel_rfl
theorem st3 : isStr Try.prog 3 = false := by kernel_rfl
theorem st30 : isStr Try.prog 30 = false := by kernel_rfl
theorem st44 : isStr Try.prog 44 = false := by kernel_rfl
theorem st5 : isStr Try.prog 5 = false := by kernel_rfl
theorem st72 : isStr Try.prog 72 = false := by kernel_rfl
theorem st87 : isStr Try.prog 87 = false := by kernel_rfl
theorem st9 : isStr Try.prog 9 = true := by kernel_rfl
theorem st99 : isStr Try.prog 99 = false := by kernel_rfl
theorem sz2 : szT Try.prog 2 = some 1 := by kernel_rfl
theorem sz3 : szT Try.prog 3 = some 1 := by kernel_rfl
theorem sz30 : szT Try.prog 30 = some 1 := by kernel_rfl
theorem sz36 : szT Try.prog 36 = some 2 := by kernel_rfl
theorem sz39 : szT Try.prog 39 = some 3 := by kernel_rfl
theorem sz4 : szT Try.prog 4 = some 1 := by kernel_rfl
theorem sz44 : szT Try.prog 44 = some 1 := by kernel_rfl
theorem sz49 : szT Try.prog 49 = some 4 := by kernel_rfl
theorem sz87 : szT Try.prog 87 = some 1 := by kernel_rfl
theorem sz91 : szT Try.prog 91 = some 3 := by kernel_rfl
theorem zc3 : zc Try.prog 3 = some [.int .i64 0] := by kernel_rfl
theorem zc36 : zc Try.prog 36 = some [.int .i64 0, .int .i64 0] := by kernel_rfl
theorem zc39 : zc Try.prog 39 = some [.slice none 0 0, .int .i64 0, .int .i64 0] := by kernel_rfl
theorem zc46 : zc Try.prog 46 = some [.slice none 0 0, .bool false] := by kernel_rfl
theorem zc49 : zc Try.prog 49 = some [.slice none 0 0, .int .i64 0, .int .i64 0, .int .i64 0] := by kernel_rfl
theorem zc91 : zc Try.prog 91 = some [.slice none 0 0, .slice none 0 0, .bool false] := by kernel_rfl
theorem tk2 : tk Try.prog 2 = .one := by kernel_rfl
theorem tk3 : tk Try.prog 3 = .one := by kernel_rfl
theorem tk4 : tk Try.prog 4 = .one := by kernel_rfl
theorem tk30 : tk Try.prog 30 = .one := by kernel_rfl
theorem tk36 : tk Try.prog 36 = .row 2 := by kernel_rfl
theorem tk39 : tk Try.prog 39 = .row 3 := by kernel_rfl
theorem tk44 : tk Try.prog 44 = .one := by kernel_rfl
theorem tk49 : tk Try.prog 49 = .row 4 := by kernel_rfl
theorem tk87 : tk Try.prog 87 = .one := by kernel_rfl
theorem tk91 : tk Try.prog 91 = .row 3 := by kernel_rfl
theorem tk118 : tk Try.prog 118 = .one := by kernel_rfl
theorem mix : Try.prog.follows .mixedOrders = true := by kernel_rfl
attribute [simp] el22 el25 ik3 el30 el44 el87 ft36_0 fl36 fl39 fl46 fl49 fl91 ik2 ik5 ik72 ik99 bo4 sl22 sl25 sl3 sl30 sl44 sl87 st2 st22 st25 st3 st30 st44 st5 st72 st87 st9 st99 sz2 sz3 sz30 sz36 sz39 sz4 sz44 sz49 sz87 sz91 zc3 zc36 zc39 zc46 zc49 zc91 tk2 tk3 tk4 tk30 tk36 tk39 tk44 tk49 tk87 tk91 tk118
attribute [go_sem] el22 el25 ik3 el30 el44 el87 ft36_0 fl36 fl39 fl46 fl49 fl91 ik2 ik5 ik72 ik99 bo4 sl22 sl25 sl3 sl30 sl44 sl87 st2 st22 st25 st3 st30 st44 st5 st72 st87 st9 st99 sz2 sz3 sz30 sz36 sz39 sz4 sz44 sz49 sz87 sz91 zc3 zc36 zc39 zc46 zc49 zc91 tk2 tk3 tk4 tk30 tk36 tk39 tk44 tk49 tk87 tk91 tk118
end Go.E
