import Derived.Test.YthgohaidfaldnaaEMc
import Derived.Test.YthgohaidfaldnaaProg
/-! What is asked of types (written by a program of this session). -/
namespace Go.E
open Go Go.Proofs Go.Eng
theorem el22 : elT Try.prog 22 = some (62, 2, 24) := by kernel_rfl
theorem el23 : elT Try.prog 23 = some (39, 3, 48) := by kernel_rfl
theorem el37 : elT Try.prog 37 = some (42, 2, 24) := by kernel_rfl
theorem el47 : elT Try.prog 47 = some (9, 1, 16) := by kernel_rfl
theorem el86 : elT Try.prog 86 = some (3, 1, 8) := by kernel_rfl
theorem ik3 : intK Try.prog 3 = some .i64 := by kernel_rfl
theorem fl25 : flds Try.prog 25 = some [(0, 1), (1, 1), (2, 1)] := by kernel_rfl
theorem fl39 : flds Try.prog 39 = some [(0, 1), (1, 1), (2, 1)] := by kernel_rfl
theorem fl42 : flds Try.prog 42 = some [(0, 1), (1, 1)] := by kernel_rfl
theorem fl62 : flds Try.prog 62 = some [(0, 1), (1, 1)] := by kernel_rfl
theorem fl71 : flds Try.prog 71 = some [(0, 3)] := by kernel_rfl
theorem ik5 : intK Try.prog 5 = some .u8 := by kernel_rfl
theorem bo4 : isBool Try.prog 4 = true := by kernel_rfl
theorem pt30 : isPtr Try.prog 30 = true := by kernel_rfl
theorem sl22 : isSl Try.prog 22 = true := by kernel_rfl
theorem sl23 : isSl Try.prog 23 = true := by kernel_rfl
theorem sl3 : isSl Try.prog 3 = false := by kernel_rfl
theorem sl37 : isSl Try.prog 37 = true := by kernel_rfl
theorem sl47 : isSl Try.prog 47 = true := by kernel_rfl
theorem sl86 : isSl Try.prog 86 = true := by kernel_rfl
theorem sl9 : isSl Try.prog 9 = false := by kernel_rfl
theorem st22 : isStr Try.prog 22 = false := by kernel_rfl
theorem st23 : isStr Try.prog 23 = false := by kernel_rfl
theorem st3 : isStr Try.prog 3 = false := by kernel_rfl
theorem st37 : isStr Try.prog 37 = false := by kernel_rfl
theorem st47 : isStr Try.prog 47 = false := by kernel_rfl
theorem st5 : isStr Try.prog 5 = false := by kernel_rfl
theorem st86 : isStr Try.prog 86 = false := by kernel_rfl
theorem st9 : isStr Try.prog 9 = true := by kernel_rfl
theorem sz22 : szT Try.prog 22 = some 1 := by kernel_rfl
theorem sz23 : szT Try.prog 23 = some 1 := by kernel_rfl
theorem sz25 : szT Try.prog 25 = some 3 := by kernel_rfl
theorem sz37 : szT Try.prog 37 = some 1 := by kernel_rfl
theorem sz39 : szT Try.prog 39 = some 3 := by kernel_rfl
theorem sz42 : szT Try.prog 42 = some 2 := by kernel_rfl
theorem sz62 : szT Try.prog 62 = some 2 := by kernel_rfl
theorem sz84 : szT Try.prog 84 = some 1 := by kernel_rfl
theorem zc25 : zc Try.prog 25 = some [.string .empty, .slice none 0 0, .slice none 0 0] := by kernel_rfl
theorem zc39 : zc Try.prog 39 = some [.string .empty, .int .i64 0, .slice none 0 0] := by kernel_rfl
theorem zc42 : zc Try.prog 42 = some [.string .empty, .int .i64 0] := by kernel_rfl
theorem zc62 : zc Try.prog 62 = some [.string .empty, .bool false] := by kernel_rfl
theorem zc71 : zc Try.prog 71 = some [.string .empty, .slice none 0 0, .slice none 0 0] := by kernel_rfl
theorem zc84 : zc Try.prog 84 = some [.nilFunc] := by kernel_rfl
theorem tk3 : tk Try.prog 3 = .one := by kernel_rfl
theorem tk4 : tk Try.prog 4 = .one := by kernel_rfl
theorem tk9 : tk Try.prog 9 = .one := by kernel_rfl
theorem tk22 : tk Try.prog 22 = .one := by kernel_rfl
theorem tk23 : tk Try.prog 23 = .one := by kernel_rfl
theorem tk25 : tk Try.prog 25 = .row 3 := by kernel_rfl
theorem tk37 : tk Try.prog 37 = .one := by kernel_rfl
theorem tk39 : tk Try.prog 39 = .row 3 := by kernel_rfl
theorem tk42 : tk Try.prog 42 = .row 2 := by kernel_rfl
theorem tk62 : tk Try.prog 62 = .row 2 := by kernel_rfl
theorem tk84 : tk Try.prog 84 = .one := by kernel_rfl
theorem mix : Try.prog.follows .mixedOrders = true := by kernel_rfl
attribute [simp] el22 el23 el37 el47 el86 ik3 fl25 fl39 fl42 fl62 fl71 ik5 bo4 pt30 sl22 sl23 sl3 sl37 sl47 sl86 sl9 st22 st23 st3 st37 st47 st5 st86 st9 sz22 sz23 sz25 sz37 sz39 sz42 sz62 sz84 zc25 zc39 zc42 zc62 zc71 zc84 tk3 tk4 tk9 tk22 tk23 tk25 tk37 tk39 tk42 tk62 tk84
attribute [go_sem] el22 el23 el37 el47 el86 ik3 fl25 fl39 fl42 fl62 fl71 ik5 bo4 pt30 sl22 sl23 sl3 sl37 sl47 sl86 sl9 st22 st23 st3 st37 st47 st5 st86 st9 sz22 sz23 sz25 sz37 sz39 sz42 sz62 sz84 zc25 zc39 zc42 zc62 zc71 zc84 tk3 tk4 tk9 tk22 tk23 tk25 tk37 tk39 tk42 tk62 tk84
end Go.E
