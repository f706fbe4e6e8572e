import Derived.Test.YtmgcgkemgomfdaaEMc
import Derived.Test.YtmgcgkemgomfdaaProg
/-! What is asked of types (written by a program of this session). -/
namespace Go.E
open Go Go.Proofs Go.Eng
theorem en34 : elT Try.prog 34 = none := by kernel_rfl
theorem ae34 : aelT Try.prog 34 = some (5, 1) := by kernel_rfl
theorem el22 : elT Try.prog 22 = some (5, 1, 1) := by kernel_rfl
theorem ik5 : intK Try.prog 5 = some .u8 := by kernel_rfl
theorem el30 : elT Try.prog 30 = some (28, 5, 40) := by kernel_rfl
theorem el45 : elT Try.prog 45 = some (4, 1, 1) := by kernel_rfl
theorem fl25 : flds Try.prog 25 = some [(0, 1), (1, 1)] := by kernel_rfl
theorem fl28 : flds Try.prog 28 = some [(0, 1), (1, 2), (3, 1), (4, 1)] := by kernel_rfl
theorem fl47 : flds Try.prog 47 = some [(0, 1), (1, 1), (2, 1)] := by kernel_rfl
theorem ik2 : intK Try.prog 2 = some .i64 := by kernel_rfl
theorem ik3 : intK Try.prog 3 = some .i64 := by kernel_rfl
theorem ik52 : intK Try.prog 52 = some .u64 := by kernel_rfl
theorem ik78 : intK Try.prog 78 = some .u64 := by kernel_rfl
theorem bo4 : isBool Try.prog 4 = true := by kernel_rfl
theorem sl22 : isSl Try.prog 22 = true := by kernel_rfl
theorem sl30 : isSl Try.prog 30 = true := by kernel_rfl
theorem sl45 : isSl Try.prog 45 = true := by kernel_rfl
theorem st2 : isStr Try.prog 2 = false := by kernel_rfl
theorem st22 : isStr Try.prog 22 = false := by kernel_rfl
theorem st3 : isStr Try.prog 3 = false := by kernel_rfl
theorem st30 : isStr Try.prog 30 = false := by kernel_rfl
theorem st45 : isStr Try.prog 45 = false := by kernel_rfl
theorem st5 : isStr Try.prog 5 = false := by kernel_rfl
theorem st52 : isStr Try.prog 52 = false := by kernel_rfl
theorem st78 : isStr Try.prog 78 = false := by kernel_rfl
theorem st9 : isStr Try.prog 9 = true := by kernel_rfl
theorem sz2 : szT Try.prog 2 = some 1 := by kernel_rfl
theorem sz25 : szT Try.prog 25 = some 2 := by kernel_rfl
theorem sz28 : szT Try.prog 28 = some 5 := by kernel_rfl
theorem sz3 : szT Try.prog 3 = some 1 := by kernel_rfl
theorem sz4 : szT Try.prog 4 = some 1 := by kernel_rfl
theorem sz45 : szT Try.prog 45 = some 1 := by kernel_rfl
theorem sz47 : szT Try.prog 47 = some 3 := by kernel_rfl
theorem zc25 : zc Try.prog 25 = some [.int .i64 0, .int .i64 0] := by kernel_rfl
theorem zc28 : zc Try.prog 28 = some [.int .i64 0, .int .i64 0, .int .i64 0, .int .i64 0, .int .u32 0] := by kernel_rfl
theorem zc34 : zc Try.prog 34 = some [.int .i64 0, .int .i64 0, .int .i64 0, .int .i64 0, .int .i64 0] := by kernel_rfl
theorem zc47 : zc Try.prog 47 = some [.slice none 0 0, .slice none 0 0, .bool false] := by kernel_rfl
theorem tk2 : tk Try.prog 2 = .one := by kernel_rfl
theorem tk3 : tk Try.prog 3 = .one := by kernel_rfl
theorem tk4 : tk Try.prog 4 = .one := by kernel_rfl
theorem tk5 : tk Try.prog 5 = .one := by kernel_rfl
theorem tk25 : tk Try.prog 25 = .row 2 := by kernel_rfl
theorem tk26 : tk Try.prog 26 = .one := by kernel_rfl
theorem tk28 : tk Try.prog 28 = .row 5 := by kernel_rfl
theorem tk45 : tk Try.prog 45 = .one := by kernel_rfl
theorem tk47 : tk Try.prog 47 = .row 3 := by kernel_rfl
theorem tk77 : tk Try.prog 77 = .one := by kernel_rfl
theorem mix : Try.prog.follows .mixedOrders = true := by kernel_rfl
attribute [simp] en34 ae34 el22 ik5 el30 el45 fl25 fl28 fl47 ik2 ik3 ik52 ik78 bo4 sl22 sl30 sl45 st2 st22 st3 st30 st45 st5 st52 st78 st9 sz2 sz25 sz28 sz3 sz4 sz45 sz47 zc25 zc28 zc34 zc47 tk2 tk3 tk4 tk5 tk25 tk26 tk28 tk45 tk47 tk77
attribute [go_sem] en34 ae34 el22 ik5 el30 el45 fl25 fl28 fl47 ik2 ik3 ik52 ik78 bo4 sl22 sl30 sl45 st2 st22 st3 st30 st45 st5 st52 st78 st9 sz2 sz25 sz28 sz3 sz4 sz45 sz47 zc25 zc28 zc34 zc47 tk2 tk3 tk4 tk5 tk25 tk26 tk28 tk45 tk47 tk77
end Go.E
