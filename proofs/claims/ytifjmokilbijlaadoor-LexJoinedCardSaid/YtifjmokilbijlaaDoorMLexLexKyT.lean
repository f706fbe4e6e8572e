import Derived.Test.YtifjmokilbijlaaDoorMLexLexClT
import Derived.Test.YtifjmokilbijlaaDoorShelfS
namespace Go.Proofs.YtifjmokilbijlaaDoor.PLex
open Go Go.RowKit Go.Proofs.YtifjmokilbijlaaDoorW.PrintWords Go.Proofs.YtifjmokilbijlaaDoorW.PrintLast Go.Proofs.YtifjmokilbijlaaDoorW.PrintMore BallLex
attribute [local go_sem] max2_int min2_int max_two min_two max_three min_three max_four min_four
set_option linter.unusedVariables false
set_option linter.unusedSimpArgs false
/-- The language's words, in one text. -/
def kys : ByteArray := ⟨([112, 114, 111, 116, 111, 32, 115, 116, 97, 116, 101, 32, 102, 105, 110, 97, 108, 32, 111, 112, 32, 102, 110, 32, 108, 101, 97, 115, 116, 32, 97, 116, 32, 116, 111, 32, 105, 110, 32, 108, 101, 116, 32, 111, 112, 101, 110, 32, 101, 108, 115, 101, 32, 100, 111, 32, 115].append [112, 108, 105, 116, 32, 99, 97, 108, 108, 32, 105, 102, 32, 119, 104, 105, 108, 101, 32, 114, 101, 116, 117, 114, 110, 32, 101, 120, 105, 116, 32, 117, 110, 105, 113, 117, 101, 32, 102, 117, 108, 108, 32, 115, 104, 97, 114, 101, 32, 105, 109, 109, 32, 112, 117, 114, 101]).toArray⟩
/-- The language's words. -/
def kws : List ByteArray := Lib.splitB ⟨#[32]⟩ 0 (Lib.countB kys ⟨#[32]⟩) kys
theorem kws_len : kws.length = 24 := by decide +kernel
theorem kys_count : Lib.countB kys ⟨#[32]⟩ = 23 := by decide +kernel
theorem kys_size : kys.size < 1000000 := by decide +kernel
theorem split_c (w : World) : Calls Tryd.prog 35 #[.string kys, .string ⟨#[32]⟩] w fun e w' => e = .returned (.slice (some ⟨w.heap.size, 0, none⟩) 24 24) ∧ w' = w.alloc (.cells (Lib.cellsOf kws 24) 9) := by
  have h := Tryd.genSplit_one kys 32 w kys_size
  rw [show Lib.splitB ⟨#[32]⟩ 0 (Lib.countB kys ⟨#[32]⟩) kys = kws from rfl, kws_len, kys_count] at h
  have HC := Aside0.mk h
  clear h
  go_enter Tryd.func35, Tryd.ntmps35
  go_wp2_with (fail)
  refine HC.out.mono ?_
  rintro e W1 ⟨rfl, rfl⟩
  go_wp2_with (fail)
  go_ret
  exact ⟨rfl, rfl⟩
/-- Is it a word of the language? -/
def keyB (s : ByteArray) : Bool := Lib.containsS kws s
theorem key_c (s : ByteArray) (w : World) : Calls Tryd.prog 17 #[.string s] w fun e w' => e = .returned (.bool (keyB s)) ∧ Below w.heap.size w w' := by
  have HB := Aside0.mk (below_alloc (Below.refl w.heap.size w) (.cells (Lib.cellsOf kws 24) 9))
  have HC := Aside0.mk (fun j (hj : j < kws.length) => show (w.alloc (.cells (Lib.cellsOf kws 24) 9)).cell? ⟨w.heap.size, 0 + j, none⟩ = some (.string (kws.getD j ByteArray.empty)) from by
    rw [cell_of_row _ w.heap.size (0 + j) (Lib.cellsOf kws 24) 9 (0, 0) (heap_alloc_new w _), Nat.zero_add, ← kws_len, Lib.cellsOf_full]
    simp [List.getD, hj])
  go_enter Tryd.func17, Tryd.ntmps17
  go_wp2_with (fail)
  refine (split_c w).mono ?_
  rintro e W1 ⟨rfl, rfl⟩
  go_wp2_with (fail)
  refine (Tryd.slices_Contains_string w.heap.size 0 24 24 kws s _ (by rw [kws_len]; exact Nat.le_refl _) (by decide) HC.out).mono ?_
  rintro e W2 ⟨rfl, rfl⟩
  go_wp2_with (fail)
  go_ret
  rw [List.take_of_length_le (by rw [kws_len]; exact Nat.le_refl _)]
  exact ⟨rfl, HB.out⟩
end Go.Proofs.YtifjmokilbijlaaDoor.PLex
