import Derived.Test.YtnahfkmdojbpkaaMD
import Derived.Test.YtnahfkmdojbpkaaEOp
set_option linter.all false
set_option maxRecDepth 100000
namespace Go.E
open Go Go.Proofs Go.Eng
def okTRat (y : TRat) : Prop := ((Lit.int .i64 y.f0).wf = true) ∧ ((Lit.int .i64 y.f1).wf = true) ∧ True
theorem op_TRat_36 : Opens Try.prog 36 cTRat okTRat :=
  opens_iso (opens_struct (n := 2) (l := _) (by kernel_rfl) (opensF_cons (k := 1) (opens_int Try.underlying2) (opensF_cons (k := 1) (opens_int Try.underlying2) opensF_nil rfl (by kernel_rfl)) rfl (by kernel_rfl)) Try.underlying36 rfl) (fun y : TRat => (y.f0, y.f1, ())) (fun a => ⟨a.1, a.2.1⟩) (fun _ => rfl) (fun _ => rfl)
def okTTerm (y : TTerm) : Prop := (y.f0.length * 16 ≤ 140737488351232 ∧ ∀ z ∈ y.f0, okTRat z) ∧ (okTRat y.f1) ∧ True
theorem op_TTerm_39 : Opens Try.prog 39 cTTerm okTTerm :=
  opens_iso (opens_struct (n := 3) (l := _) (by kernel_rfl) (opensF_cons (k := 1) (opens_slice (t := 30) (e := 36) op_TRat_36 (fun _ => by rw [show Try.prog.cellsOf 36 = 2 from by kernel_rfl]; rfl) (by rw [show Try.prog.cellsOf 36 = 2 from by kernel_rfl]; decide) (k := 16) (by kernel_rfl) Try.underlying30) (opensF_cons (k := 2) op_TRat_36 opensF_nil rfl (by kernel_rfl)) rfl (by kernel_rfl)) Try.underlying39 rfl) (fun y : TTerm => (y.f0, y.f1, ())) (fun a => ⟨a.1, a.2.1⟩) (fun _ => rfl) (fun _ => rfl)
end Go.E
