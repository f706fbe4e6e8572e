import Derived.Test.YthgohaidfaldnaaMD
import Derived.Test.YthgohaidfaldnaaEOp
set_option linter.all false
set_option maxRecDepth 100000
namespace Go.E
open Go Go.Proofs Go.Eng
def okTState (y : TState) : Prop := (y.f0.size ≤ 140737488351232) ∧ (True) ∧ True
theorem op_TState_62 : Opens Try.prog 62 cTState okTState :=
  opens_iso (opens_struct (n := 2) (l := _) (by kernel_rfl) (opensF_cons (k := 1) (opens_string Try.underlying9) (opensF_cons (k := 1) (opens_bool Try.underlying4) opensF_nil rfl (by kernel_rfl)) rfl (by kernel_rfl)) Try.underlying62 rfl) (fun y : TState => (y.f0, y.f1, ())) (fun a => ⟨a.1, a.2.1⟩) (fun _ => rfl) (fun _ => rfl)
def okTOut (y : TOut) : Prop := (y.f0.size ≤ 140737488351232) ∧ ((Lit.int .i64 y.f1).wf = true) ∧ True
theorem op_TOut_42 : Opens Try.prog 42 cTOut okTOut :=
  opens_iso (opens_struct (n := 2) (l := _) (by kernel_rfl) (opensF_cons (k := 1) (opens_string Try.underlying9) (opensF_cons (k := 1) (opens_int Try.underlying3) opensF_nil rfl (by kernel_rfl)) rfl (by kernel_rfl)) Try.underlying42 rfl) (fun y : TOut => (y.f0, y.f1, ())) (fun a => ⟨a.1, a.2.1⟩) (fun _ => rfl) (fun _ => rfl)
def okTMove (y : TMove) : Prop := (y.f0.size ≤ 140737488351232) ∧ ((Lit.int .i64 y.f1).wf = true) ∧ (y.f2.length * 24 ≤ 140737488351232 ∧ ∀ z ∈ y.f2, okTOut z) ∧ True
theorem op_TMove_39 : Opens Try.prog 39 cTMove okTMove :=
  opens_iso (opens_struct (n := 3) (l := _) (by kernel_rfl) (opensF_cons (k := 1) (opens_string Try.underlying9) (opensF_cons (k := 1) (opens_int Try.underlying3) (opensF_cons (k := 1) (opens_slice (t := 37) (e := 42) op_TOut_42 (fun _ => by rw [show Try.prog.cellsOf 42 = 2 from by kernel_rfl]; rfl) (by rw [show Try.prog.cellsOf 42 = 2 from by kernel_rfl]; decide) (k := 24) (by kernel_rfl) Try.underlying37) opensF_nil rfl (by kernel_rfl)) rfl (by kernel_rfl)) rfl (by kernel_rfl)) Try.underlying39 rfl) (fun y : TMove => (y.f0, y.f1, y.f2, ())) (fun a => ⟨a.1, a.2.1, a.2.2.1⟩) (fun _ => rfl) (fun _ => rfl)
def okTProto (y : TProto) : Prop := (y.f0.size ≤ 140737488351232) ∧ (y.f1.length * 24 ≤ 140737488351232 ∧ ∀ z ∈ y.f1, okTState z) ∧ (y.f2.length * 48 ≤ 140737488351232 ∧ ∀ z ∈ y.f2, okTMove z) ∧ True
theorem op_TProto_25 : Opens Try.prog 25 cTProto okTProto :=
  opens_iso (opens_struct (n := 3) (l := _) (by kernel_rfl) (opensF_cons (k := 1) (opens_string Try.underlying9) (opensF_cons (k := 1) (opens_slice (t := 22) (e := 62) op_TState_62 (fun _ => by rw [show Try.prog.cellsOf 62 = 2 from by kernel_rfl]; rfl) (by rw [show Try.prog.cellsOf 62 = 2 from by kernel_rfl]; decide) (k := 24) (by kernel_rfl) Try.underlying22) (opensF_cons (k := 1) (opens_slice (t := 23) (e := 39) op_TMove_39 (fun _ => by rw [show Try.prog.cellsOf 39 = 3 from by kernel_rfl]; rfl) (by rw [show Try.prog.cellsOf 39 = 3 from by kernel_rfl]; decide) (k := 48) (by kernel_rfl) Try.underlying23) opensF_nil rfl (by kernel_rfl)) rfl (by kernel_rfl)) rfl (by kernel_rfl)) Try.underlying25 rfl) (fun y : TProto => (y.f0, y.f1, y.f2, ())) (fun a => ⟨a.1, a.2.1, a.2.2.1⟩) (fun _ => rfl) (fun _ => rfl)
end Go.E
