/-
  No cell of these rows narrows 'for every input' (looked for: loops, veiled, ifaces, maps, wideKeys, modest, calm, conditions, laid).
  DERIVED. THE GIVEN ROWS OF THIS SEAT. 5 by the template 'for every input the law returns true; each argument reads behind the call as it read before'; 0 by the template 'total and deterministic' (their statements: YthgohaidfaldnaaTotals.lean).
  GIVEN WITH THE SEED: the statements are not yours to turn. If you find one false, say at which input.
  Laid BY PROGRAM, IN A SANDBOX (cutbox-rows.mjs): the forced cells as the released guide's own fill.sh prints them over the translation 45ea0f3225cfd10f… (all of the seat's roots in one cut). By AI agents, Wed Nov 11 2026. No macro, syntax, notation, axiom, sorry.
-/
import Derived.Test.YthgohaidfaldnaaChecked
import GoSem.Claim
import GoSem.ClaimJoined
import GoSem.ClaimMapViews
import Derived.JoinedTies
import Derived.KernelRfl
namespace Go.Proofs.Ythgohaidfaldnaa
/- THE CELL 'sum', in the pinned program and in every row, IS THE sha256 OF THE DUMP (.gsa) THAT YthgohaidfaldnaaProg.lean LOADS. Nothing in Lean hashes anything: it is a label: what it is worth is what the hold of that sum in a sandbox is worth. -/
noncomputable def Try.pinned : Pinned := { name := "ythgohaidfaldnaa", sum := "45ea0f3225cfd10f393d8ceb307e194c93ac4d5b59ef3ab0bb2001954974f63c", checked := Try.checked }
namespace Rows
def none {H : Type} : Left H := { results := [], args := [] }

/-- 'ballcocklaw09.AutoWrong': WHATEVER THE INPUT: true; the input reads as it did. -/
def autoWrongSpec : ChangeSpec := { name := "autoWrong", fn := fun _ => fun
  | [d] => { results := [.lit (.bool true)], args := [d] }
  | _ => none }
def autoWrongRow : OpenClaim := { program := "ythgohaidfaldnaa", sum := "45ea0f3225cfd10f393d8ceb307e194c93ac4d5b59ef3ab0bb2001954974f63c", func := "ballcock/ballcocklaw09.AutoWrong", spec := "autoWrong", unfollowed := true, recurses := true, apart := false }
def AutoWrongSaid : Prop := autoWrongRow.holds Try.pinned (OpenSpec.ofChange autoWrongSpec)

/-- ITS FALSE NEIGHBOUR: 'it returns false'. Refute it at one input. -/
def autoWrongWrong : ChangeSpec := { name := "autoWrong", fn := fun _ => fun
  | [d] => { results := [.lit (.bool false)], args := [d] }
  | _ => none }
def AutoWrongWrongFalsely : Prop := autoWrongRow.holds Try.pinned (OpenSpec.ofChange autoWrongWrong)

/-- 'ballcocklaw09.AutoSteps': WHATEVER THE INPUT: true; the input reads as it did. -/
def autoStepsSpec : ChangeSpec := { name := "autoSteps", fn := fun _ => fun
  | [d1, d2, d3] => { results := [.lit (.bool true)], args := [d1, d2, d3] }
  | _ => none }
def autoStepsRow : OpenClaim := { program := "ythgohaidfaldnaa", sum := "45ea0f3225cfd10f393d8ceb307e194c93ac4d5b59ef3ab0bb2001954974f63c", func := "ballcock/ballcocklaw09.AutoSteps", spec := "autoSteps", unfollowed := true, recurses := true, apart := false }
def AutoStepsSaid : Prop := autoStepsRow.holds Try.pinned (OpenSpec.ofChange autoStepsSpec)

/-- ITS FALSE NEIGHBOUR: 'it returns false'. Refute it at one input. -/
def autoStepsWrong : ChangeSpec := { name := "autoSteps", fn := fun _ => fun
  | [d1, d2, d3] => { results := [.lit (.bool false)], args := [d1, d2, d3] }
  | _ => none }
def AutoStepsWrongFalsely : Prop := autoStepsRow.holds Try.pinned (OpenSpec.ofChange autoStepsWrong)

/-- 'ballcocklaw09.AutoKeeps': WHATEVER THE INPUT: true; the input reads as it did. -/
def autoKeepsSpec : ChangeSpec := { name := "autoKeeps", fn := fun _ => fun
  | [d1, d2] => { results := [.lit (.bool true)], args := [d1, d2] }
  | _ => none }
def autoKeepsRow : OpenClaim := { program := "ythgohaidfaldnaa", sum := "45ea0f3225cfd10f393d8ceb307e194c93ac4d5b59ef3ab0bb2001954974f63c", func := "ballcock/ballcocklaw09.AutoKeeps", spec := "autoKeeps", unfollowed := true, recurses := true, apart := false }
def AutoKeepsSaid : Prop := autoKeepsRow.holds Try.pinned (OpenSpec.ofChange autoKeepsSpec)

/-- ITS FALSE NEIGHBOUR: 'it returns false'. Refute it at one input. -/
def autoKeepsWrong : ChangeSpec := { name := "autoKeeps", fn := fun _ => fun
  | [d1, d2] => { results := [.lit (.bool false)], args := [d1, d2] }
  | _ => none }
def AutoKeepsWrongFalsely : Prop := autoKeepsRow.holds Try.pinned (OpenSpec.ofChange autoKeepsWrong)

/-- 'ballcocklaw09.AutoEnds': WHATEVER THE INPUT: true; the input reads as it did. -/
def autoEndsSpec : ChangeSpec := { name := "autoEnds", fn := fun _ => fun
  | [d1, d2] => { results := [.lit (.bool true)], args := [d1, d2] }
  | _ => none }
def autoEndsRow : OpenClaim := { program := "ythgohaidfaldnaa", sum := "45ea0f3225cfd10f393d8ceb307e194c93ac4d5b59ef3ab0bb2001954974f63c", func := "ballcock/ballcocklaw09.AutoEnds", spec := "autoEnds", unfollowed := true, recurses := true, apart := false }
def AutoEndsSaid : Prop := autoEndsRow.holds Try.pinned (OpenSpec.ofChange autoEndsSpec)

/-- ITS FALSE NEIGHBOUR: 'it returns false'. Refute it at one input. -/
def autoEndsWrong : ChangeSpec := { name := "autoEnds", fn := fun _ => fun
  | [d1, d2] => { results := [.lit (.bool false)], args := [d1, d2] }
  | _ => none }
def AutoEndsWrongFalsely : Prop := autoEndsRow.holds Try.pinned (OpenSpec.ofChange autoEndsWrong)

/-- 'ballcocklaw09.AutoTells': WHATEVER THE INPUT: true; the input reads as it did. -/
def autoTellsSpec : ChangeSpec := { name := "autoTells", fn := fun _ => fun
  | [d1, d2, d3] => { results := [.lit (.bool true)], args := [d1, d2, d3] }
  | _ => none }
def autoTellsRow : OpenClaim := { program := "ythgohaidfaldnaa", sum := "45ea0f3225cfd10f393d8ceb307e194c93ac4d5b59ef3ab0bb2001954974f63c", func := "ballcock/ballcocklaw09.AutoTells", spec := "autoTells", unfollowed := true, recurses := true, apart := false }
def AutoTellsSaid : Prop := autoTellsRow.holds Try.pinned (OpenSpec.ofChange autoTellsSpec)

/-- ITS FALSE NEIGHBOUR: 'it returns false'. Refute it at one input. -/
def autoTellsWrong : ChangeSpec := { name := "autoTells", fn := fun _ => fun
  | [d1, d2, d3] => { results := [.lit (.bool false)], args := [d1, d2, d3] }
  | _ => none }
def AutoTellsWrongFalsely : Prop := autoTellsRow.holds Try.pinned (OpenSpec.ofChange autoTellsWrong)

/- THE SECOND FORM. 'bulk': how many values and letters a reading holds, each counted each time it is reached (what is shared counts as often as it is met; a slice's spare places count too). A statement '..UptoSaid' is the law's where the arguments, and the package variables that the reading takes, are together of bulk at most 1048576: NARROWER than '..Said'. Prove '..Said' where nothing that the law and all that it calls make is longer than what came in: it says more and counts as full. Else prove '..UptoSaid'. A law counts once. -/
mutual
def uptoBulk {H : Type} : DataW H → Nat
  | .lit (.string bytes) => bytes.length + 1
  | .lit _ => 1
  | .nil => 1
  | .ptr d => uptoBulk d + 1
  | .slice elems spare => uptoBulkAll elems + uptoBulkAll spare + 1
  | .agg parts => uptoBulkAll parts + 1
  | .iface _ d => uptoBulk d + 1
  | .map entries => uptoBulkEntries entries + 1
  | .held _ => 1
def uptoBulkAll {H : Type} : List (DataW H) → Nat
  | [] => 0
  | d :: r => uptoBulk d + uptoBulkAll r
def uptoBulkEntries {H : Type} : List (Lit × DataW H) → Nat
  | [] => 0
  | x :: r => uptoBulkEntry x + uptoBulkEntries r
def uptoBulkEntry {H : Type} : Lit × DataW H → Nat
  | (.string bytes, d) => bytes.length + uptoBulk d + 1
  | (_, d) => uptoBulk d + 1
 end
def uptoSmall : (H : Type) → List (DataW H) → Bool := fun _ ds => decide (uptoBulkAll ds ≤ 1048576)
def OpenSpec.upto (s : _root_.Go.ChangeSpec) : _root_.Go.OpenSpec := { _root_.Go.OpenSpec.ofChange s with cond := some uptoSmall }

/-- 'ballcocklaw09.AutoWrong', WHERE WHAT IT READS IS OF BULK AT MOST 1048576: true; the input reads as it did. -/
def autoWrongUptoRow : OpenClaim := { program := "ythgohaidfaldnaa", sum := "45ea0f3225cfd10f393d8ceb307e194c93ac4d5b59ef3ab0bb2001954974f63c", func := "ballcock/ballcocklaw09.AutoWrong", spec := "autoWrong", unfollowed := true, recurses := true, apart := false, narrowed := true }
def AutoWrongUptoSaid : Prop := autoWrongUptoRow.holds Try.pinned (OpenSpec.upto autoWrongSpec)

/-- 'ballcocklaw09.AutoSteps', WHERE WHAT IT READS IS OF BULK AT MOST 1048576: true; the input reads as it did. -/
def autoStepsUptoRow : OpenClaim := { program := "ythgohaidfaldnaa", sum := "45ea0f3225cfd10f393d8ceb307e194c93ac4d5b59ef3ab0bb2001954974f63c", func := "ballcock/ballcocklaw09.AutoSteps", spec := "autoSteps", unfollowed := true, recurses := true, apart := false, narrowed := true }
def AutoStepsUptoSaid : Prop := autoStepsUptoRow.holds Try.pinned (OpenSpec.upto autoStepsSpec)

/-- 'ballcocklaw09.AutoKeeps', WHERE WHAT IT READS IS OF BULK AT MOST 1048576: true; the input reads as it did. -/
def autoKeepsUptoRow : OpenClaim := { program := "ythgohaidfaldnaa", sum := "45ea0f3225cfd10f393d8ceb307e194c93ac4d5b59ef3ab0bb2001954974f63c", func := "ballcock/ballcocklaw09.AutoKeeps", spec := "autoKeeps", unfollowed := true, recurses := true, apart := false, narrowed := true }
def AutoKeepsUptoSaid : Prop := autoKeepsUptoRow.holds Try.pinned (OpenSpec.upto autoKeepsSpec)

/-- 'ballcocklaw09.AutoEnds', WHERE WHAT IT READS IS OF BULK AT MOST 1048576: true; the input reads as it did. -/
def autoEndsUptoRow : OpenClaim := { program := "ythgohaidfaldnaa", sum := "45ea0f3225cfd10f393d8ceb307e194c93ac4d5b59ef3ab0bb2001954974f63c", func := "ballcock/ballcocklaw09.AutoEnds", spec := "autoEnds", unfollowed := true, recurses := true, apart := false, narrowed := true }
def AutoEndsUptoSaid : Prop := autoEndsUptoRow.holds Try.pinned (OpenSpec.upto autoEndsSpec)

/-- 'ballcocklaw09.AutoTells', WHERE WHAT IT READS IS OF BULK AT MOST 1048576: true; the input reads as it did. -/
def autoTellsUptoRow : OpenClaim := { program := "ythgohaidfaldnaa", sum := "45ea0f3225cfd10f393d8ceb307e194c93ac4d5b59ef3ab0bb2001954974f63c", func := "ballcock/ballcocklaw09.AutoTells", spec := "autoTells", unfollowed := true, recurses := true, apart := false, narrowed := true }
def AutoTellsUptoSaid : Prop := autoTellsUptoRow.holds Try.pinned (OpenSpec.upto autoTellsSpec)

end Rows
end Go.Proofs.Ythgohaidfaldnaa
