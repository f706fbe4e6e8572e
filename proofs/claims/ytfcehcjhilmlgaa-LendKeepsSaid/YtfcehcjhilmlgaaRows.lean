/-
  No cell of these rows narrows 'for every input' (looked for: loops, veiled, ifaces, maps, wideKeys, modest, calm, conditions, laid).
  DERIVED. THE GIVEN ROWS OF THIS SEAT. 7 by the template 'for every input the law returns true; each argument reads behind the call as it read before'; 0 by the template 'total and deterministic' (their statements: YtfcehcjhilmlgaaTotals.lean).
  GIVEN WITH THE SEED: the statements are not yours to turn. If you find one false, say at which input.
  Laid BY PROGRAM, IN A SANDBOX (cutbox-rows.mjs): the forced cells as the released guide's own fill.sh prints them over the translation c7acfc3d5e362795… (all of the seat's roots in one cut). By AI agents, Wed Nov 11 2026. No macro, syntax, notation, axiom, sorry.
-/
import Derived.Test.YtfcehcjhilmlgaaChecked
import GoSem.Claim
import GoSem.ClaimJoined
import GoSem.ClaimMapViews
import Derived.JoinedTies
import Derived.KernelRfl
namespace Go.Proofs.Ytfcehcjhilmlgaa
/- THE CELL 'sum', in the pinned program and in every row, IS THE sha256 OF THE DUMP (.gsa) THAT YtfcehcjhilmlgaaProg.lean LOADS. Nothing in Lean hashes anything: it is a label: what it is worth is what the hold of that sum in a sandbox is worth. -/
noncomputable def Try.pinned : Pinned := { name := "ytfcehcjhilmlgaa", sum := "c7acfc3d5e362795898856438c8fc8c5786203178aefd3a53b049fcd04b2fcf3", checked := Try.checked }
namespace Rows
def none {H : Type} : Left H := { results := [], args := [] }

/-- 'ballcocklaw04.BoundMore': WHATEVER THE INPUT: true; the input reads as it did. -/
def boundMoreSpec : ChangeSpec := { name := "boundMore", fn := fun _ => fun
  | [d1, d2] => { results := [.lit (.bool true)], args := [d1, d2] }
  | _ => none }
def boundMoreRow : OpenClaim := { program := "ytfcehcjhilmlgaa", sum := "c7acfc3d5e362795898856438c8fc8c5786203178aefd3a53b049fcd04b2fcf3", func := "ballcock/ballcocklaw04.BoundMore", spec := "boundMore", inPlace := ["math/bits.Add64", "math/bits.Sub64"], unfollowed := true, recurses := true, named := ["math/bits.divideError", "math/bits.overflowError"], apart := false }
def BoundMoreSaid : Prop := boundMoreRow.holds Try.pinned (OpenSpec.ofChange boundMoreSpec)

/-- ITS FALSE NEIGHBOUR: 'it returns false'. Refute it at one input. -/
def boundMoreWrong : ChangeSpec := { name := "boundMore", fn := fun _ => fun
  | [d1, d2] => { results := [.lit (.bool false)], args := [d1, d2] }
  | _ => none }
def BoundMoreWrongFalsely : Prop := boundMoreRow.holds Try.pinned (OpenSpec.ofChange boundMoreWrong)

/-- 'ballcocklaw04.BoundSpan': WHATEVER THE INPUT: true; the input reads as it did. -/
def boundSpanSpec : ChangeSpec := { name := "boundSpan", fn := fun _ => fun
  | [d1, d2, d3] => { results := [.lit (.bool true)], args := [d1, d2, d3] }
  | _ => none }
def boundSpanRow : OpenClaim := { program := "ytfcehcjhilmlgaa", sum := "c7acfc3d5e362795898856438c8fc8c5786203178aefd3a53b049fcd04b2fcf3", func := "ballcock/ballcocklaw04.BoundSpan", spec := "boundSpan", inPlace := ["math/bits.Add64", "math/bits.Sub64"], unfollowed := true, recurses := true, named := ["math/bits.divideError", "math/bits.overflowError"], apart := false }
def BoundSpanSaid : Prop := boundSpanRow.holds Try.pinned (OpenSpec.ofChange boundSpanSpec)

/-- ITS FALSE NEIGHBOUR: 'it returns false'. Refute it at one input. -/
def boundSpanWrong : ChangeSpec := { name := "boundSpan", fn := fun _ => fun
  | [d1, d2, d3] => { results := [.lit (.bool false)], args := [d1, d2, d3] }
  | _ => none }
def BoundSpanWrongFalsely : Prop := boundSpanRow.holds Try.pinned (OpenSpec.ofChange boundSpanWrong)

/-- 'ballcocklaw04.BoundOrder': WHATEVER THE INPUT: true; the input reads as it did. -/
def boundOrderSpec : ChangeSpec := { name := "boundOrder", fn := fun _ => fun
  | [d1, d2] => { results := [.lit (.bool true)], args := [d1, d2] }
  | _ => none }
def boundOrderRow : OpenClaim := { program := "ytfcehcjhilmlgaa", sum := "c7acfc3d5e362795898856438c8fc8c5786203178aefd3a53b049fcd04b2fcf3", func := "ballcock/ballcocklaw04.BoundOrder", spec := "boundOrder", inPlace := ["math/bits.Add64", "math/bits.Sub64"], unfollowed := true, recurses := true, named := ["math/bits.divideError", "math/bits.overflowError"], apart := false }
def BoundOrderSaid : Prop := boundOrderRow.holds Try.pinned (OpenSpec.ofChange boundOrderSpec)

/-- ITS FALSE NEIGHBOUR: 'it returns false'. Refute it at one input. -/
def boundOrderWrong : ChangeSpec := { name := "boundOrder", fn := fun _ => fun
  | [d1, d2] => { results := [.lit (.bool false)], args := [d1, d2] }
  | _ => none }
def BoundOrderWrongFalsely : Prop := boundOrderRow.holds Try.pinned (OpenSpec.ofChange boundOrderWrong)

/-- 'ballcocklaw04.BoundItself': WHATEVER THE INPUT: true; the input reads as it did. -/
def boundItselfSpec : ChangeSpec := { name := "boundItself", fn := fun _ => fun
  | [d1, d2] => { results := [.lit (.bool true)], args := [d1, d2] }
  | _ => none }
def boundItselfRow : OpenClaim := { program := "ytfcehcjhilmlgaa", sum := "c7acfc3d5e362795898856438c8fc8c5786203178aefd3a53b049fcd04b2fcf3", func := "ballcock/ballcocklaw04.BoundItself", spec := "boundItself", inPlace := ["math/bits.Add64", "math/bits.Sub64"], unfollowed := true, recurses := true, named := ["math/bits.divideError", "math/bits.overflowError"], apart := false }
def BoundItselfSaid : Prop := boundItselfRow.holds Try.pinned (OpenSpec.ofChange boundItselfSpec)

/-- ITS FALSE NEIGHBOUR: 'it returns false'. Refute it at one input. -/
def boundItselfWrong : ChangeSpec := { name := "boundItself", fn := fun _ => fun
  | [d1, d2] => { results := [.lit (.bool false)], args := [d1, d2] }
  | _ => none }
def BoundItselfWrongFalsely : Prop := boundItselfRow.holds Try.pinned (OpenSpec.ofChange boundItselfWrong)

/-- 'ballcocklaw18.LendOne': WHATEVER THE INPUT: true; the input reads as it did. -/
def lendOneSpec : ChangeSpec := { name := "lendOne", fn := fun _ => fun
  | [d1, d2] => { results := [.lit (.bool true)], args := [d1, d2] }
  | _ => none }
def lendOneRow : OpenClaim := { program := "ytfcehcjhilmlgaa", sum := "c7acfc3d5e362795898856438c8fc8c5786203178aefd3a53b049fcd04b2fcf3", func := "ballcock/ballcocklaw18.LendOne", spec := "lendOne", inPlace := ["math/bits.Add64", "math/bits.Sub64"], unfollowed := true, recurses := true, named := ["math/bits.divideError", "math/bits.overflowError"], apart := false }
def LendOneSaid : Prop := lendOneRow.holds Try.pinned (OpenSpec.ofChange lendOneSpec)

/-- ITS FALSE NEIGHBOUR: 'it returns false'. Refute it at one input. -/
def lendOneWrong : ChangeSpec := { name := "lendOne", fn := fun _ => fun
  | [d1, d2] => { results := [.lit (.bool false)], args := [d1, d2] }
  | _ => none }
def LendOneWrongFalsely : Prop := lendOneRow.holds Try.pinned (OpenSpec.ofChange lendOneWrong)

/-- 'ballcocklaw18.LendKeeps': WHATEVER THE INPUT: true; the input reads as it did. -/
def lendKeepsSpec : ChangeSpec := { name := "lendKeeps", fn := fun _ => fun
  | [d1, d2, d3] => { results := [.lit (.bool true)], args := [d1, d2, d3] }
  | _ => none }
def lendKeepsRow : OpenClaim := { program := "ytfcehcjhilmlgaa", sum := "c7acfc3d5e362795898856438c8fc8c5786203178aefd3a53b049fcd04b2fcf3", func := "ballcock/ballcocklaw18.LendKeeps", spec := "lendKeeps", inPlace := ["math/bits.Add64", "math/bits.Sub64"], unfollowed := true, recurses := true, named := ["math/bits.divideError", "math/bits.overflowError"], apart := false }
def LendKeepsSaid : Prop := lendKeepsRow.holds Try.pinned (OpenSpec.ofChange lendKeepsSpec)

/-- ITS FALSE NEIGHBOUR: 'it returns false'. Refute it at one input. -/
def lendKeepsWrong : ChangeSpec := { name := "lendKeeps", fn := fun _ => fun
  | [d1, d2, d3] => { results := [.lit (.bool false)], args := [d1, d2, d3] }
  | _ => none }
def LendKeepsWrongFalsely : Prop := lendKeepsRow.holds Try.pinned (OpenSpec.ofChange lendKeepsWrong)

/-- 'ballcocklaw18.LendTo': WHATEVER THE INPUT: true; the input reads as it did. -/
def lendToSpec : ChangeSpec := { name := "lendTo", fn := fun _ => fun
  | [d1, d2] => { results := [.lit (.bool true)], args := [d1, d2] }
  | _ => none }
def lendToRow : OpenClaim := { program := "ytfcehcjhilmlgaa", sum := "c7acfc3d5e362795898856438c8fc8c5786203178aefd3a53b049fcd04b2fcf3", func := "ballcock/ballcocklaw18.LendTo", spec := "lendTo", inPlace := ["math/bits.Add64", "math/bits.Sub64"], unfollowed := true, recurses := true, named := ["math/bits.divideError", "math/bits.overflowError"], apart := false }
def LendToSaid : Prop := lendToRow.holds Try.pinned (OpenSpec.ofChange lendToSpec)

/-- ITS FALSE NEIGHBOUR: 'it returns false'. Refute it at one input. -/
def lendToWrong : ChangeSpec := { name := "lendTo", fn := fun _ => fun
  | [d1, d2] => { results := [.lit (.bool false)], args := [d1, d2] }
  | _ => none }
def LendToWrongFalsely : Prop := lendToRow.holds Try.pinned (OpenSpec.ofChange lendToWrong)

/- THE SECOND FORM. 'bulk': how many values and letters a reading holds, each counted each time it is reached (what is shared counts as often as it is met; a slice's spare places count too). A statement '..UptoSaid' is the law's where the arguments, and the package variables that the reading takes, are together of bulk at most 1048576: NARROWER than '..Said'. Prove '..Said' where nothing that the law and all that it calls make is longer than what came in: it says more and counts as full. Else prove '..UptoSaid'. A law counts once. -/
mutual
def uptoBulk {H : Type} : DataW H → Nat
  | .lit (.string bytes) => bytes.length + 1
  | .lit _ => 1
  | .nil => 1
  | .ptr d => uptoBulk d + 1
  | .slice elems spare => uptoBulkAll elems + uptoBulkAll spare + 1
  | .agg parts => uptoBulkAll parts + 1
  | .iface _ d => uptoBulk d + 1
  | .map entries => uptoBulkEntries entries + 1
  | .held _ => 1
def uptoBulkAll {H : Type} : List (DataW H) → Nat
  | [] => 0
  | d :: r => uptoBulk d + uptoBulkAll r
def uptoBulkEntries {H : Type} : List (Lit × DataW H) → Nat
  | [] => 0
  | x :: r => uptoBulkEntry x + uptoBulkEntries r
def uptoBulkEntry {H : Type} : Lit × DataW H → Nat
  | (.string bytes, d) => bytes.length + uptoBulk d + 1
  | (_, d) => uptoBulk d + 1
 end
def uptoSmall : (H : Type) → List (DataW H) → Bool := fun _ ds => decide (uptoBulkAll ds ≤ 1048576)
def OpenSpec.upto (s : _root_.Go.ChangeSpec) : _root_.Go.OpenSpec := { _root_.Go.OpenSpec.ofChange s with cond := some uptoSmall }

/-- 'ballcocklaw04.BoundMore', WHERE WHAT IT READS IS OF BULK AT MOST 1048576: true; the input reads as it did. -/
def boundMoreUptoRow : OpenClaim := { program := "ytfcehcjhilmlgaa", sum := "c7acfc3d5e362795898856438c8fc8c5786203178aefd3a53b049fcd04b2fcf3", func := "ballcock/ballcocklaw04.BoundMore", spec := "boundMore", inPlace := ["math/bits.Add64", "math/bits.Sub64"], unfollowed := true, recurses := true, named := ["math/bits.divideError", "math/bits.overflowError"], apart := false, narrowed := true }
def BoundMoreUptoSaid : Prop := boundMoreUptoRow.holds Try.pinned (OpenSpec.upto boundMoreSpec)

/-- 'ballcocklaw04.BoundSpan', WHERE WHAT IT READS IS OF BULK AT MOST 1048576: true; the input reads as it did. -/
def boundSpanUptoRow : OpenClaim := { program := "ytfcehcjhilmlgaa", sum := "c7acfc3d5e362795898856438c8fc8c5786203178aefd3a53b049fcd04b2fcf3", func := "ballcock/ballcocklaw04.BoundSpan", spec := "boundSpan", inPlace := ["math/bits.Add64", "math/bits.Sub64"], unfollowed := true, recurses := true, named := ["math/bits.divideError", "math/bits.overflowError"], apart := false, narrowed := true }
def BoundSpanUptoSaid : Prop := boundSpanUptoRow.holds Try.pinned (OpenSpec.upto boundSpanSpec)

/-- 'ballcocklaw04.BoundOrder', WHERE WHAT IT READS IS OF BULK AT MOST 1048576: true; the input reads as it did. -/
def boundOrderUptoRow : OpenClaim := { program := "ytfcehcjhilmlgaa", sum := "c7acfc3d5e362795898856438c8fc8c5786203178aefd3a53b049fcd04b2fcf3", func := "ballcock/ballcocklaw04.BoundOrder", spec := "boundOrder", inPlace := ["math/bits.Add64", "math/bits.Sub64"], unfollowed := true, recurses := true, named := ["math/bits.divideError", "math/bits.overflowError"], apart := false, narrowed := true }
def BoundOrderUptoSaid : Prop := boundOrderUptoRow.holds Try.pinned (OpenSpec.upto boundOrderSpec)

/-- 'ballcocklaw04.BoundItself', WHERE WHAT IT READS IS OF BULK AT MOST 1048576: true; the input reads as it did. -/
def boundItselfUptoRow : OpenClaim := { program := "ytfcehcjhilmlgaa", sum := "c7acfc3d5e362795898856438c8fc8c5786203178aefd3a53b049fcd04b2fcf3", func := "ballcock/ballcocklaw04.BoundItself", spec := "boundItself", inPlace := ["math/bits.Add64", "math/bits.Sub64"], unfollowed := true, recurses := true, named := ["math/bits.divideError", "math/bits.overflowError"], apart := false, narrowed := true }
def BoundItselfUptoSaid : Prop := boundItselfUptoRow.holds Try.pinned (OpenSpec.upto boundItselfSpec)

/-- 'ballcocklaw18.LendOne', WHERE WHAT IT READS IS OF BULK AT MOST 1048576: true; the input reads as it did. -/
def lendOneUptoRow : OpenClaim := { program := "ytfcehcjhilmlgaa", sum := "c7acfc3d5e362795898856438c8fc8c5786203178aefd3a53b049fcd04b2fcf3", func := "ballcock/ballcocklaw18.LendOne", spec := "lendOne", inPlace := ["math/bits.Add64", "math/bits.Sub64"], unfollowed := true, recurses := true, named := ["math/bits.divideError", "math/bits.overflowError"], apart := false, narrowed := true }
def LendOneUptoSaid : Prop := lendOneUptoRow.holds Try.pinned (OpenSpec.upto lendOneSpec)

/-- 'ballcocklaw18.LendKeeps', WHERE WHAT IT READS IS OF BULK AT MOST 1048576: true; the input reads as it did. -/
def lendKeepsUptoRow : OpenClaim := { program := "ytfcehcjhilmlgaa", sum := "c7acfc3d5e362795898856438c8fc8c5786203178aefd3a53b049fcd04b2fcf3", func := "ballcock/ballcocklaw18.LendKeeps", spec := "lendKeeps", inPlace := ["math/bits.Add64", "math/bits.Sub64"], unfollowed := true, recurses := true, named := ["math/bits.divideError", "math/bits.overflowError"], apart := false, narrowed := true }
def LendKeepsUptoSaid : Prop := lendKeepsUptoRow.holds Try.pinned (OpenSpec.upto lendKeepsSpec)

/-- 'ballcocklaw18.LendTo', WHERE WHAT IT READS IS OF BULK AT MOST 1048576: true; the input reads as it did. -/
def lendToUptoRow : OpenClaim := { program := "ytfcehcjhilmlgaa", sum := "c7acfc3d5e362795898856438c8fc8c5786203178aefd3a53b049fcd04b2fcf3", func := "ballcock/ballcocklaw18.LendTo", spec := "lendTo", inPlace := ["math/bits.Add64", "math/bits.Sub64"], unfollowed := true, recurses := true, named := ["math/bits.divideError", "math/bits.overflowError"], apart := false, narrowed := true }
def LendToUptoSaid : Prop := lendToUptoRow.holds Try.pinned (OpenSpec.upto lendToSpec)

end Rows
end Go.Proofs.Ytfcehcjhilmlgaa
