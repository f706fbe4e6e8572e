/-
  No cell of these rows narrows 'for every input' (looked for: loops, veiled, ifaces, maps, wideKeys, modest, calm, conditions, laid).
  DERIVED. THE GIVEN ROWS OF THIS SEAT. 5 by the template 'for every input the law returns true; each argument reads behind the call as it read before'; 0 by the template 'total and deterministic' (their statements: YtnahfkmdojbpkaaTotals.lean).
  GIVEN WITH THE SEED: the statements are not yours to turn. If you find one false, say at which input.
  Laid BY PROGRAM, IN A SANDBOX (cutbox-rows.mjs): the forced cells as the released guide's own fill.sh prints them over the translation cee1b863833a5e44… (all of the seat's roots in one cut). By AI agents, Wed Nov 11 2026. No macro, syntax, notation, axiom, sorry.
-/
import Derived.Test.YtnahfkmdojbpkaaChecked
import GoSem.Claim
import GoSem.ClaimJoined
import GoSem.ClaimMapViews
import Derived.JoinedTies
import Derived.KernelRfl
namespace Go.Proofs.Ytnahfkmdojbpkaa
/- THE CELL 'sum', in the pinned program and in every row, IS THE sha256 OF THE DUMP (.gsa) THAT YtnahfkmdojbpkaaProg.lean LOADS. Nothing in Lean hashes anything: it is a label: what it is worth is what the hold of that sum in a sandbox is worth. -/
noncomputable def Try.pinned : Pinned := { name := "ytnahfkmdojbpkaa", sum := "cee1b863833a5e4462bd9c1f08f537f9d913bd2bee38164c9bdc191465b622fb", checked := Try.checked }
namespace Rows
def none {H : Type} : Left H := { results := [], args := [] }

/-- 'ballcocklaw03.GaussSolves': WHATEVER THE INPUT: true; the input reads as it did. -/
def gaussSolvesSpec : ChangeSpec := { name := "gaussSolves", fn := fun _ => fun
  | [d] => { results := [.lit (.bool true)], args := [d] }
  | _ => none }
def gaussSolvesRow : OpenClaim := { program := "ytnahfkmdojbpkaa", sum := "cee1b863833a5e4462bd9c1f08f537f9d913bd2bee38164c9bdc191465b622fb", func := "ballcock/ballcocklaw03.GaussSolves", spec := "gaussSolves", inPlace := ["math/bits.Add64", "math/bits.Sub64"], unfollowed := true, recurses := true, named := ["math/bits.divideError", "math/bits.overflowError"], apart := false }
def GaussSolvesSaid : Prop := gaussSolvesRow.holds Try.pinned (OpenSpec.ofChange gaussSolvesSpec)

/-- ITS FALSE NEIGHBOUR: 'it returns false'. Refute it at one input. -/
def gaussSolvesWrong : ChangeSpec := { name := "gaussSolves", fn := fun _ => fun
  | [d] => { results := [.lit (.bool false)], args := [d] }
  | _ => none }
def GaussSolvesWrongFalsely : Prop := gaussSolvesRow.holds Try.pinned (OpenSpec.ofChange gaussSolvesWrong)

/-- 'ballcocklaw03.GaussKeeps': WHATEVER THE INPUT: true; the input reads as it did. -/
def gaussKeepsSpec : ChangeSpec := { name := "gaussKeeps", fn := fun _ => fun
  | [d1, d2] => { results := [.lit (.bool true)], args := [d1, d2] }
  | _ => none }
def gaussKeepsRow : OpenClaim := { program := "ytnahfkmdojbpkaa", sum := "cee1b863833a5e4462bd9c1f08f537f9d913bd2bee38164c9bdc191465b622fb", func := "ballcock/ballcocklaw03.GaussKeeps", spec := "gaussKeeps", inPlace := ["math/bits.Add64", "math/bits.Sub64"], unfollowed := true, recurses := true, named := ["math/bits.divideError", "math/bits.overflowError"], apart := false }
def GaussKeepsSaid : Prop := gaussKeepsRow.holds Try.pinned (OpenSpec.ofChange gaussKeepsSpec)

/-- ITS FALSE NEIGHBOUR: 'it returns false'. Refute it at one input. -/
def gaussKeepsWrong : ChangeSpec := { name := "gaussKeeps", fn := fun _ => fun
  | [d1, d2] => { results := [.lit (.bool false)], args := [d1, d2] }
  | _ => none }
def GaussKeepsWrongFalsely : Prop := gaussKeepsRow.holds Try.pinned (OpenSpec.ofChange gaussKeepsWrong)

/-- 'ballcocklaw03.GaussTwice': WHATEVER THE INPUT: true; the input reads as it did. -/
def gaussTwiceSpec : ChangeSpec := { name := "gaussTwice", fn := fun _ => fun
  | [d] => { results := [.lit (.bool true)], args := [d] }
  | _ => none }
def gaussTwiceRow : OpenClaim := { program := "ytnahfkmdojbpkaa", sum := "cee1b863833a5e4462bd9c1f08f537f9d913bd2bee38164c9bdc191465b622fb", func := "ballcock/ballcocklaw03.GaussTwice", spec := "gaussTwice", inPlace := ["math/bits.Add64", "math/bits.Sub64"], unfollowed := true, recurses := true, named := ["math/bits.divideError", "math/bits.overflowError"], apart := false }
def GaussTwiceSaid : Prop := gaussTwiceRow.holds Try.pinned (OpenSpec.ofChange gaussTwiceSpec)

/-- ITS FALSE NEIGHBOUR: 'it returns false'. Refute it at one input. -/
def gaussTwiceWrong : ChangeSpec := { name := "gaussTwice", fn := fun _ => fun
  | [d] => { results := [.lit (.bool false)], args := [d] }
  | _ => none }
def GaussTwiceWrongFalsely : Prop := gaussTwiceRow.holds Try.pinned (OpenSpec.ofChange gaussTwiceWrong)

/-- 'ballcocklaw03.GaussPivots': WHATEVER THE INPUT: true; the input reads as it did. -/
def gaussPivotsSpec : ChangeSpec := { name := "gaussPivots", fn := fun _ => fun
  | [d] => { results := [.lit (.bool true)], args := [d] }
  | _ => none }
def gaussPivotsRow : OpenClaim := { program := "ytnahfkmdojbpkaa", sum := "cee1b863833a5e4462bd9c1f08f537f9d913bd2bee38164c9bdc191465b622fb", func := "ballcock/ballcocklaw03.GaussPivots", spec := "gaussPivots", inPlace := ["math/bits.Add64", "math/bits.Sub64"], unfollowed := true, recurses := true, named := ["math/bits.divideError", "math/bits.overflowError"], apart := false }
def GaussPivotsSaid : Prop := gaussPivotsRow.holds Try.pinned (OpenSpec.ofChange gaussPivotsSpec)

/-- ITS FALSE NEIGHBOUR: 'it returns false'. Refute it at one input. -/
def gaussPivotsWrong : ChangeSpec := { name := "gaussPivots", fn := fun _ => fun
  | [d] => { results := [.lit (.bool false)], args := [d] }
  | _ => none }
def GaussPivotsWrongFalsely : Prop := gaussPivotsRow.holds Try.pinned (OpenSpec.ofChange gaussPivotsWrong)

/-- 'ballcocklaw03.GaussOrder': WHATEVER THE INPUT: true; the input reads as it did. -/
def gaussOrderSpec : ChangeSpec := { name := "gaussOrder", fn := fun _ => fun
  | [d1, d2] => { results := [.lit (.bool true)], args := [d1, d2] }
  | _ => none }
def gaussOrderRow : OpenClaim := { program := "ytnahfkmdojbpkaa", sum := "cee1b863833a5e4462bd9c1f08f537f9d913bd2bee38164c9bdc191465b622fb", func := "ballcock/ballcocklaw03.GaussOrder", spec := "gaussOrder", inPlace := ["math/bits.Add64", "math/bits.Sub64"], unfollowed := true, recurses := true, named := ["math/bits.divideError", "math/bits.overflowError"], apart := false }
def GaussOrderSaid : Prop := gaussOrderRow.holds Try.pinned (OpenSpec.ofChange gaussOrderSpec)

/-- ITS FALSE NEIGHBOUR: 'it returns false'. Refute it at one input. -/
def gaussOrderWrong : ChangeSpec := { name := "gaussOrder", fn := fun _ => fun
  | [d1, d2] => { results := [.lit (.bool false)], args := [d1, d2] }
  | _ => none }
def GaussOrderWrongFalsely : Prop := gaussOrderRow.holds Try.pinned (OpenSpec.ofChange gaussOrderWrong)

/- THE SECOND FORM. 'bulk': how many values and letters a reading holds, each counted each time it is reached (what is shared counts as often as it is met; a slice's spare places count too). A statement '..UptoSaid' is the law's where the arguments, and the package variables that the reading takes, are together of bulk at most 1048576: NARROWER than '..Said'. Prove '..Said' where nothing that the law and all that it calls make is longer than what came in: it says more and counts as full. Else prove '..UptoSaid'. A law counts once. -/
mutual
def uptoBulk {H : Type} : DataW H → Nat
  | .lit (.string bytes) => bytes.length + 1
  | .lit _ => 1
  | .nil => 1
  | .ptr d => uptoBulk d + 1
  | .slice elems spare => uptoBulkAll elems + uptoBulkAll spare + 1
  | .agg parts => uptoBulkAll parts + 1
  | .iface _ d => uptoBulk d + 1
  | .map entries => uptoBulkEntries entries + 1
  | .held _ => 1
def uptoBulkAll {H : Type} : List (DataW H) → Nat
  | [] => 0
  | d :: r => uptoBulk d + uptoBulkAll r
def uptoBulkEntries {H : Type} : List (Lit × DataW H) → Nat
  | [] => 0
  | x :: r => uptoBulkEntry x + uptoBulkEntries r
def uptoBulkEntry {H : Type} : Lit × DataW H → Nat
  | (.string bytes, d) => bytes.length + uptoBulk d + 1
  | (_, d) => uptoBulk d + 1
 end
def uptoSmall : (H : Type) → List (DataW H) → Bool := fun _ ds => decide (uptoBulkAll ds ≤ 1048576)
def OpenSpec.upto (s : _root_.Go.ChangeSpec) : _root_.Go.OpenSpec := { _root_.Go.OpenSpec.ofChange s with cond := some uptoSmall }

/-- 'ballcocklaw03.GaussSolves', WHERE WHAT IT READS IS OF BULK AT MOST 1048576: true; the input reads as it did. -/
def gaussSolvesUptoRow : OpenClaim := { program := "ytnahfkmdojbpkaa", sum := "cee1b863833a5e4462bd9c1f08f537f9d913bd2bee38164c9bdc191465b622fb", func := "ballcock/ballcocklaw03.GaussSolves", spec := "gaussSolves", inPlace := ["math/bits.Add64", "math/bits.Sub64"], unfollowed := true, recurses := true, named := ["math/bits.divideError", "math/bits.overflowError"], apart := false, narrowed := true }
def GaussSolvesUptoSaid : Prop := gaussSolvesUptoRow.holds Try.pinned (OpenSpec.upto gaussSolvesSpec)

/-- 'ballcocklaw03.GaussKeeps', WHERE WHAT IT READS IS OF BULK AT MOST 1048576: true; the input reads as it did. -/
def gaussKeepsUptoRow : OpenClaim := { program := "ytnahfkmdojbpkaa", sum := "cee1b863833a5e4462bd9c1f08f537f9d913bd2bee38164c9bdc191465b622fb", func := "ballcock/ballcocklaw03.GaussKeeps", spec := "gaussKeeps", inPlace := ["math/bits.Add64", "math/bits.Sub64"], unfollowed := true, recurses := true, named := ["math/bits.divideError", "math/bits.overflowError"], apart := false, narrowed := true }
def GaussKeepsUptoSaid : Prop := gaussKeepsUptoRow.holds Try.pinned (OpenSpec.upto gaussKeepsSpec)

/-- 'ballcocklaw03.GaussTwice', WHERE WHAT IT READS IS OF BULK AT MOST 1048576: true; the input reads as it did. -/
def gaussTwiceUptoRow : OpenClaim := { program := "ytnahfkmdojbpkaa", sum := "cee1b863833a5e4462bd9c1f08f537f9d913bd2bee38164c9bdc191465b622fb", func := "ballcock/ballcocklaw03.GaussTwice", spec := "gaussTwice", inPlace := ["math/bits.Add64", "math/bits.Sub64"], unfollowed := true, recurses := true, named := ["math/bits.divideError", "math/bits.overflowError"], apart := false, narrowed := true }
def GaussTwiceUptoSaid : Prop := gaussTwiceUptoRow.holds Try.pinned (OpenSpec.upto gaussTwiceSpec)

/-- 'ballcocklaw03.GaussPivots', WHERE WHAT IT READS IS OF BULK AT MOST 1048576: true; the input reads as it did. -/
def gaussPivotsUptoRow : OpenClaim := { program := "ytnahfkmdojbpkaa", sum := "cee1b863833a5e4462bd9c1f08f537f9d913bd2bee38164c9bdc191465b622fb", func := "ballcock/ballcocklaw03.GaussPivots", spec := "gaussPivots", inPlace := ["math/bits.Add64", "math/bits.Sub64"], unfollowed := true, recurses := true, named := ["math/bits.divideError", "math/bits.overflowError"], apart := false, narrowed := true }
def GaussPivotsUptoSaid : Prop := gaussPivotsUptoRow.holds Try.pinned (OpenSpec.upto gaussPivotsSpec)

/-- 'ballcocklaw03.GaussOrder', WHERE WHAT IT READS IS OF BULK AT MOST 1048576: true; the input reads as it did. -/
def gaussOrderUptoRow : OpenClaim := { program := "ytnahfkmdojbpkaa", sum := "cee1b863833a5e4462bd9c1f08f537f9d913bd2bee38164c9bdc191465b622fb", func := "ballcock/ballcocklaw03.GaussOrder", spec := "gaussOrder", inPlace := ["math/bits.Add64", "math/bits.Sub64"], unfollowed := true, recurses := true, named := ["math/bits.divideError", "math/bits.overflowError"], apart := false, narrowed := true }
def GaussOrderUptoSaid : Prop := gaussOrderUptoRow.holds Try.pinned (OpenSpec.upto gaussOrderSpec)

end Rows
end Go.Proofs.Ytnahfkmdojbpkaa
