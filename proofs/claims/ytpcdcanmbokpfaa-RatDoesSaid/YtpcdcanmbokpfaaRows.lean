/-
  No cell of these rows narrows 'for every input' (looked for: loops, veiled, ifaces, maps, wideKeys, modest, calm, conditions, laid).
  DERIVED. THE GIVEN ROWS OF THIS SEAT. 8 by the template 'for every input the law returns true; each argument reads behind the call as it read before'; 0 by the template 'total and deterministic' (their statements: YtpcdcanmbokpfaaTotals.lean).
  GIVEN WITH THE SEED: the statements are not yours to turn. If you find one false, say at which input.
  Laid BY PROGRAM, IN A SANDBOX (cutbox-rows.mjs): the forced cells as the released guide's own fill.sh prints them over the translation 832420b945b6e8d2… (all of the seat's roots in one cut). By AI agents, Wed Nov 11 2026. No macro, syntax, notation, axiom, sorry.
-/
import Derived.Test.YtpcdcanmbokpfaaChecked
import GoSem.Claim
import GoSem.ClaimJoined
import GoSem.ClaimMapViews
import Derived.JoinedTies
import Derived.KernelRfl
namespace Go.Proofs.Ytpcdcanmbokpfaa
/- THE CELL 'sum', in the pinned program and in every row, IS THE sha256 OF THE DUMP (.gsa) THAT YtpcdcanmbokpfaaProg.lean LOADS. Nothing in Lean hashes anything: it is a label: what it is worth is what the hold of that sum in a sandbox is worth. -/
noncomputable def Try.pinned : Pinned := { name := "ytpcdcanmbokpfaa", sum := "832420b945b6e8d21ac1d6256e61c14c3c0a13e44758c42d0f57fa8316189f22", checked := Try.checked }
namespace Rows
def none {H : Type} : Left H := { results := [], args := [] }

/-- 'ballcocklaw01.RatBetween': WHATEVER THE INPUT: true; the input reads as it did. -/
def ratBetweenSpec : ChangeSpec := { name := "ratBetween", fn := fun _ => fun
  | [d1, d2] => { results := [.lit (.bool true)], args := [d1, d2] }
  | _ => none }
def ratBetweenRow : OpenClaim := { program := "ytpcdcanmbokpfaa", sum := "832420b945b6e8d21ac1d6256e61c14c3c0a13e44758c42d0f57fa8316189f22", func := "ballcock/ballcocklaw01.RatBetween", spec := "ratBetween", inPlace := ["math/bits.Add64", "math/bits.Sub64"], named := ["math/bits.divideError", "math/bits.overflowError"], apart := false }
def RatBetweenSaid : Prop := ratBetweenRow.holds Try.pinned (OpenSpec.ofChange ratBetweenSpec)

/-- ITS FALSE NEIGHBOUR: 'it returns false'. Refute it at one input. -/
def ratBetweenWrong : ChangeSpec := { name := "ratBetween", fn := fun _ => fun
  | [d1, d2] => { results := [.lit (.bool false)], args := [d1, d2] }
  | _ => none }
def RatBetweenWrongFalsely : Prop := ratBetweenRow.holds Try.pinned (OpenSpec.ofChange ratBetweenWrong)

/-- 'ballcocklaw01.RatDoes': WHATEVER THE INPUT: true; the input reads as it did. -/
def ratDoesSpec : ChangeSpec := { name := "ratDoes", fn := fun _ => fun
  | [d1, d2] => { results := [.lit (.bool true)], args := [d1, d2] }
  | _ => none }
def ratDoesRow : OpenClaim := { program := "ytpcdcanmbokpfaa", sum := "832420b945b6e8d21ac1d6256e61c14c3c0a13e44758c42d0f57fa8316189f22", func := "ballcock/ballcocklaw01.RatDoes", spec := "ratDoes", inPlace := ["math/bits.Add64", "math/bits.Sub64"], named := ["math/bits.divideError", "math/bits.overflowError"], apart := false }
def RatDoesSaid : Prop := ratDoesRow.holds Try.pinned (OpenSpec.ofChange ratDoesSpec)

/-- ITS FALSE NEIGHBOUR: 'it returns false'. Refute it at one input. -/
def ratDoesWrong : ChangeSpec := { name := "ratDoes", fn := fun _ => fun
  | [d1, d2] => { results := [.lit (.bool false)], args := [d1, d2] }
  | _ => none }
def RatDoesWrongFalsely : Prop := ratDoesRow.holds Try.pinned (OpenSpec.ofChange ratDoesWrong)

/-- 'ballcocklaw01.RatLaws': WHATEVER THE INPUT: true; the input reads as it did. -/
def ratLawsSpec : ChangeSpec := { name := "ratLaws", fn := fun _ => fun
  | [d1, d2, d3] => { results := [.lit (.bool true)], args := [d1, d2, d3] }
  | _ => none }
def ratLawsRow : OpenClaim := { program := "ytpcdcanmbokpfaa", sum := "832420b945b6e8d21ac1d6256e61c14c3c0a13e44758c42d0f57fa8316189f22", func := "ballcock/ballcocklaw01.RatLaws", spec := "ratLaws", inPlace := ["math/bits.Add64", "math/bits.Sub64"], named := ["math/bits.divideError", "math/bits.overflowError"], apart := false }
def RatLawsSaid : Prop := ratLawsRow.holds Try.pinned (OpenSpec.ofChange ratLawsSpec)

/-- ITS FALSE NEIGHBOUR: 'it returns false'. Refute it at one input. -/
def ratLawsWrong : ChangeSpec := { name := "ratLaws", fn := fun _ => fun
  | [d1, d2, d3] => { results := [.lit (.bool false)], args := [d1, d2, d3] }
  | _ => none }
def RatLawsWrongFalsely : Prop := ratLawsRow.holds Try.pinned (OpenSpec.ofChange ratLawsWrong)

/-- 'ballcocklaw01.RatOrder': WHATEVER THE INPUT: true; the input reads as it did. -/
def ratOrderSpec : ChangeSpec := { name := "ratOrder", fn := fun _ => fun
  | [d1, d2, d3] => { results := [.lit (.bool true)], args := [d1, d2, d3] }
  | _ => none }
def ratOrderRow : OpenClaim := { program := "ytpcdcanmbokpfaa", sum := "832420b945b6e8d21ac1d6256e61c14c3c0a13e44758c42d0f57fa8316189f22", func := "ballcock/ballcocklaw01.RatOrder", spec := "ratOrder", inPlace := ["math/bits.Add64", "math/bits.Sub64"], named := ["math/bits.divideError", "math/bits.overflowError"], apart := false }
def RatOrderSaid : Prop := ratOrderRow.holds Try.pinned (OpenSpec.ofChange ratOrderSpec)

/-- ITS FALSE NEIGHBOUR: 'it returns false'. Refute it at one input. -/
def ratOrderWrong : ChangeSpec := { name := "ratOrder", fn := fun _ => fun
  | [d1, d2, d3] => { results := [.lit (.bool false)], args := [d1, d2, d3] }
  | _ => none }
def RatOrderWrongFalsely : Prop := ratOrderRow.holds Try.pinned (OpenSpec.ofChange ratOrderWrong)

/-- 'ballcocklaw01.RatNoughts': WHATEVER THE INPUT: true; the input reads as it did. -/
def ratNoughtsSpec : ChangeSpec := { name := "ratNoughts", fn := fun _ => fun
  | [d] => { results := [.lit (.bool true)], args := [d] }
  | _ => none }
def ratNoughtsRow : OpenClaim := { program := "ytpcdcanmbokpfaa", sum := "832420b945b6e8d21ac1d6256e61c14c3c0a13e44758c42d0f57fa8316189f22", func := "ballcock/ballcocklaw01.RatNoughts", spec := "ratNoughts", inPlace := ["math/bits.Add64", "math/bits.Sub64"], named := ["math/bits.divideError", "math/bits.overflowError"], apart := false }
def RatNoughtsSaid : Prop := ratNoughtsRow.holds Try.pinned (OpenSpec.ofChange ratNoughtsSpec)

/-- ITS FALSE NEIGHBOUR: 'it returns false'. Refute it at one input. -/
def ratNoughtsWrong : ChangeSpec := { name := "ratNoughts", fn := fun _ => fun
  | [d] => { results := [.lit (.bool false)], args := [d] }
  | _ => none }
def RatNoughtsWrongFalsely : Prop := ratNoughtsRow.holds Try.pinned (OpenSpec.ofChange ratNoughtsWrong)

/-- 'ballcocklaw01.RatWhole': WHATEVER THE INPUT: true; the input reads as it did. -/
def ratWholeSpec : ChangeSpec := { name := "ratWhole", fn := fun _ => fun
  | [d1, d2, d3] => { results := [.lit (.bool true)], args := [d1, d2, d3] }
  | _ => none }
def ratWholeRow : OpenClaim := { program := "ytpcdcanmbokpfaa", sum := "832420b945b6e8d21ac1d6256e61c14c3c0a13e44758c42d0f57fa8316189f22", func := "ballcock/ballcocklaw01.RatWhole", spec := "ratWhole", inPlace := ["math/bits.Add64", "math/bits.Sub64"], named := ["math/bits.divideError", "math/bits.overflowError"], apart := false }
def RatWholeSaid : Prop := ratWholeRow.holds Try.pinned (OpenSpec.ofChange ratWholeSpec)

/-- ITS FALSE NEIGHBOUR: 'it returns false'. Refute it at one input. -/
def ratWholeWrong : ChangeSpec := { name := "ratWhole", fn := fun _ => fun
  | [d1, d2, d3] => { results := [.lit (.bool false)], args := [d1, d2, d3] }
  | _ => none }
def RatWholeWrongFalsely : Prop := ratWholeRow.holds Try.pinned (OpenSpec.ofChange ratWholeWrong)

/-- 'ballcocklaw15.PermKeeps': WHATEVER THE INPUT: true; the input reads as it did. -/
def permKeepsSpec : ChangeSpec := { name := "permKeeps", fn := fun _ => fun
  | [d1, d2] => { results := [.lit (.bool true)], args := [d1, d2] }
  | _ => none }
def permKeepsRow : OpenClaim := { program := "ytpcdcanmbokpfaa", sum := "832420b945b6e8d21ac1d6256e61c14c3c0a13e44758c42d0f57fa8316189f22", func := "ballcock/ballcocklaw15.PermKeeps", spec := "permKeeps", inPlace := ["math/bits.Add64", "math/bits.Sub64"], named := ["math/bits.divideError", "math/bits.overflowError"], apart := false }
def PermKeepsSaid : Prop := permKeepsRow.holds Try.pinned (OpenSpec.ofChange permKeepsSpec)

/-- ITS FALSE NEIGHBOUR: 'it returns false'. Refute it at one input. -/
def permKeepsWrong : ChangeSpec := { name := "permKeeps", fn := fun _ => fun
  | [d1, d2] => { results := [.lit (.bool false)], args := [d1, d2] }
  | _ => none }
def PermKeepsWrongFalsely : Prop := permKeepsRow.holds Try.pinned (OpenSpec.ofChange permKeepsWrong)

/-- 'ballcocklaw15.PermHalves': WHATEVER THE INPUT: true; the input reads as it did. -/
def permHalvesSpec : ChangeSpec := { name := "permHalves", fn := fun _ => fun
  | [d1, d2, d3] => { results := [.lit (.bool true)], args := [d1, d2, d3] }
  | _ => none }
def permHalvesRow : OpenClaim := { program := "ytpcdcanmbokpfaa", sum := "832420b945b6e8d21ac1d6256e61c14c3c0a13e44758c42d0f57fa8316189f22", func := "ballcock/ballcocklaw15.PermHalves", spec := "permHalves", inPlace := ["math/bits.Add64", "math/bits.Sub64"], named := ["math/bits.divideError", "math/bits.overflowError"], apart := false }
def PermHalvesSaid : Prop := permHalvesRow.holds Try.pinned (OpenSpec.ofChange permHalvesSpec)

/-- ITS FALSE NEIGHBOUR: 'it returns false'. Refute it at one input. -/
def permHalvesWrong : ChangeSpec := { name := "permHalves", fn := fun _ => fun
  | [d1, d2, d3] => { results := [.lit (.bool false)], args := [d1, d2, d3] }
  | _ => none }
def PermHalvesWrongFalsely : Prop := permHalvesRow.holds Try.pinned (OpenSpec.ofChange permHalvesWrong)

/- THE SECOND FORM. 'bulk': how many values and letters a reading holds, each counted each time it is reached (what is shared counts as often as it is met; a slice's spare places count too). A statement '..UptoSaid' is the law's where the arguments, and the package variables that the reading takes, are together of bulk at most 1048576: NARROWER than '..Said'. Prove '..Said' where nothing that the law and all that it calls make is longer than what came in: it says more and counts as full. Else prove '..UptoSaid'. A law counts once. -/
mutual
def uptoBulk {H : Type} : DataW H → Nat
  | .lit (.string bytes) => bytes.length + 1
  | .lit _ => 1
  | .nil => 1
  | .ptr d => uptoBulk d + 1
  | .slice elems spare => uptoBulkAll elems + uptoBulkAll spare + 1
  | .agg parts => uptoBulkAll parts + 1
  | .iface _ d => uptoBulk d + 1
  | .map entries => uptoBulkEntries entries + 1
  | .held _ => 1
def uptoBulkAll {H : Type} : List (DataW H) → Nat
  | [] => 0
  | d :: r => uptoBulk d + uptoBulkAll r
def uptoBulkEntries {H : Type} : List (Lit × DataW H) → Nat
  | [] => 0
  | x :: r => uptoBulkEntry x + uptoBulkEntries r
def uptoBulkEntry {H : Type} : Lit × DataW H → Nat
  | (.string bytes, d) => bytes.length + uptoBulk d + 1
  | (_, d) => uptoBulk d + 1
 end
def uptoSmall : (H : Type) → List (DataW H) → Bool := fun _ ds => decide (uptoBulkAll ds ≤ 1048576)
def OpenSpec.upto (s : _root_.Go.ChangeSpec) : _root_.Go.OpenSpec := { _root_.Go.OpenSpec.ofChange s with cond := some uptoSmall }

/-- 'ballcocklaw01.RatBetween', WHERE WHAT IT READS IS OF BULK AT MOST 1048576: true; the input reads as it did. -/
def ratBetweenUptoRow : OpenClaim := { program := "ytpcdcanmbokpfaa", sum := "832420b945b6e8d21ac1d6256e61c14c3c0a13e44758c42d0f57fa8316189f22", func := "ballcock/ballcocklaw01.RatBetween", spec := "ratBetween", inPlace := ["math/bits.Add64", "math/bits.Sub64"], named := ["math/bits.divideError", "math/bits.overflowError"], apart := false, narrowed := true }
def RatBetweenUptoSaid : Prop := ratBetweenUptoRow.holds Try.pinned (OpenSpec.upto ratBetweenSpec)

/-- 'ballcocklaw01.RatDoes', WHERE WHAT IT READS IS OF BULK AT MOST 1048576: true; the input reads as it did. -/
def ratDoesUptoRow : OpenClaim := { program := "ytpcdcanmbokpfaa", sum := "832420b945b6e8d21ac1d6256e61c14c3c0a13e44758c42d0f57fa8316189f22", func := "ballcock/ballcocklaw01.RatDoes", spec := "ratDoes", inPlace := ["math/bits.Add64", "math/bits.Sub64"], named := ["math/bits.divideError", "math/bits.overflowError"], apart := false, narrowed := true }
def RatDoesUptoSaid : Prop := ratDoesUptoRow.holds Try.pinned (OpenSpec.upto ratDoesSpec)

/-- 'ballcocklaw01.RatLaws', WHERE WHAT IT READS IS OF BULK AT MOST 1048576: true; the input reads as it did. -/
def ratLawsUptoRow : OpenClaim := { program := "ytpcdcanmbokpfaa", sum := "832420b945b6e8d21ac1d6256e61c14c3c0a13e44758c42d0f57fa8316189f22", func := "ballcock/ballcocklaw01.RatLaws", spec := "ratLaws", inPlace := ["math/bits.Add64", "math/bits.Sub64"], named := ["math/bits.divideError", "math/bits.overflowError"], apart := false, narrowed := true }
def RatLawsUptoSaid : Prop := ratLawsUptoRow.holds Try.pinned (OpenSpec.upto ratLawsSpec)

/-- 'ballcocklaw01.RatOrder', WHERE WHAT IT READS IS OF BULK AT MOST 1048576: true; the input reads as it did. -/
def ratOrderUptoRow : OpenClaim := { program := "ytpcdcanmbokpfaa", sum := "832420b945b6e8d21ac1d6256e61c14c3c0a13e44758c42d0f57fa8316189f22", func := "ballcock/ballcocklaw01.RatOrder", spec := "ratOrder", inPlace := ["math/bits.Add64", "math/bits.Sub64"], named := ["math/bits.divideError", "math/bits.overflowError"], apart := false, narrowed := true }
def RatOrderUptoSaid : Prop := ratOrderUptoRow.holds Try.pinned (OpenSpec.upto ratOrderSpec)

/-- 'ballcocklaw01.RatNoughts', WHERE WHAT IT READS IS OF BULK AT MOST 1048576: true; the input reads as it did. -/
def ratNoughtsUptoRow : OpenClaim := { program := "ytpcdcanmbokpfaa", sum := "832420b945b6e8d21ac1d6256e61c14c3c0a13e44758c42d0f57fa8316189f22", func := "ballcock/ballcocklaw01.RatNoughts", spec := "ratNoughts", inPlace := ["math/bits.Add64", "math/bits.Sub64"], named := ["math/bits.divideError", "math/bits.overflowError"], apart := false, narrowed := true }
def RatNoughtsUptoSaid : Prop := ratNoughtsUptoRow.holds Try.pinned (OpenSpec.upto ratNoughtsSpec)

/-- 'ballcocklaw01.RatWhole', WHERE WHAT IT READS IS OF BULK AT MOST 1048576: true; the input reads as it did. -/
def ratWholeUptoRow : OpenClaim := { program := "ytpcdcanmbokpfaa", sum := "832420b945b6e8d21ac1d6256e61c14c3c0a13e44758c42d0f57fa8316189f22", func := "ballcock/ballcocklaw01.RatWhole", spec := "ratWhole", inPlace := ["math/bits.Add64", "math/bits.Sub64"], named := ["math/bits.divideError", "math/bits.overflowError"], apart := false, narrowed := true }
def RatWholeUptoSaid : Prop := ratWholeUptoRow.holds Try.pinned (OpenSpec.upto ratWholeSpec)

/-- 'ballcocklaw15.PermKeeps', WHERE WHAT IT READS IS OF BULK AT MOST 1048576: true; the input reads as it did. -/
def permKeepsUptoRow : OpenClaim := { program := "ytpcdcanmbokpfaa", sum := "832420b945b6e8d21ac1d6256e61c14c3c0a13e44758c42d0f57fa8316189f22", func := "ballcock/ballcocklaw15.PermKeeps", spec := "permKeeps", inPlace := ["math/bits.Add64", "math/bits.Sub64"], named := ["math/bits.divideError", "math/bits.overflowError"], apart := false, narrowed := true }
def PermKeepsUptoSaid : Prop := permKeepsUptoRow.holds Try.pinned (OpenSpec.upto permKeepsSpec)

/-- 'ballcocklaw15.PermHalves', WHERE WHAT IT READS IS OF BULK AT MOST 1048576: true; the input reads as it did. -/
def permHalvesUptoRow : OpenClaim := { program := "ytpcdcanmbokpfaa", sum := "832420b945b6e8d21ac1d6256e61c14c3c0a13e44758c42d0f57fa8316189f22", func := "ballcock/ballcocklaw15.PermHalves", spec := "permHalves", inPlace := ["math/bits.Add64", "math/bits.Sub64"], named := ["math/bits.divideError", "math/bits.overflowError"], apart := false, narrowed := true }
def PermHalvesUptoSaid : Prop := permHalvesUptoRow.holds Try.pinned (OpenSpec.upto permHalvesSpec)

end Rows
end Go.Proofs.Ytpcdcanmbokpfaa
