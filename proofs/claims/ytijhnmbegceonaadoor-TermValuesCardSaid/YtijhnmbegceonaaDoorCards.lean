/-
  DERIVED. GIVEN WITH THE SEED: THE CARDS: each row of YtijhnmbegceonaaDoorRows.lean that lists a variable, with what it lists TIED to the program's text (the seventh form; the later family's looks); each row that meets fmt, with fmt's text TOLD by the authors' own Lean function (tested against real Go, not proved from fmt's source: count such statements apart). THE CARD IS WHAT COUNTS. Prove the row's statement (the work); the ties are given (YtijhnmbegceonaaDoorTie.lean); close each card by the builder's one call (the guide's Derived/Test/ToyasCard.lean, 'card_holds'). Laid BY PROGRAM, IN A SANDBOX (cutbox-door.mjs). By AI agents, Wed Nov 11 2026. No macro, syntax, notation, axiom, sorry.
-/
import Derived.Test.YtijhnmbegceonaaDoorRows
import GoSem.ClaimSeven
namespace Go.Proofs.YtijhnmbegceonaaDoor
namespace Rows

/-- THE TIED CARD OF 'ballcocklaw02.TermTexts'. -/
def termTextsCard : Claim7 := { stood := { row := termTextsRow, standIns := [], harness := (true, "7ab4e62a94a23014b948bd67d284e40bb0d8d58a0bbeb0ad9e105efe6873d086"), looks := false }, kinds := [], alts := [], laidByText := true, laidKinds := [.data, .data, .data], laidTests := true, laidLooks := .later }
def TermTextsCardSaid : Prop := Claim7.holds Tryd.pinned (.plain (OpenSpec.ofChange termTextsSpec)) termTextsCard

/-- THE TIED CARD OF 'ballcocklaw02.TermOwn'. -/
def termOwnCard : Claim7 := { stood := { row := termOwnRow, standIns := [], harness := (true, "7ab4e62a94a23014b948bd67d284e40bb0d8d58a0bbeb0ad9e105efe6873d086"), looks := false }, kinds := [], alts := [], laidByText := true, laidKinds := [.data, .data, .data], laidTests := true, laidLooks := .later }
def TermOwnCardSaid : Prop := Claim7.holds Tryd.pinned (.plain (OpenSpec.ofChange termOwnSpec)) termOwnCard

/-- THE TIED CARD OF 'ballcocklaw02.TermDoes'. -/
def termDoesCard : Claim7 := { stood := { row := termDoesRow, standIns := [], harness := (true, "7ab4e62a94a23014b948bd67d284e40bb0d8d58a0bbeb0ad9e105efe6873d086"), looks := false }, kinds := [], alts := [], laidByText := true, laidKinds := [.data, .data, .data], laidTests := true, laidLooks := .later }
def TermDoesCardSaid : Prop := Claim7.holds Tryd.pinned (.plain (OpenSpec.ofChange termDoesSpec)) termDoesCard

/-- THE TIED CARD OF 'ballcocklaw02.TermValues'. -/
def termValuesCard : Claim7 := { stood := { row := termValuesRow, standIns := [], harness := (true, "7ab4e62a94a23014b948bd67d284e40bb0d8d58a0bbeb0ad9e105efe6873d086"), looks := false }, kinds := [], alts := [], laidByText := true, laidKinds := [.data, .data, .data], laidTests := true, laidLooks := .later }
def TermValuesCardSaid : Prop := Claim7.holds Tryd.pinned (.plain (OpenSpec.ofChange termValuesSpec)) termValuesCard

/-- THE TIED CARD OF 'ballcocklaw02.TermNoughts'. -/
def termNoughtsCard : Claim7 := { stood := { row := termNoughtsRow, standIns := [], harness := (true, "7ab4e62a94a23014b948bd67d284e40bb0d8d58a0bbeb0ad9e105efe6873d086"), looks := false }, kinds := [], alts := [], laidByText := true, laidKinds := [.data, .data, .data], laidTests := true, laidLooks := .later }
def TermNoughtsCardSaid : Prop := Claim7.holds Tryd.pinned (.plain (OpenSpec.ofChange termNoughtsSpec)) termNoughtsCard

/-- THE TIED CARD OF 'ballcocklaw02.TermTurns'. -/
def termTurnsCard : Claim7 := { stood := { row := termTurnsRow, standIns := [], harness := (true, "7ab4e62a94a23014b948bd67d284e40bb0d8d58a0bbeb0ad9e105efe6873d086"), looks := false }, kinds := [], alts := [], laidByText := true, laidKinds := [.data, .data, .data], laidTests := true, laidLooks := .later }
def TermTurnsCardSaid : Prop := Claim7.holds Tryd.pinned (.plain (OpenSpec.ofChange termTurnsSpec)) termTurnsCard

/-- THE SECOND FORM's CARD OF 'ballcocklaw02.TermTexts'. -/
def termTextsUptoCard : Claim7 := { stood := { row := termTextsUptoRow, standIns := [], harness := (true, "7ab4e62a94a23014b948bd67d284e40bb0d8d58a0bbeb0ad9e105efe6873d086"), looks := false }, kinds := [], alts := [], laidByText := true, laidKinds := [.data, .data, .data], laidTests := true, laidLooks := .later }
def TermTextsUptoCardSaid : Prop := Claim7.holds Tryd.pinned (.plain (OpenSpec.upto termTextsSpec)) termTextsUptoCard

/-- THE SECOND FORM's CARD OF 'ballcocklaw02.TermOwn'. -/
def termOwnUptoCard : Claim7 := { stood := { row := termOwnUptoRow, standIns := [], harness := (true, "7ab4e62a94a23014b948bd67d284e40bb0d8d58a0bbeb0ad9e105efe6873d086"), looks := false }, kinds := [], alts := [], laidByText := true, laidKinds := [.data, .data, .data], laidTests := true, laidLooks := .later }
def TermOwnUptoCardSaid : Prop := Claim7.holds Tryd.pinned (.plain (OpenSpec.upto termOwnSpec)) termOwnUptoCard

/-- THE SECOND FORM's CARD OF 'ballcocklaw02.TermDoes'. -/
def termDoesUptoCard : Claim7 := { stood := { row := termDoesUptoRow, standIns := [], harness := (true, "7ab4e62a94a23014b948bd67d284e40bb0d8d58a0bbeb0ad9e105efe6873d086"), looks := false }, kinds := [], alts := [], laidByText := true, laidKinds := [.data, .data, .data], laidTests := true, laidLooks := .later }
def TermDoesUptoCardSaid : Prop := Claim7.holds Tryd.pinned (.plain (OpenSpec.upto termDoesSpec)) termDoesUptoCard

/-- THE SECOND FORM's CARD OF 'ballcocklaw02.TermValues'. -/
def termValuesUptoCard : Claim7 := { stood := { row := termValuesUptoRow, standIns := [], harness := (true, "7ab4e62a94a23014b948bd67d284e40bb0d8d58a0bbeb0ad9e105efe6873d086"), looks := false }, kinds := [], alts := [], laidByText := true, laidKinds := [.data, .data, .data], laidTests := true, laidLooks := .later }
def TermValuesUptoCardSaid : Prop := Claim7.holds Tryd.pinned (.plain (OpenSpec.upto termValuesSpec)) termValuesUptoCard

/-- THE SECOND FORM's CARD OF 'ballcocklaw02.TermNoughts'. -/
def termNoughtsUptoCard : Claim7 := { stood := { row := termNoughtsUptoRow, standIns := [], harness := (true, "7ab4e62a94a23014b948bd67d284e40bb0d8d58a0bbeb0ad9e105efe6873d086"), looks := false }, kinds := [], alts := [], laidByText := true, laidKinds := [.data, .data, .data], laidTests := true, laidLooks := .later }
def TermNoughtsUptoCardSaid : Prop := Claim7.holds Tryd.pinned (.plain (OpenSpec.upto termNoughtsSpec)) termNoughtsUptoCard

/-- THE SECOND FORM's CARD OF 'ballcocklaw02.TermTurns'. -/
def termTurnsUptoCard : Claim7 := { stood := { row := termTurnsUptoRow, standIns := [], harness := (true, "7ab4e62a94a23014b948bd67d284e40bb0d8d58a0bbeb0ad9e105efe6873d086"), looks := false }, kinds := [], alts := [], laidByText := true, laidKinds := [.data, .data, .data], laidTests := true, laidLooks := .later }
def TermTurnsUptoCardSaid : Prop := Claim7.holds Tryd.pinned (.plain (OpenSpec.upto termTurnsSpec)) termTurnsUptoCard
end Rows
end Go.Proofs.YtijhnmbegceonaaDoor
