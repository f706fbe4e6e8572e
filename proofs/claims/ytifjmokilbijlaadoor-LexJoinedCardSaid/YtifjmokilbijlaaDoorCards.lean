/-
  DERIVED. GIVEN WITH THE SEED: THE CARDS: each row of YtifjmokilbijlaaDoorRows.lean that lists a variable, with what it lists TIED to the program's text (the seventh form; the later family's looks); each row that meets fmt, with fmt's text TOLD by the authors' own Lean function (tested against real Go, not proved from fmt's source: count such statements apart). THE CARD IS WHAT COUNTS. Prove the row's statement (the work); the ties are given (YtifjmokilbijlaaDoorTie.lean); close each card by the builder's one call (the guide's Derived/Test/ToyasCard.lean, 'card_holds'). Laid BY PROGRAM, IN A SANDBOX (cutbox-door.mjs). By AI agents, Wed Nov 11 2026. No macro, syntax, notation, axiom, sorry.
-/
import Derived.Test.YtifjmokilbijlaaDoorRows
import GoSem.ClaimSeven
namespace Go.Proofs.YtifjmokilbijlaaDoor
namespace Rows

/-- THE TIED CARD OF 'ballcocklaw05.LexTokens'. -/
def lexTokensCard : Claim7 := { stood := { row := lexTokensRow, standIns := [], harness := (true, "b2a2bc304b9a66f0a06f1f9e52aa93fa13f841522876c315b4f2d51240697c25"), looks := false }, kinds := [], alts := [], laidByText := true, laidKinds := [.data, .pinned], laidTests := true, laidLooks := .later }
def LexTokensCardSaid : Prop := Claim7.holds Tryd.pinned (.plain (OpenSpec.ofChange lexTokensSpec)) lexTokensCard

/-- THE TIED CARD OF 'ballcocklaw05.LexNames'. -/
def lexNamesCard : Claim7 := { stood := { row := lexNamesRow, standIns := [], harness := (true, "b2a2bc304b9a66f0a06f1f9e52aa93fa13f841522876c315b4f2d51240697c25"), looks := false }, kinds := [], alts := [], laidByText := true, laidKinds := [.data, .pinned], laidTests := true, laidLooks := .later }
def LexNamesCardSaid : Prop := Claim7.holds Tryd.pinned (.plain (OpenSpec.ofChange lexNamesSpec)) lexNamesCard

/-- THE TIED CARD OF 'ballcocklaw05.LexAgain'. -/
def lexAgainCard : Claim7 := { stood := { row := lexAgainRow, standIns := [], harness := (true, "b2a2bc304b9a66f0a06f1f9e52aa93fa13f841522876c315b4f2d51240697c25"), looks := false }, kinds := [], alts := [], laidByText := true, laidKinds := [.data, .pinned], laidTests := true, laidLooks := .later }
def LexAgainCardSaid : Prop := Claim7.holds Tryd.pinned (.plain (OpenSpec.ofChange lexAgainSpec)) lexAgainCard

/-- THE TIED CARD OF 'ballcocklaw05.LexBig'. -/
def lexBigCard : Claim7 := { stood := { row := lexBigRow, standIns := [], harness := (true, "b2a2bc304b9a66f0a06f1f9e52aa93fa13f841522876c315b4f2d51240697c25"), looks := false }, kinds := [], alts := [], laidByText := true, laidKinds := [.data, .pinned], laidTests := true, laidLooks := .later }
def LexBigCardSaid : Prop := Claim7.holds Tryd.pinned (.plain (OpenSpec.ofChange lexBigSpec)) lexBigCard

/-- THE TIED CARD OF 'ballcocklaw05.LexPlaces'. -/
def lexPlacesCard : Claim7 := { stood := { row := lexPlacesRow, standIns := [], harness := (true, "b2a2bc304b9a66f0a06f1f9e52aa93fa13f841522876c315b4f2d51240697c25"), looks := false }, kinds := [], alts := [], laidByText := true, laidKinds := [.data, .pinned], laidTests := true, laidLooks := .later }
def LexPlacesCardSaid : Prop := Claim7.holds Tryd.pinned (.plain (OpenSpec.ofChange lexPlacesSpec)) lexPlacesCard

/-- THE TIED CARD OF 'ballcocklaw05.LexJoined'. -/
def lexJoinedCard : Claim7 := { stood := { row := lexJoinedRow, standIns := [], harness := (true, "b2a2bc304b9a66f0a06f1f9e52aa93fa13f841522876c315b4f2d51240697c25"), looks := false }, kinds := [], alts := [], laidByText := true, laidKinds := [.data, .pinned], laidTests := true, laidLooks := .later }
def LexJoinedCardSaid : Prop := Claim7.holds Tryd.pinned (.plain (OpenSpec.ofChange lexJoinedSpec)) lexJoinedCard

/-- THE TIED CARD OF 'ballcocklaw05.LexNumbers'. -/
def lexNumbersCard : Claim7 := { stood := { row := lexNumbersRow, standIns := [], harness := (true, "b2a2bc304b9a66f0a06f1f9e52aa93fa13f841522876c315b4f2d51240697c25"), looks := false }, kinds := [], alts := [], laidByText := true, laidKinds := [.data, .pinned], laidTests := true, laidLooks := .later }
def LexNumbersCardSaid : Prop := Claim7.holds Tryd.pinned (.plain (OpenSpec.ofChange lexNumbersSpec)) lexNumbersCard

/-- THE TIED CARD OF 'ballcocklaw06.TreeOrder'. -/
def treeOrderCard : Claim7 := { stood := { row := treeOrderRow, standIns := [], harness := (true, "b2a2bc304b9a66f0a06f1f9e52aa93fa13f841522876c315b4f2d51240697c25"), looks := false }, kinds := [], alts := [], laidByText := true, laidKinds := [.data, .pinned], laidTests := true, laidLooks := .later }
def TreeOrderCardSaid : Prop := Claim7.holds Tryd.pinned (.plain (OpenSpec.ofChange treeOrderSpec)) treeOrderCard

/-- THE TIED CARD OF 'ballcocklaw06.TreeChains'. -/
def treeChainsCard : Claim7 := { stood := { row := treeChainsRow, standIns := [], harness := (true, "b2a2bc304b9a66f0a06f1f9e52aa93fa13f841522876c315b4f2d51240697c25"), looks := false }, kinds := [], alts := [], laidByText := true, laidKinds := [.data, .pinned], laidTests := true, laidLooks := .later }
def TreeChainsCardSaid : Prop := Claim7.holds Tryd.pinned (.plain (OpenSpec.ofChange treeChainsSpec)) treeChainsCard

/-- THE TIED CARD OF 'ballcocklaw06.TreeTurns'. -/
def treeTurnsCard : Claim7 := { stood := { row := treeTurnsRow, standIns := [], harness := (true, "b2a2bc304b9a66f0a06f1f9e52aa93fa13f841522876c315b4f2d51240697c25"), looks := false }, kinds := [], alts := [], laidByText := true, laidKinds := [.data, .pinned], laidTests := true, laidLooks := .later }
def TreeTurnsCardSaid : Prop := Claim7.holds Tryd.pinned (.plain (OpenSpec.ofChange treeTurnsSpec)) treeTurnsCard

/-- THE SECOND FORM's CARD OF 'ballcocklaw05.LexTokens'. -/
def lexTokensUptoCard : Claim7 := { stood := { row := lexTokensUptoRow, standIns := [], harness := (true, "b2a2bc304b9a66f0a06f1f9e52aa93fa13f841522876c315b4f2d51240697c25"), looks := false }, kinds := [], alts := [], laidByText := true, laidKinds := [.data, .pinned], laidTests := true, laidLooks := .later }
def LexTokensUptoCardSaid : Prop := Claim7.holds Tryd.pinned (.plain (OpenSpec.upto lexTokensSpec)) lexTokensUptoCard

/-- THE SECOND FORM's CARD OF 'ballcocklaw05.LexNames'. -/
def lexNamesUptoCard : Claim7 := { stood := { row := lexNamesUptoRow, standIns := [], harness := (true, "b2a2bc304b9a66f0a06f1f9e52aa93fa13f841522876c315b4f2d51240697c25"), looks := false }, kinds := [], alts := [], laidByText := true, laidKinds := [.data, .pinned], laidTests := true, laidLooks := .later }
def LexNamesUptoCardSaid : Prop := Claim7.holds Tryd.pinned (.plain (OpenSpec.upto lexNamesSpec)) lexNamesUptoCard

/-- THE SECOND FORM's CARD OF 'ballcocklaw05.LexAgain'. -/
def lexAgainUptoCard : Claim7 := { stood := { row := lexAgainUptoRow, standIns := [], harness := (true, "b2a2bc304b9a66f0a06f1f9e52aa93fa13f841522876c315b4f2d51240697c25"), looks := false }, kinds := [], alts := [], laidByText := true, laidKinds := [.data, .pinned], laidTests := true, laidLooks := .later }
def LexAgainUptoCardSaid : Prop := Claim7.holds Tryd.pinned (.plain (OpenSpec.upto lexAgainSpec)) lexAgainUptoCard

/-- THE SECOND FORM's CARD OF 'ballcocklaw05.LexBig'. -/
def lexBigUptoCard : Claim7 := { stood := { row := lexBigUptoRow, standIns := [], harness := (true, "b2a2bc304b9a66f0a06f1f9e52aa93fa13f841522876c315b4f2d51240697c25"), looks := false }, kinds := [], alts := [], laidByText := true, laidKinds := [.data, .pinned], laidTests := true, laidLooks := .later }
def LexBigUptoCardSaid : Prop := Claim7.holds Tryd.pinned (.plain (OpenSpec.upto lexBigSpec)) lexBigUptoCard

/-- THE SECOND FORM's CARD OF 'ballcocklaw05.LexPlaces'. -/
def lexPlacesUptoCard : Claim7 := { stood := { row := lexPlacesUptoRow, standIns := [], harness := (true, "b2a2bc304b9a66f0a06f1f9e52aa93fa13f841522876c315b4f2d51240697c25"), looks := false }, kinds := [], alts := [], laidByText := true, laidKinds := [.data, .pinned], laidTests := true, laidLooks := .later }
def LexPlacesUptoCardSaid : Prop := Claim7.holds Tryd.pinned (.plain (OpenSpec.upto lexPlacesSpec)) lexPlacesUptoCard

/-- THE SECOND FORM's CARD OF 'ballcocklaw05.LexJoined'. -/
def lexJoinedUptoCard : Claim7 := { stood := { row := lexJoinedUptoRow, standIns := [], harness := (true, "b2a2bc304b9a66f0a06f1f9e52aa93fa13f841522876c315b4f2d51240697c25"), looks := false }, kinds := [], alts := [], laidByText := true, laidKinds := [.data, .pinned], laidTests := true, laidLooks := .later }
def LexJoinedUptoCardSaid : Prop := Claim7.holds Tryd.pinned (.plain (OpenSpec.upto lexJoinedSpec)) lexJoinedUptoCard

/-- THE SECOND FORM's CARD OF 'ballcocklaw05.LexNumbers'. -/
def lexNumbersUptoCard : Claim7 := { stood := { row := lexNumbersUptoRow, standIns := [], harness := (true, "b2a2bc304b9a66f0a06f1f9e52aa93fa13f841522876c315b4f2d51240697c25"), looks := false }, kinds := [], alts := [], laidByText := true, laidKinds := [.data, .pinned], laidTests := true, laidLooks := .later }
def LexNumbersUptoCardSaid : Prop := Claim7.holds Tryd.pinned (.plain (OpenSpec.upto lexNumbersSpec)) lexNumbersUptoCard

/-- THE SECOND FORM's CARD OF 'ballcocklaw06.TreeOrder'. -/
def treeOrderUptoCard : Claim7 := { stood := { row := treeOrderUptoRow, standIns := [], harness := (true, "b2a2bc304b9a66f0a06f1f9e52aa93fa13f841522876c315b4f2d51240697c25"), looks := false }, kinds := [], alts := [], laidByText := true, laidKinds := [.data, .pinned], laidTests := true, laidLooks := .later }
def TreeOrderUptoCardSaid : Prop := Claim7.holds Tryd.pinned (.plain (OpenSpec.upto treeOrderSpec)) treeOrderUptoCard

/-- THE SECOND FORM's CARD OF 'ballcocklaw06.TreeChains'. -/
def treeChainsUptoCard : Claim7 := { stood := { row := treeChainsUptoRow, standIns := [], harness := (true, "b2a2bc304b9a66f0a06f1f9e52aa93fa13f841522876c315b4f2d51240697c25"), looks := false }, kinds := [], alts := [], laidByText := true, laidKinds := [.data, .pinned], laidTests := true, laidLooks := .later }
def TreeChainsUptoCardSaid : Prop := Claim7.holds Tryd.pinned (.plain (OpenSpec.upto treeChainsSpec)) treeChainsUptoCard

/-- THE SECOND FORM's CARD OF 'ballcocklaw06.TreeTurns'. -/
def treeTurnsUptoCard : Claim7 := { stood := { row := treeTurnsUptoRow, standIns := [], harness := (true, "b2a2bc304b9a66f0a06f1f9e52aa93fa13f841522876c315b4f2d51240697c25"), looks := false }, kinds := [], alts := [], laidByText := true, laidKinds := [.data, .pinned], laidTests := true, laidLooks := .later }
def TreeTurnsUptoCardSaid : Prop := Claim7.holds Tryd.pinned (.plain (OpenSpec.upto treeTurnsSpec)) treeTurnsUptoCard
end Rows
end Go.Proofs.YtifjmokilbijlaaDoor
