/-
  DERIVED. GIVEN WITH THE SEED: THE CARDS: each row of YtpcdcanmbokpfaaDoorRows.lean that lists a variable, with what it lists TIED to the program's text (the seventh form; the later family's looks); each row that meets fmt, with fmt's text TOLD by the authors' own Lean function (tested against real Go, not proved from fmt's source: count such statements apart). THE CARD IS WHAT COUNTS. Prove the row's statement (the work); the ties are given (YtpcdcanmbokpfaaDoorTie.lean); close each card by the builder's one call (the guide's Derived/Test/ToyasCard.lean, 'card_holds'). Laid BY PROGRAM, IN A SANDBOX (cutbox-door.mjs). By AI agents, Wed Nov 11 2026. No macro, syntax, notation, axiom, sorry.
-/
import Derived.Test.YtpcdcanmbokpfaaDoorRows
import GoSem.ClaimSeven
namespace Go.Proofs.YtpcdcanmbokpfaaDoor
namespace Rows

/-- THE TIED CARD OF 'ballcocklaw01.RatText'. -/
def ratTextCard : Claim7 := { stood := { row := ratTextRow, standIns := [], harness := (true, "168af39121c3f7277165b2f7e7f0f79de1b9a0f6283401acaa57fbdc23420d9f"), looks := false }, kinds := [], alts := [], laidByText := true, laidKinds := [.data, .data, .data], laidTests := true, laidLooks := .later }
def RatTextCardSaid : Prop := Claim7.holds Tryd.pinned (.plain (OpenSpec.ofChange ratTextSpec)) ratTextCard

/-- THE TIED CARD OF 'ballcocklaw01.RatNew'. -/
def ratNewCard : Claim7 := { stood := { row := ratNewRow, standIns := [], harness := (true, "168af39121c3f7277165b2f7e7f0f79de1b9a0f6283401acaa57fbdc23420d9f"), looks := false }, kinds := [], alts := [], laidByText := true, laidKinds := [.data, .data, .data], laidTests := true, laidLooks := .later }
def RatNewCardSaid : Prop := Claim7.holds Tryd.pinned (.plain (OpenSpec.ofChange ratNewSpec)) ratNewCard

/-- THE SECOND FORM's CARD OF 'ballcocklaw01.RatText'. -/
def ratTextUptoCard : Claim7 := { stood := { row := ratTextUptoRow, standIns := [], harness := (true, "168af39121c3f7277165b2f7e7f0f79de1b9a0f6283401acaa57fbdc23420d9f"), looks := false }, kinds := [], alts := [], laidByText := true, laidKinds := [.data, .data, .data], laidTests := true, laidLooks := .later }
def RatTextUptoCardSaid : Prop := Claim7.holds Tryd.pinned (.plain (OpenSpec.upto ratTextSpec)) ratTextUptoCard

/-- THE SECOND FORM's CARD OF 'ballcocklaw01.RatNew'. -/
def ratNewUptoCard : Claim7 := { stood := { row := ratNewUptoRow, standIns := [], harness := (true, "168af39121c3f7277165b2f7e7f0f79de1b9a0f6283401acaa57fbdc23420d9f"), looks := false }, kinds := [], alts := [], laidByText := true, laidKinds := [.data, .data, .data], laidTests := true, laidLooks := .later }
def RatNewUptoCardSaid : Prop := Claim7.holds Tryd.pinned (.plain (OpenSpec.upto ratNewSpec)) ratNewUptoCard
end Rows
end Go.Proofs.YtpcdcanmbokpfaaDoor
