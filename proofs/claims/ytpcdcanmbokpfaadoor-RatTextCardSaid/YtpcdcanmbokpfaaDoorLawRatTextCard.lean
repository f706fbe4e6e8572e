/-
The tied card of the law RatText: the text of any right fraction tells its numbers; what the row lists is tied to the program's text.
-/
import Derived.Test.YtpcdcanmbokpfaaDoorLawRatText
import Derived.Test.YtpcdcanmbokpfaaDoorCards
import Derived.Test.YtpcdcanmbokpfaaDoorTie
import Derived.SevenTiedAt
namespace Go.Proofs.YtpcdcanmbokpfaaDoor
open Go
theorem ratTextCard_holds : Rows.RatTextCardSaid :=
  Claim7.holds_tied_plain_at .later [] [.data, .data, .data] true (true, "168af39121c3f7277165b2f7e7f0f79de1b9a0f6283401acaa57fbdc23420d9f") false
    ratText_holds (fun _ h => by cases h) (by kernel_rfl) (fun _ h => by cases h) ratText_row_tie rfl ⟨rfl, rfl⟩ (by kernel_rfl) rfl
    (fun f fn hf hfn => by
      obtain rfl : f = 3 := Option.some.inj ((show Tryd.prog.funcNamed "ballcock/ballcocklaw01.RatText" = some 3 by kernel_rfl).symm.trans hf) |>.symm
      obtain rfl : fn = Tryd.f3 := (Option.some.inj (Tryd.func3.symm.trans hfn)).symm
      exact ⟨by kernel_rfl, fun j t ht => by
        rw [Tryd.params3] at ht
        have hm : t ∈ [23] := by simpa using Array.mem_of_getElem? ht
        have hall : ([23].all fun u => !Tryd.prog.wantsStandIn u) = true := by kernel_rfl
        exact (show Tryd.prog.wantsStandIn t = false by simpa using List.all_eq_true.1 hall t hm)⟩)
    (by kernel_rfl)
#print axioms ratTextCard_holds
end Go.Proofs.YtpcdcanmbokpfaaDoor
