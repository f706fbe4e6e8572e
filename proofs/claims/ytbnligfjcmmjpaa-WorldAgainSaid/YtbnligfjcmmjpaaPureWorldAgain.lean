/-
A world with numbers of its span answers just these, and 0 behind them.
-/
import Derived.Test.YtbnligfjcmmjpaaMWfWorldAgainWorldAgainT
import Derived.Test.YtbnligfjcmmjpaaPWfWorldAgainx3
namespace Go.Proofs.Ytbnligfjcmmjpaa.Pure
open Go.RowKit Go.Proofs.Ytbnligfjcmmjpaa.PWfWorldAgain Go.Proofs.YtbnligfjcmmjpaaW.PrintWords Go.Proofs.YtbnligfjcmmjpaaW.PrintLast

/-- The pure statement of this law. -/
theorem WorldAgain : ballcocklaw21_WorldAgain.Pure := by
  exact World21.again

end Go.Proofs.Ytbnligfjcmmjpaa.Pure
