/-
Just what is asked of one or more is used.
-/
import Derived.Test.YtbnligfjcmmjpaaMWfWorldCountsWorldCountsT
import Derived.Test.YtbnligfjcmmjpaaPWfWorldCountsx3
namespace Go.Proofs.Ytbnligfjcmmjpaa.Pure
open Go.RowKit Go.Proofs.Ytbnligfjcmmjpaa.PWfWorldCounts Go.Proofs.YtbnligfjcmmjpaaW.PrintWords Go.Proofs.YtbnligfjcmmjpaaW.PrintLast

/-- The pure statement of this law. -/
theorem WorldCounts : ballcocklaw21_WorldCounts.Pure := by
  exact World21.counts

end Go.Proofs.Ytbnligfjcmmjpaa.Pure
