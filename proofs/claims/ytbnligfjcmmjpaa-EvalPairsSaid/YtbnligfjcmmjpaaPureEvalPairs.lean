/-
For any two 64-bit numbers eval.Bin tells the same as the document's answer for each sign, wraps, and compares rightly: the law EvalPairs answers true. No condition.
-/
import Derived.Test.YtbnligfjcmmjpaaMEvalPairsEvalPairsT
import Derived.Test.YtbnligfjcmmjpaaPEvalPairsx3
namespace Go.Proofs.Ytbnligfjcmmjpaa.Pure
open Go.RowKit Go.Proofs.Ytbnligfjcmmjpaa.PEvalPairs Go.Proofs.YtbnligfjcmmjpaaW.PrintWords Go.Proofs.YtbnligfjcmmjpaaW.PrintLast

/-- The pure statement of this law. -/
theorem EvalPairs : ballcocklaw23_EvalPairs.Pure := by
  exact pure_holds

end Go.Proofs.Ytbnligfjcmmjpaa.Pure
