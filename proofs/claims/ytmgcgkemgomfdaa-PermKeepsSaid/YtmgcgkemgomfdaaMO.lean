import Derived.Test.YtmgcgkemgomfdaaMD
import Derived.Test.YtmgcgkemgomfdaaEOp
set_option linter.all false
set_option maxRecDepth 100000
namespace Go.E
open Go Go.Proofs Go.Eng
end Go.E
