/- Regress: changes back, and where a change stands. -/
import Derived.Test.YtcbppkfnfbdkhaaJr
set_option linter.all false
set_option maxRecDepth 20000
set_option maxHeartbeats 4000000
namespace Go.Proofs.Ytcbppkfnfbdkhaa
open Go.RowKit Go.Shelf
end Go.Proofs.Ytcbppkfnfbdkhaa
