/- Regress: what is open. -/
import Derived.Test.YtcbppkfnfbdkhaaJi
set_option linter.all false
set_option maxRecDepth 20000
set_option maxHeartbeats 4000000
namespace Go.Proofs.Ytcbppkfnfbdkhaa
open Go.RowKit Go.Shelf
end Go.Proofs.Ytcbppkfnfbdkhaa
