/- Regress: an exact rule. -/
import Derived.Test.YtcbppkfnfbdkhaaKa
set_option linter.all false
set_option maxRecDepth 20000
set_option maxHeartbeats 4000000
namespace Go.Proofs.Ytcbppkfnfbdkhaa
open Go.RowKit Go.Shelf
end Go.Proofs.Ytcbppkfnfbdkhaa
