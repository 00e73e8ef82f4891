/- Lists of ints: equal, and the searches. -/
import Derived.Test.YtcbppkfnfbdkhaaLb3
set_option linter.all false
set_option maxRecDepth 20000
namespace Go.Proofs.Ytcbppkfnfbdkhaa
open Go.RowKit Go.Shelf
end Go.Proofs.Ytcbppkfnfbdkhaa
