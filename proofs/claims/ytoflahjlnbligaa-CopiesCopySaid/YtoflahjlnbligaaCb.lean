/- Searches by a function. -/
import Derived.Test.YtoflahjlnbligaaCa
set_option linter.all false
set_option maxRecDepth 20000
set_option maxHeartbeats 2000000
namespace Go.Proofs.Ytoflahjlnbligaa
open Go.RowKit Go.Shelf
end Go.Proofs.Ytoflahjlnbligaa
