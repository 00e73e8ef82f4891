/- DirectoryLeaves, shown. -/
import Derived.Test.YtoflahjlnbligaaEkLeaves
import Derived.Test.YtoflahjlnbligaaEm
set_option linter.all false
set_option maxRecDepth 20000
set_option maxHeartbeats 4000000
namespace Go.Proofs.Ytoflahjlnbligaa
open Go.RowKit Go.Shelf
end Go.Proofs.Ytoflahjlnbligaa
