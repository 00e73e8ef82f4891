/- DirectoryLeaves: what is to be shown. -/
import Derived.Test.YtoflahjlnbligaaEj
set_option linter.all false
set_option maxRecDepth 20000
set_option maxHeartbeats 16000000
namespace Go.Proofs.Ytoflahjlnbligaa
open Go.RowKit Go.Shelf
end Go.Proofs.Ytoflahjlnbligaa
