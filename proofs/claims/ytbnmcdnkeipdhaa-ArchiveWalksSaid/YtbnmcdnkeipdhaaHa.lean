/- Archives: the reference's name, Valid, row. -/
import Derived.Test.YtbnmcdnkeipdhaaFs
set_option linter.all false
set_option maxRecDepth 20000
set_option maxHeartbeats 4000000
namespace Go.Proofs.Ytbnmcdnkeipdhaa
open Go.RowKit Go.Shelf
end Go.Proofs.Ytbnmcdnkeipdhaa
