/- Archives: the reference reads, walked. -/
import Derived.Test.YtbnmcdnkeipdhaaIa
import Derived.Test.YtbnmcdnkeipdhaaHa
set_option linter.all false
set_option maxRecDepth 20000
set_option maxHeartbeats 8000000
namespace Go.Proofs.Ytbnmcdnkeipdhaa
open Go.RowKit Go.Shelf
end Go.Proofs.Ytbnmcdnkeipdhaa
