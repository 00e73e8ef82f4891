/- Archives: the reference's row, flush. -/
import Derived.Test.YtbnmcdnkeipdhaaHa
import Derived.Test.YtbnmcdnkeipdhaaFw
import Derived.Test.YtbnmcdnkeipdhaaLb4
set_option linter.all false
set_option maxRecDepth 20000
set_option maxHeartbeats 4000000
namespace Go.Proofs.Ytbnmcdnkeipdhaa
open Go.RowKit Go.Shelf
end Go.Proofs.Ytbnmcdnkeipdhaa
