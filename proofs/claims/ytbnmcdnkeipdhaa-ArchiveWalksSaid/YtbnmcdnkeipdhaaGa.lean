/- Archives: bytes and entries made. -/
import Derived.Test.YtbnmcdnkeipdhaaFa
import Derived.Test.YtbnmcdnkeipdhaaLb4
set_option linter.all false
set_option maxRecDepth 20000
set_option maxHeartbeats 4000000
namespace Go.Proofs.Ytbnmcdnkeipdhaa
open Go.RowKit Go.Shelf
end Go.Proofs.Ytbnmcdnkeipdhaa
