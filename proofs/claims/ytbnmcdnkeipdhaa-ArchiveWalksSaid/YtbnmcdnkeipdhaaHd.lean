/- Archives: the reference's Format shown; bent, few. -/
import Derived.Test.YtbnmcdnkeipdhaaHc
set_option linter.all false
set_option maxRecDepth 20000
set_option maxHeartbeats 4000000
namespace Go.Proofs.Ytbnmcdnkeipdhaa
open Go.RowKit Go.Shelf
end Go.Proofs.Ytbnmcdnkeipdhaa
