/- What operations make: the reference. -/
import Derived.Test.YtbnmcdnkeipdhaaDd
set_option linter.all false
set_option maxRecDepth 20000
set_option maxHeartbeats 4000000
namespace Go.Proofs.Ytbnmcdnkeipdhaa
open Go.RowKit Go.Shelf
end Go.Proofs.Ytbnmcdnkeipdhaa
