/- Archives: entries made, owned; archives in archives. -/
import Derived.Test.YtbnmcdnkeipdhaaGa
import Derived.Test.YtbnmcdnkeipdhaaLb4
import Derived.Test.YtbnmcdnkeipdhaaFj
import Derived.Test.YtbnmcdnkeipdhaaHd
set_option linter.all false
set_option maxRecDepth 20000
set_option maxHeartbeats 4000000
namespace Go.Proofs.Ytbnmcdnkeipdhaa
open Go.RowKit Go.Shelf
end Go.Proofs.Ytbnmcdnkeipdhaa
