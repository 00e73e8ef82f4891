/- Room for bytes. -/
import Derived.Test.YtbnmcdnkeipdhaaTq
import Derived.Test.YtbnmcdnkeipdhaaLb3
import Derived.Lib.AppendZerosOnto
import Derived.Lib.Walk
import Derived.Lib.SliceRun
set_option linter.all false
set_option maxRecDepth 100000
set_option maxHeartbeats 4000000
namespace Go.Proofs.Ytbnmcdnkeipdhaa
open Go.RowKit Go.Shelf Go.Lib
end Go.Proofs.Ytbnmcdnkeipdhaa
