/- Archives: the reference's Is, Size, Parse. -/
import Derived.Test.YtbnmcdnkeipdhaaIc
import Derived.Test.YtbnmcdnkeipdhaaFt
set_option linter.all false
set_option maxRecDepth 20000
set_option maxHeartbeats 4000000
namespace Go.Proofs.Ytbnmcdnkeipdhaa
open Go.RowKit Go.Shelf
noncomputable def parL (b : List Int) : List Ent := if 131072 < b.length then [] else if (parS b).2 then (parS b).1 else []
noncomputable def parE (b : List Int) : Int := if 131072 < b.length then 3 else if (parS b).2 then 0 else 10
end Go.Proofs.Ytbnmcdnkeipdhaa
