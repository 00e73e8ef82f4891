/- Directories: Proves, Ascending, Closed. -/
import Derived.Test.YtoflahjlnbligaaEh
set_option linter.all false
set_option maxRecDepth 20000
set_option maxHeartbeats 4000000
namespace Go.Proofs.Ytoflahjlnbligaa
open Go.RowKit Go.Shelf
theorem atT_cell {d : Dir} {t p g : Int} (h0 : 0 ≤ p) (h : p < (d.kinds.length : Int)) (g0 : 0 ≤ g) (g1 : g < (d.kinds.length : Int)) : gt (gt (atT d t) p) g = d.edge t p g := tblL_cell h0 h g0 g1
end Go.Proofs.Ytoflahjlnbligaa
