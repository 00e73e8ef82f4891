/- The law OwnersExact, shown. -/
import Derived.Test.YtcjcndgfjaaklaaOs
set_option linter.all false
set_option maxRecDepth 20000
set_option maxHeartbeats 4000000
namespace Go.Proofs.Ytcjcndgfjaaklaa
open Go.RowKit Go.Shelf
theorem Exact_il (l : List Int) (raw : Dir) (s : List Stw) (p t : Int) : ILt 12 [lv l, raw.v, stws s, iv p, iv t] := (OwnersExact_V l raw s p t).2 (by
  (delta OwnersExact_V; dsimp only [mkV])
  (repeat' (first | with_reducible refine brn_nd (fun h => ?_) (fun h => ?_) | with_reducible refine brn_d (fun h => ?_) (fun h => ?_) | with_reducible refine brn_nn (fun h => ?_) (fun h => ?_) | with_reducible refine brn_nb (fun h => ?_) (fun h => ?_) | with_reducible refine Brn.mk (fun h => ?_) (fun h => ?_) | with_reducible refine Chk.mk ?_ ?_ | with_reducible refine Bth.mk ?_ ?_ | with_reducible refine Fct.mk (fun hf => ?_) | (intro _) | (refine up0 (by omega) (by omega) (fun I μ z hz0 hz1 nx => ?_) (fun I μ => ?_)) | with_reducible assumption | (refine And.intro ?_ ?_)))
  all_goals (first | exact rfl | omega | (simp only [List.length_cons, List.length_nil]; omega) | (exfalso; simp_all; done) | (have hal := StsOk.n (by assumption); omega) | trace_state))
end Go.Proofs.Ytcjcndgfjaaklaa
