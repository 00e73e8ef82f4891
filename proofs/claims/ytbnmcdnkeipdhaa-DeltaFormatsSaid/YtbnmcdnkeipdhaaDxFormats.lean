/- DeltaFormats, shown. -/
import Derived.Test.YtbnmcdnkeipdhaaDkFormats
set_option linter.all false
set_option maxRecDepth 20000
set_option maxHeartbeats 4000000
namespace Go.Proofs.Ytbnmcdnkeipdhaa
open Go.RowKit Go.Shelf
theorem formats_il (tape : List Int) (ops : List Opn) : ILt 5 [lv tape, ov ops] := (lawFormats_V tape ops).2 (by
  (delta lawFormats_V; dsimp only [mkV])
  (repeat' (first | with_reducible refine brn_nd (fun h => ?_) (fun h => ?_) | with_reducible refine brn_d (fun h => ?_) (fun h => ?_) | with_reducible refine brn_nn (fun h => ?_) (fun h => ?_) | with_reducible refine brn_nb (fun h => ?_) (fun h => ?_) | with_reducible refine Brn.mk (fun h => ?_) (fun h => ?_) | with_reducible refine Chk.mk ?_ ?_ | with_reducible refine Bth.mk ?_ ?_ | with_reducible refine Fct.mk (fun hf => ?_) | (intro _) | (refine up0 (by omega) (by omega) (fun I μ z hz0 hz1 nx => ?_) (fun I μ => ?_)) | with_reducible assumption | (refine And.intro ?_ ?_)))
  all_goals first
    | exact True.intro
    | (show SV.one _ = SV.one _; rfl)
    | omega
    | (unfold InI; omega)
    | (simp; omega)
    | (exfalso; contradiction)
    | (trace_state; sorry))
end Go.Proofs.Ytbnmcdnkeipdhaa
