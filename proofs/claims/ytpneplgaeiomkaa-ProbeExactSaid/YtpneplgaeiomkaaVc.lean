/- The law ProbeExact, shown. -/
import Derived.Test.YtpneplgaeiomkaaVb
set_option linter.all false
set_option maxRecDepth 20000
set_option maxHeartbeats 4000000
namespace Go.Proofs.Ytpneplgaeiomkaa
open Go.RowKit Go.Shelf
theorem allL_le (c : Cl) : (allL c).length ≤ 5 := by
  by_cases h : validB c = true
  · have := valid_len h; rw [all_len h]; omega
  · unfold allL; simp [h]
theorem Exact_il (l : List Int) (raw : Cl) (list : List EvR) (i bit : Int) : ILt 3 [lv l, raw.v, evsV list, iv i, iv bit] := (ProbeExact_V l raw list i bit).2 (by
  (delta ProbeExact_V; dsimp only [mkV])
  (repeat' (first | with_reducible refine brn_nd (fun h => ?_) (fun h => ?_) | with_reducible refine brn_d (fun h => ?_) (fun h => ?_) | with_reducible refine brn_nn (fun h => ?_) (fun h => ?_) | with_reducible refine brn_nb (fun h => ?_) (fun h => ?_) | with_reducible refine Brn.mk (fun h => ?_) (fun h => ?_) | with_reducible refine Chk.mk ?_ ?_ | with_reducible refine Fct.mk (fun hf => ?_) | (intro _) | (refine up0 (by omega) (by omega) (fun I μ z hz0 hz1 nx => ?_) (fun I μ => ?_)) | with_reducible assumption | (refine And.intro ?_ ?_)))
  all_goals (first | exact rfl | omega | (simp only [List.length_cons, List.length_nil]; omega) | (exfalso; simp_all; done) | exact MadeC.v (by assumption) | (have hal := allL_le (by assumption); omega) | trace_state))
end Go.Proofs.Ytpneplgaeiomkaa
