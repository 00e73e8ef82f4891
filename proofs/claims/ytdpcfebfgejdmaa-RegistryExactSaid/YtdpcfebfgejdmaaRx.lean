/- RegistryExact, shown. -/
import Derived.Test.YtdpcfebfgejdmaaRkExact
set_option linter.all false
set_option maxRecDepth 20000
set_option maxHeartbeats 4000000
namespace Go.Proofs.Ytdpcfebfgejdmaa
open Go.RowKit Go.Shelf
theorem gt3_le {a b c : Reg} {n : Nat} (ha : a.isss.length ≤ n) (hb : b.isss.length ≤ n) (hc : c.isss.length ≤ n) {z : Int} (h0 : 0 ≤ z) (h1 : z < 3) {r : Reg} (hr : r = gt [a, b, c] z) : r.isss.length ≤ n := by
  have : z = 0 ∨ z = 1 ∨ z = 2 := by omega
  rcases this with rfl | rfl | rfl <;> (subst hr; assumption)
theorem exact_il (l : List Int) (raw : Reg) (c : Crd) (a b t : Int) : ILt 13 [lv l, raw.v, c.v, iv a, iv b, iv t] := (lawExact_V l raw c a b t).2 (by
  (delta lawExact_V; dsimp only [mkV])
  (repeat' (first | with_reducible refine brn_nd (fun h => ?_) (fun h => ?_) | with_reducible refine brn_d (fun h => ?_) (fun h => ?_) | with_reducible refine brn_nn (fun h => ?_) (fun h => ?_) | with_reducible refine brn_nb (fun h => ?_) (fun h => ?_) | with_reducible refine Brn.mk (fun h => ?_) (fun h => ?_) | with_reducible refine Chk.mk ?_ ?_ | with_reducible refine Bth.mk ?_ ?_ | with_reducible refine Fct.mk (fun hf => ?_)))
  all_goals first | (show SV.one _ = SV.one _; rfl) | skip
  all_goals
    intro m hm
    have hc7 : m.crds.length ≤ 7 := hm.c
    have hi1 := hm.i
    (repeat' (first | with_reducible refine brn_nd (fun h => ?_) (fun h => ?_) | with_reducible refine brn_d (fun h => ?_) (fun h => ?_) | with_reducible refine brn_nn (fun h => ?_) (fun h => ?_) | with_reducible refine brn_nb (fun h => ?_) (fun h => ?_) | with_reducible refine Brn.mk (fun h => ?_) (fun h => ?_) | with_reducible refine Chk.mk ?_ ?_ | with_reducible refine Bth.mk ?_ ?_ | with_reducible refine Fct.mk (fun hf => ?_)))
    all_goals first | omega | skip
    all_goals
      refine ⟨fun y => y.length ≤ 7, ?_, fun bent hb => ?_⟩
      · (repeat' (first | with_reducible refine brn_nd (fun h => ?_) (fun h => ?_) | with_reducible refine brn_d (fun h => ?_) (fun h => ?_) | with_reducible refine brn_nn (fun h => ?_) (fun h => ?_) | with_reducible refine brn_nb (fun h => ?_) (fun h => ?_) | with_reducible refine Brn.mk (fun h => ?_) (fun h => ?_) | with_reducible refine Chk.mk ?_ ?_ | with_reducible refine Bth.mk ?_ ?_ | with_reducible refine Fct.mk (fun hf => ?_) | (intro _) | (refine up0 (by omega) (by omega) (fun I μ z hz0 hz1 nx => ?_) (fun I μ => ?_)) | with_reducible assumption | (refine And.intro ?_ ?_)))
        all_goals first | omega | (rw [List.length_set]; exact hc7) | exact hc7 | trace_state
      have hb7 : bent.length ≤ 7 := hb
      (repeat' (first | with_reducible refine brn_nd (fun h => ?_) (fun h => ?_) | with_reducible refine brn_d (fun h => ?_) (fun h => ?_) | with_reducible refine brn_nn (fun h => ?_) (fun h => ?_) | with_reducible refine brn_nb (fun h => ?_) (fun h => ?_) | with_reducible refine Brn.mk (fun h => ?_) (fun h => ?_) | with_reducible refine Chk.mk ?_ ?_ | with_reducible refine Bth.mk ?_ ?_ | with_reducible refine Fct.mk (fun hf => ?_) | (intro _) | (refine up0 (by omega) (by omega) (fun I μ z hz0 hz1 nx => ?_) (fun I μ => ?_)) | with_reducible assumption | (refine And.intro ?_ ?_)))
      all_goals first
        | exact True.intro
        | (show SV.one _ = SV.one _; rfl)
        | omega
        | (unfold InI; omega)
        | (exfalso; contradiction)
        | (exfalso; exact h rfl)
        | (exfalso; simp at h; done)
        | (refine gt3_le (z := z) ?_ ?_ ?_ (by assumption) (by assumption) (by assumption); all_goals (dsimp only; omega))
        | (trace_state; sorry))
end Go.Proofs.Ytdpcfebfgejdmaa
