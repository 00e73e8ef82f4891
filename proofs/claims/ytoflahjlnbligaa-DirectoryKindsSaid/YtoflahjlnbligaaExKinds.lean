/- DirectoryKinds, shown. -/
import Derived.Test.YtoflahjlnbligaaEkKinds
import Derived.Test.YtoflahjlnbligaaEm
set_option linter.all false
set_option maxRecDepth 20000
set_option maxHeartbeats 4000000
namespace Go.Proofs.Ytoflahjlnbligaa
open Go.RowKit Go.Shelf
theorem Kinds_il (l : List Int) : ILt 10 [lv l] := (lawKinds_V l).2 (by
  (delta lawKinds_V; dsimp only [mkV])
  (repeat' (first | with_reducible refine brn_nd (fun h => ?_) (fun h => ?_) | with_reducible refine brn_d (fun h => ?_) (fun h => ?_) | with_reducible refine brn_nn (fun h => ?_) (fun h => ?_) | with_reducible refine brn_nb (fun h => ?_) (fun h => ?_) | with_reducible refine Brn.mk (fun h => ?_) (fun h => ?_) | with_reducible refine Chk.mk ?_ ?_ | with_reducible refine Bth.mk ?_ ?_ | with_reducible refine Fct.mk (fun hf => ?_)))
  · rfl
  intro d hd
  have hdn := hd.n
  have hv := hd.v
  (repeat' (first | with_reducible refine brn_nd (fun h => ?_) (fun h => ?_) | with_reducible refine brn_d (fun h => ?_) (fun h => ?_) | with_reducible refine brn_nn (fun h => ?_) (fun h => ?_) | with_reducible refine brn_nb (fun h => ?_) (fun h => ?_) | with_reducible refine Brn.mk (fun h => ?_) (fun h => ?_) | with_reducible refine Chk.mk ?_ ?_ | with_reducible refine Bth.mk ?_ ?_ | with_reducible refine Fct.mk (fun hf => ?_)))
  · omega
  intro t ht
  (repeat' (first | with_reducible refine brn_nd (fun h => ?_) (fun h => ?_) | with_reducible refine brn_d (fun h => ?_) (fun h => ?_) | with_reducible refine brn_nn (fun h => ?_) (fun h => ?_) | with_reducible refine brn_nb (fun h => ?_) (fun h => ?_) | with_reducible refine Brn.mk (fun h => ?_) (fun h => ?_) | with_reducible refine Chk.mk ?_ ?_ | with_reducible refine Bth.mk ?_ ?_ | with_reducible refine Fct.mk (fun hf => ?_)))
  refine up0 (by omega) (by omega) (fun I μ p h0 h1 nx => ?_) (fun I μ => rfl)
  have hp : d.ex p = true := ex_iff.2 ⟨h0, h1⟩
  have mem : ∀ z : Int, 0 ≤ z → z < ((memS d p t).length : Int) → d.grp p = true ∧ d.rdr (gt (memS d p t) z) = true ∧ hasB (grpsS d (gt (memS d p t) z) t) p = true := fun z z0 z1 => by
    have h5 := mem_memS.1 (gt_mem z0 z1)
    have hq : d.ex (gt (memS d p t) z) = true := ex_iff.2 h5.2.1
    refine ⟨h5.1.2, ?_, hasB_iff.2 (mem_grpsS.2 ⟨⟨hv, hq⟩, ⟨h0, h1⟩, h5.2.2.2, fun e => ?_⟩)⟩
    · have h6 := h5.2.2.1
      simp only [Dir.grp, hq, Bool.true_and] at h6
      simp [Dir.rdr, hq]
      exact of_decide_eq_false h6
    · rw [← e] at h5
      rw [h5.1.2] at h5
      exact absurd h5.2.2.1 (by simp)
  (repeat' (first | with_reducible refine brn_nd (fun h => ?_) (fun h => ?_) | with_reducible refine brn_d (fun h => ?_) (fun h => ?_) | with_reducible refine brn_nn (fun h => ?_) (fun h => ?_) | with_reducible refine brn_nb (fun h => ?_) (fun h => ?_) | with_reducible refine Brn.mk (fun h => ?_) (fun h => ?_) | with_reducible refine Chk.mk ?_ ?_ | with_reducible refine Bth.mk ?_ ?_ | with_reducible refine Fct.mk (fun hf => ?_)))
  refine up0 (by omega) (by omega) (fun I1 μ1 z z0 z1 nx1 => ?_) (fun I1 μ1 => ?_)
  · have h5 := mem_grpsS.1 (gt_mem z0 z1)
    have h6 := rch_grp hv hp h5.2.2.1 h5.2.2.2
    (repeat' (first | with_reducible refine brn_nd (fun h => ?_) (fun h => ?_) | with_reducible refine brn_d (fun h => ?_) (fun h => ?_) | with_reducible refine brn_nn (fun h => ?_) (fun h => ?_) | with_reducible refine brn_nb (fun h => ?_) (fun h => ?_) | with_reducible refine Brn.mk (fun h => ?_) (fun h => ?_) | with_reducible refine Chk.mk ?_ ?_ | with_reducible refine Bth.mk ?_ ?_ | with_reducible refine Fct.mk (fun hf => ?_)))
    · omega
    · exfalso; simp_all
    · exfalso; exact h5.2.2.2 (by assumption)
    · omega
    · exact nx1
  · (repeat' (first | with_reducible refine brn_nd (fun h => ?_) (fun h => ?_) | with_reducible refine brn_d (fun h => ?_) (fun h => ?_) | with_reducible refine brn_nn (fun h => ?_) (fun h => ?_) | with_reducible refine brn_nb (fun h => ?_) (fun h => ?_) | with_reducible refine Brn.mk (fun h => ?_) (fun h => ?_) | with_reducible refine Chk.mk ?_ ?_ | with_reducible refine Bth.mk ?_ ?_ | with_reducible refine Fct.mk (fun hf => ?_)))
    · exfalso
      have := (mem 0 (by omega) (by omega)).1
      simp_all
    all_goals (refine up0 (by omega) (by omega) (fun I2 μ2 z z0 z1 nx2 => ?_) (fun I2 μ2 => ?_))
    all_goals (try have h7 := mem z z0 z1)
    all_goals (repeat' (first | with_reducible refine brn_nd (fun h => ?_) (fun h => ?_) | with_reducible refine brn_d (fun h => ?_) (fun h => ?_) | with_reducible refine brn_nn (fun h => ?_) (fun h => ?_) | with_reducible refine brn_nb (fun h => ?_) (fun h => ?_) | with_reducible refine Brn.mk (fun h => ?_) (fun h => ?_) | with_reducible refine Chk.mk ?_ ?_ | with_reducible refine Bth.mk ?_ ?_ | with_reducible refine Fct.mk (fun hf => ?_)))
    all_goals (first | omega | exact nx2 | exact nx | (exfalso; simp_all; done)))
end Go.Proofs.Ytoflahjlnbligaa
