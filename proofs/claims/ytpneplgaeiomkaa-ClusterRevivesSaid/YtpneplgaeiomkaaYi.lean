/- ClusterRuns, shown. -/
import Derived.Test.YtpneplgaeiomkaaYh
set_option linter.all false
set_option maxRecDepth 20000
set_option maxHeartbeats 4000000
namespace Go.Proofs.Ytpneplgaeiomkaa
open Go.RowKit Go.Shelf
theorem XvR.eta (x : XvR) : (⟨x.kind, x.rep, x.snap, x.bits⟩ : XvR) = x := rfl
theorem ap_reps {c : Cl} {x : XvR} (e : applyE c x = 0) (h : x.kind = 1 ∨ x.kind = 3) : (applyC c x).reps = c.reps := by
  unfold applyC
  rw [if_pos e]
  rcases h with h | h
  · rw [aM1 h]
  · rw [aM3 h]
theorem runs_il (l : List Int) : ILt 5 [lv l] := (runs_V l).2 (by
  (delta runs_V; dsimp only [mkV])
  (repeat' (first | with_reducible refine brn_nd (fun h => ?_) (fun h => ?_) | with_reducible refine brn_d (fun h => ?_) (fun h => ?_) | with_reducible refine brn_nn (fun h => ?_) (fun h => ?_) | with_reducible refine brn_nb (fun h => ?_) (fun h => ?_) | with_reducible refine Brn.mk (fun h => ?_) (fun h => ?_) | with_reducible refine Chk.mk ?_ ?_ | with_reducible refine Bth.mk ?_ ?_ | with_reducible refine Fct.mk (fun hf => ?_)))
  · rfl
  intro x hx
  have hv := hx.v
  have hl := valid_len hv
  simp only [Cl.eta, XvR.eta]
  (repeat' (first | with_reducible refine brn_nd (fun h => ?_) (fun h => ?_) | with_reducible refine brn_d (fun h => ?_) (fun h => ?_) | with_reducible refine brn_nn (fun h => ?_) (fun h => ?_) | with_reducible refine brn_nb (fun h => ?_) (fun h => ?_) | with_reducible refine Brn.mk (fun h => ?_) (fun h => ?_) | with_reducible refine Chk.mk ?_ ?_ | with_reducible refine Bth.mk ?_ ?_ | with_reducible refine Fct.mk (fun hf => ?_)))
  · exact ⟨hv, by omega, by omega⟩
  intro q hq
  have hrun : runS x q = runF x 0 q := by simp only [runS, hv, if_true]; rw [if_neg (by omega)]
  simp only [hrun]
  refine ⟨fun x1 x2 x3 x4 x5 x6 => 0 ≤ x1 ∧ x1 ≤ q.length ∧ x2 = 0 ∧ runF ⟨x3, x4, x5, x6⟩ x1.toNat (q.drop x1.toNat) = runF x 0 q, fun x1 _ _ _ _ _ => (q.length - x1).toNat, ⟨by omega, by omega, rfl, rfl⟩, fun x1 x2 x3 x4 x5 x6 ⟨h1, h2, h3, h4⟩ => ?_⟩
  by_cases hlt : x1 < q.length
  · rw [runF_gt h1 hlt] at h4
    by_cases he : applyE ⟨x3, x4, x5, x6⟩ (gt q x1) = 0
    · rw [if_pos he] at h4
      have nx : 0 ≤ x1 + 1 ∧ x1 + 1 ≤ q.length ∧ applyE ⟨x3, x4, x5, x6⟩ (gt q x1) = 0 ∧ runF (applyC ⟨x3, x4, x5, x6⟩ (gt q x1)) (x1 + 1).toNat (q.drop (x1 + 1).toNat) = runF x 0 q := by
        rw [show (x1 + 1).toNat = x1.toNat + 1 by omega]
        exact ⟨by omega, by omega, he, h4⟩
      (repeat' (first | with_reducible refine brn_nd (fun h => ?_) (fun h => ?_) | with_reducible refine brn_d (fun h => ?_) (fun h => ?_) | with_reducible refine brn_nn (fun h => ?_) (fun h => ?_) | with_reducible refine brn_nb (fun h => ?_) (fun h => ?_) | with_reducible refine Brn.mk (fun h => ?_) (fun h => ?_) | with_reducible refine Chk.mk ?_ ?_ | with_reducible refine Bth.mk ?_ ?_ | with_reducible refine Fct.mk (fun hf => ?_)))
      all_goals first | omega | (unfold InI; omega) | (exfalso; contradiction) | (exact ⟨nx, by dsimp only; omega⟩) | skip
      all_goals first
        | (exfalso; rename_i hk; exact h (ap_reps he (.inl hk)).symm)
        | (exfalso; rename_i hk _; exact h (ap_reps he (.inl hk)).symm)
        | (exfalso; rename_i hk; exact h (ap_reps he (.inr hk)).symm)
        | trace_state
    · rw [if_neg he] at h4
      rw [← h4]
      (repeat' (first | with_reducible refine brn_nd (fun h => ?_) (fun h => ?_) | with_reducible refine brn_d (fun h => ?_) (fun h => ?_) | with_reducible refine brn_nn (fun h => ?_) (fun h => ?_) | with_reducible refine brn_nb (fun h => ?_) (fun h => ?_) | with_reducible refine Brn.mk (fun h => ?_) (fun h => ?_) | with_reducible refine Chk.mk ?_ ?_ | with_reducible refine Bth.mk ?_ ?_ | with_reducible refine Fct.mk (fun hf => ?_)))
      all_goals first | omega | trivial | (exfalso; contradiction) | (exfalso; dsimp only at *; first | omega | contradiction | (rename_i hh; exact hh rfl) | (exact h rfl)) | trace_state
  · have : x1 = q.length := by omega
    subst this
    simp [runF] at h4
    rw [← h4]
    (repeat' (first | with_reducible refine brn_nd (fun h => ?_) (fun h => ?_) | with_reducible refine brn_d (fun h => ?_) (fun h => ?_) | with_reducible refine brn_nn (fun h => ?_) (fun h => ?_) | with_reducible refine brn_nb (fun h => ?_) (fun h => ?_) | with_reducible refine Brn.mk (fun h => ?_) (fun h => ?_) | with_reducible refine Chk.mk ?_ ?_ | with_reducible refine Bth.mk ?_ ?_ | with_reducible refine Fct.mk (fun hf => ?_)))
    all_goals first | omega | trivial | (exfalso; contradiction) | (exfalso; dsimp only at *; first | omega | contradiction | (rename_i hh; exact hh rfl) | (exact h rfl)) | trace_state)
end Go.Proofs.Ytpneplgaeiomkaa
