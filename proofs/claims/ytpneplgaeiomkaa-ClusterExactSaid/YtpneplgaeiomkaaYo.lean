/- ClusterExact, shown. -/
import Derived.Test.YtpneplgaeiomkaaYn
import Derived.Test.YtpneplgaeiomkaaYkExact
set_option linter.all false
set_option maxRecDepth 20000
set_option maxHeartbeats 4000000
namespace Go.Proofs.Ytpneplgaeiomkaa
open Go.RowKit Go.Shelf
theorem bool_ty {c : Cell} (h : HasTy tab 4 [c]) : ∃ n : Bool, c = .bool n := by
  obtain ⟨n, e⟩ := h.bool_ rfl
  injection e with e
  exact ⟨n, e⟩
theorem exact_il (l : List Int) (raw : Cl) (x : XvR) (list : List XvR) (n bits : Int) (fence : Bool) : ILt 6 [lv l, raw.v, x.v, .one (.d (.list (list.map XvR.row))), iv n, iv bits, bv fence] := (lawExact_V l raw x list n bits fence).2 (by
  (delta lawExact_V; dsimp only [mkV])
  (repeat' (first | with_reducible refine brn_nd (fun h => ?_) (fun h => ?_) | with_reducible refine brn_d (fun h => ?_) (fun h => ?_) | with_reducible refine brn_nn (fun h => ?_) (fun h => ?_) | with_reducible refine brn_nb (fun h => ?_) (fun h => ?_) | with_reducible refine Brn.mk (fun h => ?_) (fun h => ?_) | with_reducible refine Chk.mk ?_ ?_ | with_reducible refine Bth.mk ?_ ?_ | with_reducible refine Fct.mk (fun hf => ?_) | (intro _) | (refine up0 (by omega) (by omega) (fun I μ z hz0 hz1 nx => ?_) (fun I μ => ?_)) | with_reducible assumption | (refine And.intro ?_ ?_)))
  all_goals first
    | exact True.intro
    | (show SV.one _ = SV.one _; rfl)
    | omega
    | (unfold InI; omega)
    | exact MadeC.v (by assumption)
    | (exfalso; contradiction)
    | (exfalso; exact h rfl)
    | (exfalso; simp at h; done)
    | skip
  all_goals
    rename_i m hm bnt hbnt _ _ cz hcz _ _ _ _ _ _ _ _ _ _ _ _ _ _
    have hraw : (raw.reps.length : Int) ≤ 8 := by omega
    have hcl : cz.reps.length ≤ 8 := by
      have hmr := hm.r
      have hz3 : z = 0 ∨ z = 1 ∨ z = 2 := by omega
      rcases hz3 with rfl | rfl | rfl
      · have : cz = m := hcz
        rw [this]; omega
      · have : cz = bnt := hcz
        rw [this]; omega
      · have : cz = raw := hcz
        rw [this]; omega
    refine ⟨fun y => -1 ≤ y ∧ y ≤ 5, fun y => (5 - y).toNat, by omega, fun y hy => ?_⟩
    (repeat' (first | with_reducible refine brn_nd (fun h => ?_) (fun h => ?_) | with_reducible refine brn_d (fun h => ?_) (fun h => ?_) | with_reducible refine brn_nn (fun h => ?_) (fun h => ?_) | with_reducible refine brn_nb (fun h => ?_) (fun h => ?_) | with_reducible refine Brn.mk (fun h => ?_) (fun h => ?_) | with_reducible refine Chk.mk ?_ ?_ | with_reducible refine Bth.mk ?_ ?_ | with_reducible refine Fct.mk (fun hf => ?_)))
    · refine ⟨fun w => -1 ≤ w ∧ w ≤ (cz.reps.length : Int) + 1, fun w => ((cz.reps.length : Int) + 1 - w).toNat, by omega, fun w hw => ?_⟩
      (repeat' (first | with_reducible refine brn_nd (fun h => ?_) (fun h => ?_) | with_reducible refine brn_d (fun h => ?_) (fun h => ?_) | with_reducible refine brn_nn (fun h => ?_) (fun h => ?_) | with_reducible refine brn_nb (fun h => ?_) (fun h => ?_) | with_reducible refine Brn.mk (fun h => ?_) (fun h => ?_) | with_reducible refine Chk.mk ?_ ?_ | with_reducible refine Bth.mk ?_ ?_ | with_reducible refine Fct.mk (fun hf => ?_)))
      all_goals first
        | (unfold InI; omega)
        | exact ⟨by omega, by dsimp only; omega⟩
        | (exfalso; have e := rev_no (by assumption : (revS cz y).2 = false); rw [e] at h; simp at h; done)
        | (exfalso; have e := rev_yes (by assumption : (revS cz y).2 = true); rw [e] at h; cases h; done)
        | (exfalso; have e := rev_nil (by assumption : aliveS cz y [] = true); rw [e] at h; simp at h; done)
        | (exfalso; exact h rfl)
        | (exfalso; simp at h; done)
        | (exfalso; contradiction)
        | trace_state
    all_goals first | exact True.intro | (unfold InI; omega) | exact nx)
end Go.Proofs.Ytpneplgaeiomkaa
