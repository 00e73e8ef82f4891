/- Regress: the law RegressBack, shown. -/
import Derived.Test.YtcbppkfnfbdkhaaJvBack
set_option linter.all false
set_option maxRecDepth 20000
set_option maxHeartbeats 4000000
namespace Go.Proofs.Ytcbppkfnfbdkhaa
open Go.RowKit Go.Shelf
theorem back_il (tape : List Int) : ILt 3 [lv tape] := (lawBack_V tape).2 (by
  (delta lawBack_V; dsimp only [mkV])
  intro kinds hk
  refine Chk.mk (by omega) ?_
  intro n1 hn1
  refine Chk.mk (by omega) ?_
  intro a ha
  refine Chk.mk (by omega) ?_
  intro n2 hn2
  refine Chk.mk (by omega) ?_
  intro b hb f hf
  have ra := ha.2.ok (by omega)
  have rb := hb.2.ok (by omega)
  obtain ⟨f1, f2⟩ := hf.2.ok hf.1
  have l1 := chgS_sw_len a b kinds f
  have l2 := verS_len a kinds f
  have l3 := verS_len b kinds f
  have l4 := congrArg List.length (chgS_self a kinds f)
  have l5 := cgBef_all a b kinds f
  (repeat' (first | with_reducible refine brn_nd (fun h => ?_) (fun h => ?_) | with_reducible refine brn_d (fun h => ?_) (fun h => ?_) | with_reducible refine brn_nn (fun h => ?_) (fun h => ?_) | with_reducible refine brn_nb (fun h => ?_) (fun h => ?_) | with_reducible refine Brn.mk (fun h => ?_) (fun h => ?_) | with_reducible refine Chk.mk ?_ ?_ | with_reducible refine Bth.mk ?_ ?_ | with_reducible refine Fct.mk (fun hf => ?_)))
  all_goals first | exact ⟨ra, ra, f1, f2⟩ | exact ⟨ra, rb, f1, f2⟩ | exact ⟨rb, ra, f1, f2⟩ | exact ⟨ra, f1, f2⟩ | exact ⟨rb, f1, f2⟩ | (exfalso; simp at l4; simp_all; done) | (exfalso; omega) | skip
  refine lp2 (fun n k => 0 ≤ k ∧ k ≤ f.length ∧ n = cgBef a b kinds f k 0) (fun _ k => (f.length - k).toNat) ⟨by omega, by omega, (cgBef_0 ..).symm⟩ ?_
  rintro I μ nx n k ⟨k0, k1, hn⟩
  (repeat' (first | with_reducible refine brn_nd (fun h => ?_) (fun h => ?_) | with_reducible refine brn_d (fun h => ?_) (fun h => ?_) | with_reducible refine brn_nn (fun h => ?_) (fun h => ?_) | with_reducible refine brn_nb (fun h => ?_) (fun h => ?_) | with_reducible refine Brn.mk (fun h => ?_) (fun h => ?_) | with_reducible refine Chk.mk ?_ ?_ | with_reducible refine Bth.mk ?_ ?_ | with_reducible refine Fct.mk (fun hf => ?_)))
  all_goals first | omega | skip
  · exfalso
    rw [verS_row k0 (by assumption)] at h
    simp at h
  · exfalso
    rw [verS_row k0 (by assumption)] at h
    simp at h
  · have hkf : k < f.length := by assumption
    refine lp2 (fun n s => 0 ≤ s ∧ s ≤ (gt f k).wh.length ∧ n = cgBef a b kinds f k s) (fun _ s => ((gt f k).wh.length - s).toNat) ⟨by omega, by omega, hn⟩ ?_
    rintro I2 μ2 nx2 n2 s ⟨s0, s1, hn2⟩
    have r1 : (gt (verS a kinds f) k).length = (gt f k).wh.length := by rw [verS_row k0 hkf]; simp
    have r2 : (gt (verS b kinds f) k).length = (gt f k).wh.length := by rw [verS_row k0 hkf]; simp
    by_cases hs : s < (gt f k).wh.length
    · have v1 := verS_at (l := a) (kinds := kinds) k0 hkf s0 hs
      have v2 := verS_at (l := b) (kinds := kinds) k0 hkf s0 hs
      by_cases e : decV a kinds (gt f k) (gt (gt f k).wh s) = decV b kinds (gt f k) (gt (gt f k).wh s)
      · have e2 := cgBef_no s0 e
        (repeat' (first | with_reducible refine brn_nd (fun h => ?_) (fun h => ?_) | with_reducible refine brn_d (fun h => ?_) (fun h => ?_) | with_reducible refine brn_nn (fun h => ?_) (fun h => ?_) | with_reducible refine brn_nb (fun h => ?_) (fun h => ?_) | with_reducible refine Brn.mk (fun h => ?_) (fun h => ?_) | with_reducible refine Chk.mk ?_ ?_ | with_reducible refine Bth.mk ?_ ?_ | with_reducible refine Fct.mk (fun hf => ?_)))
        all_goals first | omega | (unfold InI; omega) | exact nx2 _ _ _ _ ⟨s0, s1, hn2⟩ ⟨by omega, by omega, by omega⟩ (by omega) | (exfalso; omega)
      · obtain ⟨c1, c2, c3, c4⟩ := cgBef_at k0 hkf s0 hs e
        rw [← hn2] at c1 c2 c3 c4
        have c5 : gt (chgS b a kinds f) n2 = (gt (chgS a b kinds f) n2).sw := by rw [chgS_sw a b, gt_map' c2 c3]
        rw [c4] at c5
        rw [v1, v2, c4, c5]
        unfold Chg.sw
        (repeat' (first | with_reducible refine brn_nd (fun h => ?_) (fun h => ?_) | with_reducible refine brn_d (fun h => ?_) (fun h => ?_) | with_reducible refine brn_nn (fun h => ?_) (fun h => ?_) | with_reducible refine brn_nb (fun h => ?_) (fun h => ?_) | with_reducible refine Brn.mk (fun h => ?_) (fun h => ?_) | with_reducible refine Chk.mk ?_ ?_ | with_reducible refine Bth.mk ?_ ?_ | with_reducible refine Fct.mk (fun hf => ?_)))
        all_goals first | omega | (unfold InI; omega) | (exfalso; omega) | exact nx2 _ _ _ _ ⟨s0, s1, hn2⟩ ⟨by omega, by omega, by omega⟩ (by omega) | (exfalso; exact absurd rfl (by assumption)) | trace_state
    · have e3 : s = (gt f k).wh.length := by omega
      have e4 := cgBef_row a b kinds f k0
      rw [← e3] at e4
      (repeat' (first | with_reducible refine brn_nd (fun h => ?_) (fun h => ?_) | with_reducible refine brn_d (fun h => ?_) (fun h => ?_) | with_reducible refine brn_nn (fun h => ?_) (fun h => ?_) | with_reducible refine brn_nb (fun h => ?_) (fun h => ?_) | with_reducible refine Brn.mk (fun h => ?_) (fun h => ?_) | with_reducible refine Chk.mk ?_ ?_ | with_reducible refine Bth.mk ?_ ?_ | with_reducible refine Fct.mk (fun hf => ?_)))
      all_goals first | omega | (unfold InI; omega) | (exfalso; omega) | exact nx _ _ _ _ ⟨k0, k1, hn⟩ ⟨by omega, by omega, by omega⟩ (by omega) | trace_state
  · rfl
  · exfalso
    have e5 : k = f.length := by omega
    subst e5
    omega)
end Go.Proofs.Ytcbppkfnfbdkhaa
