/- The law TopBroken, shown. -/
import Derived.Test.YtcbppkfnfbdkhaaPvBroken
set_option linter.all false
set_option maxRecDepth 20000
set_option maxHeartbeats 4000000
namespace Go.Proofs.Ytcbppkfnfbdkhaa
open Go.RowKit Go.Shelf
theorem broken_il (tape : List Int) : ILt 8 [lv tape] := (lawBroken_V tape).2 (by
  (delta lawBroken_V; dsimp only [mkV])
  refine Fct.mk fun _ => brn_d (fun _ => rfl) fun _ => Chk.mk (by omega) ?_
  rintro f ⟨hf, hp2, hfit⟩
  refine Chk.mk hf ?_
  rintro s ⟨hr, ha⟩
  have hh : hldB f s = true := by
    unfold hldB
    rw [hr, all_len hr ha]; simp
  obtain ⟨hPI, hv2, hE⟩ := from_ok hr ha hfit
  have hrun := hPI.run
  have hcl := flt_len hf
  have hlen : (fromS f s).2.length ≤ 120 := by
    have h1 := from_len f s
    have h2 := pools_two hp2
    have h3 : (poolsS f).length * (4 * f.cons.length + 4) ≤ 2 * 36 := Nat.mul_le_mul h2 (by omega)
    omega
  have hrl := runS_len f (fromS f s).2 s
  refine brn_nb (fun h => absurd hh (by rw [h]; simp)) fun _ => Chk.mk ⟨hh, hfit⟩ (Chk.mk ⟨hr, hlen, _, hrun⟩ (Fct.mk fun _ => brn_nd (fun h => absurd rfl h) fun _ => Fct.mk fun _ => ?_))
  refine lp5 (fun g a b c z => 0 ≤ z ∧ z ≤ ((fromS f s).2.length : Int) ∧ g = decide (bits .and .i64 (befS f s (fromS f s).2 z).valid 1 = 0) ∧ a = (befS f s (fromS f s).2 z).known ∧ b = (befS f s (fromS f s).2 z).valid ∧ c = (befS f s (fromS f s).2 z).units) (fun _ _ _ _ z => (((fromS f s).2.length : Int) - z).toNat) ⟨by omega, by omega, rfl, rfl, rfl, rfl⟩ ?_
  rintro I μ nx g a b c z ⟨h0, h1, rfl, rfl, rfl, rfl⟩
  refine brn_d (fun hz => ?_) fun hz => ?_
  · obtain ⟨i, rfl, hi⟩ := natz h0 (show z < ((fromS f s).2.length : Int) by omega)
    obtain ⟨q1, q2, q3⟩ := run_at hrun i (by omega)
    have hri : rightB f (gt (runS f s (fromS f s).2) (i : Int)) = true := by rw [q3]; exact step_right q1
    have hb : befS f s (fromS f s).2 ((i : Int) + 1) = gt (runS f s (fromS f s).2) (i : Int) := bef_s _ _ _ _
    have hnx : I (decide (bits .and .i64 (gt (runS f s (fromS f s).2) (i : Int)).valid 1 = 0)) (gt (runS f s (fromS f s).2) (i : Int)).known (gt (runS f s (fromS f s).2) (i : Int)).valid (gt (runS f s (fromS f s).2) (i : Int)).units ((i : Int) + 1) ∧ μ (decide (bits .and .i64 (gt (runS f s (fromS f s).2) (i : Int)).valid 1 = 0)) (gt (runS f s (fromS f s).2) (i : Int)).known (gt (runS f s (fromS f s).2) (i : Int)).valid (gt (runS f s (fromS f s).2) (i : Int)).units ((i : Int) + 1) < μ (decide (bits .and .i64 (befS f s (fromS f s).2 (i : Int)).valid 1 = 0)) (befS f s (fromS f s).2 (i : Int)).known (befS f s (fromS f s).2 (i : Int)).valid (befS f s (fromS f s).2 (i : Int)).units (i : Int) :=
      nx _ _ _ _ _ _ _ _ _ _ ⟨h0, h1, rfl, rfl, rfl, rfl⟩ ⟨by omega, by omega, by rw [hb], by rw [hb], by rw [hb], by rw [hb]⟩ (by omega)
    refine Chk.mk ⟨h0, hz⟩ (brn_d (fun hg => ?_) fun _ => ?_)
    · have hgone := step_gone q1 hg
      rw [← q3] at hgone
      refine brn_nd (fun h => absurd hgone h) fun _ => ?_
      refine brn_nb (fun h => absurd hri (by rw [h]; simp)) fun _ => Chk.mk (by unfold InI; omega) hnx
    · refine brn_nb (fun h => absurd hri (by rw [h]; simp)) fun _ => Chk.mk (by unfold InI; omega) hnx
  · have e : befS f s (fromS f s).2 z = (fromS f s).1 := by
      rw [show z = ((fromS f s).2.length : Int) by omega]; exact run_end hrun
    have hend : endB f (befS f s (fromS f s).2 z) = true := by
      rw [e]; exact endB_of hPI.rt hv2 hE
    exact ⟨fun _ => rfl, fun h => absurd hend (by
      have : endB f (befS f s (fromS f s).2 z) = false := h
      rw [this]; simp)⟩)
end Go.Proofs.Ytcbppkfnfbdkhaa
