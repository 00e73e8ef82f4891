/- ClusterSyncs, shown. -/
import Derived.Test.YtpneplgaeiomkaaYg
set_option linter.all false
set_option maxRecDepth 20000
set_option maxHeartbeats 4000000
namespace Go.Proofs.Ytpneplgaeiomkaa
open Go.RowKit Go.Shelf
theorem Cl.eta (x : Cl) : (⟨x.fence, x.sets, x.reps, x.snaps⟩ : Cl) = x := rfl
theorem ap2 {c : Cl} {i : Int} (hv : validB c = true) (h0 : 0 ≤ i) (h1 : i < c.reps.length) : applyE c ⟨2, i, 0, 0⟩ = 0 ∧ applyC c ⟨2, i, 0, 0⟩ = ⟨c.fence, c.sets, c.reps.set i.toNat ⟨(c.sets.length : Int) - 1, true⟩, c.snaps⟩ := by
  have e : applyE c ⟨2, i, 0, 0⟩ = 0 := by
    rw [E2 hv rfl, if_pos ⟨rfl, rfl, (inB_iff _ _ _).2 ⟨h0, by show i ≤ _; omega⟩⟩]
  refine ⟨e, ?_⟩
  unfold applyC; rw [if_pos e]; simp [applyM]
theorem ap3 {c : Cl} {i : Int} (hv : validB c = true) (h0 : 0 ≤ i) (h1 : i < c.reps.length) (h2 : c.snaps.length < 120) : applyE c ⟨3, i, 0, 0⟩ = 0 ∧ applyC c ⟨3, i, 0, 0⟩ = ⟨c.fence, c.sets, c.reps, c.snaps ++ [(gt c.reps i).gen]⟩ := by
  have e : applyE c ⟨3, i, 0, 0⟩ = 0 := by
    rw [E3 hv rfl, if_pos ⟨rfl, rfl, (inB_iff _ _ _).2 ⟨h0, by show i ≤ _; omega⟩⟩, if_neg (by omega)]
  refine ⟨e, ?_⟩
  unfold applyC; rw [if_pos e, aM3 rfl]
theorem ap4 {c : Cl} {i j : Int} (hv : validB c = true) (h0 : 0 ≤ i) (h1 : i < c.reps.length) (h2 : 0 ≤ j) (h3 : j < c.snaps.length) : applyE c ⟨4, i, j, 0⟩ = 0 ∧ applyC c ⟨4, i, j, 0⟩ = ⟨c.fence, c.sets, c.reps.set i.toNat ⟨gt c.snaps j, !c.fence⟩, c.snaps⟩ := by
  have e : applyE c ⟨4, i, j, 0⟩ = 0 := by
    rw [E4 hv rfl, if_pos ⟨rfl, (inB_iff _ _ _).2 ⟨h0, by show i ≤ _; omega⟩, (inB_iff _ _ _).2 ⟨h2, by show j ≤ _; omega⟩⟩]
  refine ⟨e, ?_⟩
  unfold applyC; rw [if_pos e]; simp [applyM]; rfl
theorem gt_set_ne {α : Type} [Inhabited α] {xs : List α} {i j : Int} {y : α} (h : ¬ j = i) (h0 : 0 ≤ i) (h1 : 0 ≤ j) : gt (xs.set i.toNat y) j = gt xs j := by
  unfold gt
  have : ¬ i.toNat = j.toNat := by omega
  simp [List.getElem?_set, this]
theorem gt_snoc {α : Type} [Inhabited α] {xs : List α} {y : α} : gt (xs ++ [y]) (xs.length : Int) = y := by
  unfold gt; simp
theorem syncs_il (l : List Int) : ILt 4 [lv l] := (syncs_V l).2 (by
  (delta syncs_V; dsimp only [mkV])
  (repeat' (first | with_reducible refine brn_nd (fun h => ?_) (fun h => ?_) | with_reducible refine brn_d (fun h => ?_) (fun h => ?_) | with_reducible refine brn_nn (fun h => ?_) (fun h => ?_) | with_reducible refine brn_nb (fun h => ?_) (fun h => ?_) | with_reducible refine Brn.mk (fun h => ?_) (fun h => ?_) | with_reducible refine Chk.mk ?_ ?_ | with_reducible refine Bth.mk ?_ ?_ | with_reducible refine Fct.mk (fun hf => ?_)))
  · rfl
  intro x hx
  have hv := hx.v
  have hl := valid_len hv
  have hn := hx.n
  (repeat' (first | with_reducible refine brn_nd (fun h => ?_) (fun h => ?_) | with_reducible refine brn_d (fun h => ?_) (fun h => ?_) | with_reducible refine brn_nn (fun h => ?_) (fun h => ?_) | with_reducible refine brn_nb (fun h => ?_) (fun h => ?_) | with_reducible refine Brn.mk (fun h => ?_) (fun h => ?_) | with_reducible refine Chk.mk ?_ ?_ | with_reducible refine Bth.mk ?_ ?_ | with_reducible refine Fct.mk (fun hf => ?_)))
  · omega
  intro i hi
  obtain ⟨e1, c1⟩ := ap2 hv hi.1 hi.2
  obtain ⟨e3, c3⟩ := ap3 hv hi.1 hi.2 (by omega)
  have hv3 : validB (applyC x ⟨3, i, 0, 0⟩) = true := applyC_valid e3
  rw [c3] at hv3
  have e4 := ap4 (i := i) (j := (x.snaps.length : Int)) hv3 hi.1 hi.2 (by omega) (by simp; omega)
  obtain ⟨e4, c4⟩ := e4
  have hi2 : i.toNat < x.reps.length := by omega
  have hacc : ∀ z : Int, 1 ≤ z → z ≤ 2 → accS ⟨x.fence, x.sets, x.reps.set i.toNat ⟨(x.sets.length : Int) - 1, true⟩, x.snaps⟩ i z = !decide (bits .and .i64 (gt x.sets ((x.sets.length : Int) - 1)) z = 0) := fun z h1 h2 => by
    have hv1 := applyC_valid e1
    rw [c1] at hv1
    unfold accS
    rw [hv1]
    have ha : askedB z = true := by unfold askedB; simp; omega
    rw [ha, (inB_iff _ _ _).2 ⟨hi.1, by simp; omega⟩]
    have hr : Cl.rep ⟨x.fence, x.sets, x.reps.set i.toNat ⟨(x.sets.length : Int) - 1, true⟩, x.snaps⟩ i = ⟨(x.sets.length : Int) - 1, true⟩ := gt_set hi2
    rw [hr]
    rfl
  simp only [Cl.eta, e1, c1, e3, c3, e4, c4, gt_snoc, List.length_set, gt_set hi2]
  (repeat' (first | with_reducible refine brn_nd (fun h => ?_) (fun h => ?_) | with_reducible refine brn_d (fun h => ?_) (fun h => ?_) | with_reducible refine brn_nn (fun h => ?_) (fun h => ?_) | with_reducible refine brn_nb (fun h => ?_) (fun h => ?_) | with_reducible refine Brn.mk (fun h => ?_) (fun h => ?_) | with_reducible refine Chk.mk ?_ ?_ | with_reducible refine Bth.mk ?_ ?_ | with_reducible refine Fct.mk (fun hf => ?_)))
  all_goals first | (exfalso; simp_all; done) | skip
  refine up0 (by omega) (by omega) (fun I μ z hz0 hz1 nx => ?_) (fun I μ => ?_)
  · (repeat' (first | with_reducible refine brn_nd (fun h => ?_) (fun h => ?_) | with_reducible refine brn_d (fun h => ?_) (fun h => ?_) | with_reducible refine brn_nn (fun h => ?_) (fun h => ?_) | with_reducible refine brn_nb (fun h => ?_) (fun h => ?_) | with_reducible refine Brn.mk (fun h => ?_) (fun h => ?_) | with_reducible refine Chk.mk ?_ ?_ | with_reducible refine Bth.mk ?_ ?_ | with_reducible refine Fct.mk (fun hf => ?_)))
    all_goals first | omega | (unfold InI; omega) | exact nx | skip
    · rename_i hz
      subst hz
      rw [gt_set (by omega)] at h
      exact absurd rfl h
    · rename_i hz
      rw [gt_set_ne hz hi.1 hz0] at h
      exact absurd rfl h
  refine ⟨fun z => 1 ≤ z ∧ z ≤ 3, fun z => (3 - z).toNat, by omega, fun z hz => ?_⟩
  (repeat' (first | with_reducible refine brn_nd (fun h => ?_) (fun h => ?_) | with_reducible refine brn_d (fun h => ?_) (fun h => ?_) | with_reducible refine brn_nn (fun h => ?_) (fun h => ?_) | with_reducible refine brn_nb (fun h => ?_) (fun h => ?_) | with_reducible refine Brn.mk (fun h => ?_) (fun h => ?_) | with_reducible refine Chk.mk ?_ ?_ | with_reducible refine Bth.mk ?_ ?_ | with_reducible refine Fct.mk (fun hf => ?_)))
  all_goals first | omega | (unfold InI; omega) | (exact ⟨⟨by omega, by omega⟩, by dsimp only; omega⟩) | (exfalso; simp_all; done) | rfl | skip
  all_goals (rename_i hz2; rw [hacc z hz.1 hz2] at h; simp at h))
end Go.Proofs.Ytpneplgaeiomkaa
