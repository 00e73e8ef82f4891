/- CopiesStays, shown. -/
import Derived.Test.YtoflahjlnbligaaCkStays
set_option linter.all false
set_option maxRecDepth 20000
set_option maxHeartbeats 4000000
namespace Go.Proofs.Ytoflahjlnbligaa
open Go.RowKit Go.Shelf
theorem stays_J {a : Est} (he : estB a = true) {c : Int} (hc : 0 ≤ c ∧ c ≤ 63) : OutJ a a.places (staysS a c) := by
  have hpl := estB_iff.1 he
  have h := stays_ord he c a.places.toNat (Nat.le_refl _)
  rw [Int.toNat_of_nonneg (by omega)] at h
  unfold staysS rightB
  rw [if_pos (by rw [he]; simp [inB]; omega)]
  exact h
theorem pw_gt {α : Type} [Inhabited α] {R : α → α → Prop} {l : List α} (h : l.Pairwise R) {z : Int} (h0 : 0 < z) (h1 : z < (l.length : Int)) : R (gt l (z - 1)) (gt l z) := by
  obtain ⟨i, rfl⟩ : ∃ i : Nat, z = (i : Int) + 1 := ⟨(z - 1).toNat, by omega⟩
  have := (List.pairwise_iff_getElem.1 h) i (i + 1) (by omega) (by omega) (by omega)
  rw [show (i : Int) + 1 - 1 = (i : Int) by omega, show (i : Int) + 1 = ((i + 1 : Nat) : Int) by omega, gt_nat (by omega), gt_nat (by omega)]
  exact this
theorem stays_il (l : List Int) : ILt 3 [lv l] := (lawStays_V l).2 (by
  (delta lawStays_V; dsimp only [mkV])
  (repeat' (first | with_reducible refine brn_nd (fun h => ?_) (fun h => ?_) | with_reducible refine brn_d (fun h => ?_) (fun h => ?_) | with_reducible refine brn_nn (fun h => ?_) (fun h => ?_) | with_reducible refine brn_nb (fun h => ?_) (fun h => ?_) | with_reducible refine Brn.mk (fun h => ?_) (fun h => ?_) | with_reducible refine Chk.mk ?_ ?_ | with_reducible refine Bth.mk ?_ ?_ | with_reducible refine Fct.mk (fun hf => ?_)))
  · rfl
  intro d hd
  (repeat' (first | with_reducible refine brn_nd (fun h => ?_) (fun h => ?_) | with_reducible refine brn_d (fun h => ?_) (fun h => ?_) | with_reducible refine brn_nn (fun h => ?_) (fun h => ?_) | with_reducible refine brn_nb (fun h => ?_) (fun h => ?_) | with_reducible refine Brn.mk (fun h => ?_) (fun h => ?_) | with_reducible refine Chk.mk ?_ ?_ | with_reducible refine Bth.mk ?_ ?_ | with_reducible refine Fct.mk (fun hf => ?_)))
  · have := hd.n; omega
  intro a ha
  have he := ha.v
  refine up0 (by omega) (by omega) (fun I μ c h0 h1 nx => ?_) (fun I μ => ?_)
  · have hJ := stays_J he (c := c) (by omega)
    (repeat' (first | with_reducible refine brn_nd (fun h => ?_) (fun h => ?_) | with_reducible refine brn_d (fun h => ?_) (fun h => ?_) | with_reducible refine brn_nn (fun h => ?_) (fun h => ?_) | with_reducible refine brn_nb (fun h => ?_) (fun h => ?_) | with_reducible refine Brn.mk (fun h => ?_) (fun h => ?_) | with_reducible refine Chk.mk ?_ ?_ | with_reducible refine Bth.mk ?_ ?_ | with_reducible refine Fct.mk (fun hf => ?_)))
    refine up0 (by omega) (by omega) (fun I μ z g0 g1 nx2 => ?_) (fun I μ => ?_)
    · have e := hJ.e _ (gt_mem g0 g1)
      have o : 0 < z → ordR (gt (staysS a c) (z - 1)) (gt (staysS a c) z) := fun h => pw_gt hJ.o h g1
      unfold ordR at o
      (repeat' (first | with_reducible refine brn_nd (fun h => ?_) (fun h => ?_) | with_reducible refine brn_d (fun h => ?_) (fun h => ?_) | with_reducible refine brn_nn (fun h => ?_) (fun h => ?_) | with_reducible refine brn_nb (fun h => ?_) (fun h => ?_) | with_reducible refine Brn.mk (fun h => ?_) (fun h => ?_) | with_reducible refine Chk.mk ?_ ?_ | with_reducible refine Bth.mk ?_ ?_ | with_reducible refine Fct.mk (fun hf => ?_)))
      all_goals first | omega | (exfalso; omega) | (unfold InI; omega) | exact nx2 | skip
    · (repeat' (first | with_reducible refine brn_nd (fun h => ?_) (fun h => ?_) | with_reducible refine brn_d (fun h => ?_) (fun h => ?_) | with_reducible refine brn_nn (fun h => ?_) (fun h => ?_) | with_reducible refine brn_nb (fun h => ?_) (fun h => ?_) | with_reducible refine Brn.mk (fun h => ?_) (fun h => ?_) | with_reducible refine Chk.mk ?_ ?_ | with_reducible refine Bth.mk ?_ ?_ | with_reducible refine Fct.mk (fun hf => ?_)))
      all_goals first | omega | (unfold InI; omega) | exact nx
  · rfl)
end Go.Proofs.Ytoflahjlnbligaa
