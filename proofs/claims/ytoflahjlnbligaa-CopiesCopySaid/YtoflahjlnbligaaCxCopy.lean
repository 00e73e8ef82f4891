/- CopiesCopy, shown. -/
import Derived.Test.YtoflahjlnbligaaCkCopy
set_option linter.all false
set_option maxRecDepth 20000
set_option maxHeartbeats 4000000
namespace Go.Proofs.Ytoflahjlnbligaa
open Go.RowKit Go.Shelf
theorem copy_il (l : List Int) : ILt 5 [lv l] := (lawCopy_V l).2 (by
  (delta lawCopy_V; dsimp only [mkV])
  (repeat' (first | with_reducible refine brn_nd (fun h => ?_) (fun h => ?_) | with_reducible refine brn_d (fun h => ?_) (fun h => ?_) | with_reducible refine brn_nn (fun h => ?_) (fun h => ?_) | with_reducible refine brn_nb (fun h => ?_) (fun h => ?_) | with_reducible refine Brn.mk (fun h => ?_) (fun h => ?_) | with_reducible refine Chk.mk ?_ ?_ | with_reducible refine Bth.mk ?_ ?_ | with_reducible refine Fct.mk (fun hf => ?_)))
  · rfl
  intro d hd
  (repeat' (first | with_reducible refine brn_nd (fun h => ?_) (fun h => ?_) | with_reducible refine brn_d (fun h => ?_) (fun h => ?_) | with_reducible refine brn_nn (fun h => ?_) (fun h => ?_) | with_reducible refine brn_nb (fun h => ?_) (fun h => ?_) | with_reducible refine Brn.mk (fun h => ?_) (fun h => ?_) | with_reducible refine Chk.mk ?_ ?_ | with_reducible refine Bth.mk ?_ ?_ | with_reducible refine Fct.mk (fun hf => ?_)))
  · have := hd.n; omega
  intro a ha
  have he := ha.v
  have hpl := estB_iff.1 he
  have hn := ha.n
  have lt1 : 0 < (a.evs.length : Int) → (gt a.evs ((a.evs.length : Int) - 1)).time = lastT a := fun h => by unfold lastT prevA; rw [if_neg (by omega)]
  have lt0 : ¬ 0 < (a.evs.length : Int) → (0 : Int) = lastT a := fun h => by unfold lastT prevA; rw [if_pos (by omega)]
  have core : ∀ (x x_1 x_2 : Int), 0 ≤ x ∧ x < a.places → 0 ≤ x_1 ∧ x_1 < a.places → 0 ≤ x_2 ∧ x_2 < 3 → ∀ p c : Int, 0 ≤ p ∧ p < a.places → 0 ≤ c ∧ c < 3 →
      decide (c ∈ holdsS (addE a ⟨lastT a, 6, x, 0, 0, x_2, 0⟩) p (lastT a)) = (decide (c ∈ holdsS a p (lastT a)) && decide (¬ (p = x ∧ c = x_2))) ∧
      (x ≠ x_1 → decide (c ∈ holdsS (addE a ⟨lastT a, 7, x_1, 0, 0, 0, x⟩) p (lastT a)) = (decide (c ∈ holdsS a p (lastT a)) || decide (p = x_1) && decide (c ∈ holdsS a x (lastT a)))) := by
    intro x x_1 x_2 hx hx1 hx2 p c hp hc
    refine ⟨?_, fun hne => ?_⟩
    · rw [mem_holds (add_ok he (by omega) rfl (by unfold accP; dsimp only; omega)) hp (by omega), mem_holds he hp (by omega), add_rem he hp hx]
    · rw [mem_holds (add_ok he (by omega) rfl (by unfold accP; dsimp only; omega)) hp (by omega), mem_holds he hp (by omega), mem_holds he hx (by omega), add_cop he hp hx1]
  unfold addE at core
  (repeat' (first | with_reducible refine brn_nd (fun h => ?_) (fun h => ?_) | with_reducible refine brn_d (fun h => ?_) (fun h => ?_) | with_reducible refine brn_nn (fun h => ?_) (fun h => ?_) | with_reducible refine brn_nb (fun h => ?_) (fun h => ?_) | with_reducible refine Brn.mk (fun h => ?_) (fun h => ?_) | with_reducible refine Chk.mk ?_ ?_ | with_reducible refine Bth.mk ?_ ?_ | with_reducible refine Fct.mk (fun hf => ?_)))
  all_goals first | omega | skip
  all_goals
    first | (rw [lt1 (by assumption)]; clear lt1 lt0; generalize lastT a = tl at *) | (rw [← lt0 (by assumption)] at core; clear lt1 lt0)
    intro x hx
    (repeat' (first | with_reducible refine brn_nd (fun h => ?_) (fun h => ?_) | with_reducible refine brn_d (fun h => ?_) (fun h => ?_) | with_reducible refine brn_nn (fun h => ?_) (fun h => ?_) | with_reducible refine brn_nb (fun h => ?_) (fun h => ?_) | with_reducible refine Brn.mk (fun h => ?_) (fun h => ?_) | with_reducible refine Chk.mk ?_ ?_ | with_reducible refine Bth.mk ?_ ?_ | with_reducible refine Fct.mk (fun hf => ?_)))
    · omega
    intro x1 hx1
    (repeat' (first | with_reducible refine brn_nd (fun h => ?_) (fun h => ?_) | with_reducible refine brn_d (fun h => ?_) (fun h => ?_) | with_reducible refine brn_nn (fun h => ?_) (fun h => ?_) | with_reducible refine brn_nb (fun h => ?_) (fun h => ?_) | with_reducible refine Brn.mk (fun h => ?_) (fun h => ?_) | with_reducible refine Chk.mk ?_ ?_ | with_reducible refine Bth.mk ?_ ?_ | with_reducible refine Fct.mk (fun hf => ?_)))
    · omega
    intro x2 hx2
    have core := core x x1 x2 hx hx1 hx2
    (repeat' (first | with_reducible refine brn_nd (fun h => ?_) (fun h => ?_) | with_reducible refine brn_d (fun h => ?_) (fun h => ?_) | with_reducible refine brn_nn (fun h => ?_) (fun h => ?_) | with_reducible refine brn_nb (fun h => ?_) (fun h => ?_) | with_reducible refine Brn.mk (fun h => ?_) (fun h => ?_) | with_reducible refine Chk.mk ?_ ?_ | with_reducible refine Bth.mk ?_ ?_ | with_reducible refine Fct.mk (fun hf => ?_)))
    · omega
    · simp; omega
    refine up0 (by omega) (by omega) (fun I μ p p0 p1 nx => ?_) (fun I μ => ?_)
    · refine up0 (by omega) (by omega) (fun I2 μ2 c c0 c1 nx2 => ?_) (fun I2 μ2 => ?_)
      · have k := (core p c ⟨p0, p1⟩ ⟨c0, c1⟩).1
        clear core
        simp only [k]
        (repeat' (first | with_reducible refine brn_nd (fun h => ?_) (fun h => ?_) | with_reducible refine brn_d (fun h => ?_) (fun h => ?_) | with_reducible refine brn_nn (fun h => ?_) (fun h => ?_) | with_reducible refine brn_nb (fun h => ?_) (fun h => ?_) | with_reducible refine Brn.mk (fun h => ?_) (fun h => ?_) | with_reducible refine Chk.mk ?_ ?_ | with_reducible refine Bth.mk ?_ ?_ | with_reducible refine Fct.mk (fun hf => ?_)))
        all_goals first | omega | (unfold InI; omega) | exact nx2 | (exfalso; simp_all; done)
      · (repeat' (first | with_reducible refine brn_nd (fun h => ?_) (fun h => ?_) | with_reducible refine brn_d (fun h => ?_) (fun h => ?_) | with_reducible refine brn_nn (fun h => ?_) (fun h => ?_) | with_reducible refine brn_nb (fun h => ?_) (fun h => ?_) | with_reducible refine Brn.mk (fun h => ?_) (fun h => ?_) | with_reducible refine Chk.mk ?_ ?_ | with_reducible refine Bth.mk ?_ ?_ | with_reducible refine Fct.mk (fun hf => ?_)))
        all_goals first | omega | (unfold InI; omega) | exact nx
    · (repeat' (first | with_reducible refine brn_nd (fun h => ?_) (fun h => ?_) | with_reducible refine brn_d (fun h => ?_) (fun h => ?_) | with_reducible refine brn_nn (fun h => ?_) (fun h => ?_) | with_reducible refine brn_nb (fun h => ?_) (fun h => ?_) | with_reducible refine Brn.mk (fun h => ?_) (fun h => ?_) | with_reducible refine Chk.mk ?_ ?_ | with_reducible refine Bth.mk ?_ ?_ | with_reducible refine Fct.mk (fun hf => ?_)))
      · rfl
      · simp; omega
      have hne : x ≠ x1 := by assumption
      refine up0 (by omega) (by omega) (fun I μ p p0 p1 nx => ?_) (fun I μ => ?_)
      · refine up0 (by omega) (by omega) (fun I2 μ2 c c0 c1 nx2 => ?_) (fun I2 μ2 => ?_)
        · have k := (core p c ⟨p0, p1⟩ ⟨c0, c1⟩).2 hne
          clear core
          simp only [k]
          (repeat' (first | with_reducible refine brn_nd (fun h => ?_) (fun h => ?_) | with_reducible refine brn_d (fun h => ?_) (fun h => ?_) | with_reducible refine brn_nn (fun h => ?_) (fun h => ?_) | with_reducible refine brn_nb (fun h => ?_) (fun h => ?_) | with_reducible refine Brn.mk (fun h => ?_) (fun h => ?_) | with_reducible refine Chk.mk ?_ ?_ | with_reducible refine Bth.mk ?_ ?_ | with_reducible refine Fct.mk (fun hf => ?_)))
          all_goals first | omega | (unfold InI; omega) | exact nx2 | (exfalso; simp_all; done)
        · (repeat' (first | with_reducible refine brn_nd (fun h => ?_) (fun h => ?_) | with_reducible refine brn_d (fun h => ?_) (fun h => ?_) | with_reducible refine brn_nn (fun h => ?_) (fun h => ?_) | with_reducible refine brn_nb (fun h => ?_) (fun h => ?_) | with_reducible refine Brn.mk (fun h => ?_) (fun h => ?_) | with_reducible refine Chk.mk ?_ ?_ | with_reducible refine Bth.mk ?_ ?_ | with_reducible refine Fct.mk (fun hf => ?_)))
          all_goals first | omega | (unfold InI; omega) | exact nx
      · rfl)
end Go.Proofs.Ytoflahjlnbligaa
