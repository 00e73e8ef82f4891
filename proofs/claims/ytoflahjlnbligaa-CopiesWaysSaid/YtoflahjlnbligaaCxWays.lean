/- CopiesWays, shown. -/
import Derived.Test.YtoflahjlnbligaaCkWays
set_option linter.all false
set_option maxRecDepth 20000
set_option maxHeartbeats 4000000
namespace Go.Proofs.Ytoflahjlnbligaa
open Go.RowKit Go.Shelf
theorem stays_at {a : Est} (he : estB a = true) {c p t : Int} (hc : 0 ≤ c ∧ c ≤ 63) (hp : 0 ≤ p ∧ p < a.places) (ht : t ≤ 1099511627776) : covB (staysS a c) p t ↔ inT a c p t = true := by
  have hpl := estB_iff.1 he
  unfold staysS rightB
  rw [if_pos (by rw [he]; simp [inB]; omega), stays_cov he ht p _ (Nat.le_refl _)]
  exact ⟨fun h => h.2.2, fun h => ⟨hp.1, by omega, h⟩⟩
def cvB (p t : Int) (s : Sty) : Bool := decide (s.place = p) && (decide (s.frm ≤ t) && decide (t < s.til))
theorem any_cov {l : List Sty} {p t : Int} : l.any (cvB p t) = true ↔ covB l p t := by
  unfold covB cvB
  simp [List.any_eq_true]
theorem any_take {α : Type} [Inhabited α] {l : List α} {q : α → Bool} {i : Nat} (h : i < l.length) : (l.take (i + 1)).any q = ((l.take i).any q || q (gt l (i : Int))) := by
  rw [take_snoc h, List.any_append]; simp
theorem ways_il (l : List Int) : ILt 7 [lv l] := (lawWays_V l).2 (by
  (delta lawWays_V; dsimp only [mkV])
  (repeat' (first | with_reducible refine brn_nd (fun h => ?_) (fun h => ?_) | with_reducible refine brn_d (fun h => ?_) (fun h => ?_) | with_reducible refine brn_nn (fun h => ?_) (fun h => ?_) | with_reducible refine brn_nb (fun h => ?_) (fun h => ?_) | with_reducible refine Brn.mk (fun h => ?_) (fun h => ?_) | with_reducible refine Chk.mk ?_ ?_ | with_reducible refine Bth.mk ?_ ?_ | with_reducible refine Fct.mk (fun hf => ?_)))
  · rfl
  intro d hd
  (repeat' (first | with_reducible refine brn_nd (fun h => ?_) (fun h => ?_) | with_reducible refine brn_d (fun h => ?_) (fun h => ?_) | with_reducible refine brn_nn (fun h => ?_) (fun h => ?_) | with_reducible refine brn_nb (fun h => ?_) (fun h => ?_) | with_reducible refine Brn.mk (fun h => ?_) (fun h => ?_) | with_reducible refine Chk.mk ?_ ?_ | with_reducible refine Bth.mk ?_ ?_ | with_reducible refine Fct.mk (fun hf => ?_)))
  · have := hd.n; omega
  intro a ha
  have he := ha.v
  have hpl := estB_iff.1 he
  (repeat' (first | with_reducible refine brn_nd (fun h => ?_) (fun h => ?_) | with_reducible refine brn_d (fun h => ?_) (fun h => ?_) | with_reducible refine brn_nn (fun h => ?_) (fun h => ?_) | with_reducible refine brn_nb (fun h => ?_) (fun h => ?_) | with_reducible refine Brn.mk (fun h => ?_) (fun h => ?_) | with_reducible refine Chk.mk ?_ ?_ | with_reducible refine Bth.mk ?_ ?_ | with_reducible refine Fct.mk (fun hf => ?_)))
  · omega
  intro c hc
  (repeat' (first | with_reducible refine brn_nd (fun h => ?_) (fun h => ?_) | with_reducible refine brn_d (fun h => ?_) (fun h => ?_) | with_reducible refine brn_nn (fun h => ?_) (fun h => ?_) | with_reducible refine brn_nb (fun h => ?_) (fun h => ?_) | with_reducible refine Brn.mk (fun h => ?_) (fun h => ?_) | with_reducible refine Chk.mk ?_ ?_ | with_reducible refine Bth.mk ?_ ?_ | with_reducible refine Fct.mk (fun hf => ?_)))
  refine lp1 (fun t => 0 ≤ t ∧ t ≤ 43) (fun t => (43 - t).toNat) (by omega) (fun I μ nx t ht => ?_)
  (repeat' (first | with_reducible refine brn_nd (fun h => ?_) (fun h => ?_) | with_reducible refine brn_d (fun h => ?_) (fun h => ?_) | with_reducible refine brn_nn (fun h => ?_) (fun h => ?_) | with_reducible refine brn_nb (fun h => ?_) (fun h => ?_) | with_reducible refine Brn.mk (fun h => ?_) (fun h => ?_) | with_reducible refine Chk.mk ?_ ?_ | with_reducible refine Bth.mk ?_ ?_ | with_reducible refine Fct.mk (fun hf => ?_)))
  · refine up0 (by omega) (by omega) (fun I2 μ2 p h0 h1 nx2 => ?_) (fun I2 μ2 => ?_)
    · have hi : inB c 0 63 = true := by simp [inB]; omega
      have hp : inB p 0 (a.places - 1) = true := by simp [inB]; omega
      obtain ⟨w1, w2⟩ := way_ok he hi hp (t := t)
      have hcov := stays_at he (c := c) (p := p) (t := t) (by omega) ⟨h0, h1⟩ (by omega)
      rw [← any_cov] at hcov
      rw [mem_where he (c := c) (p := p) (t := t) ⟨h0, h1⟩ (by omega), mem_holds he (c := c) (p := p) (t := t) ⟨h0, h1⟩ (by omega)]
      have e1 : decide (0 < ((wayS a c p t).length : Int)) = inT a c p t := by
        rw [Bool.eq_iff_iff, ← w1, decide_eq_true_eq]; omega
      simp only [e1]
      have e2 : inT a c p t = true → pvB a c p t (wayS a c p t) = true := fun h => w2 (w1.2 h)
      generalize inT a c p t = b at *
      generalize pvB a c p t (wayS a c p t) = pb at *
      (repeat' (first | with_reducible refine brn_nd (fun h => ?_) (fun h => ?_) | with_reducible refine brn_d (fun h => ?_) (fun h => ?_) | with_reducible refine brn_nn (fun h => ?_) (fun h => ?_) | with_reducible refine brn_nb (fun h => ?_) (fun h => ?_) | with_reducible refine Brn.mk (fun h => ?_) (fun h => ?_) | with_reducible refine Chk.mk ?_ ?_ | with_reducible refine Bth.mk ?_ ?_ | with_reducible refine Fct.mk (fun hf => ?_)))
      refine up2 (fun o z => o = ((staysS a c).take z.toNat).any (cvB p t)) (by omega) rfl (fun I3 μ3 o z g0 g1 hj nx3 => ?_) (fun I3 μ3 o hj => ?_)
      · obtain ⟨i, rfl, hi9⟩ := natz g0 g1
        have e1 : ((i : Int) + 1).toNat = i + 1 := by omega
        simp only [e1, Int.toNat_natCast] at nx3 hj
        rw [any_take (by omega), ← hj] at nx3
        unfold cvB at nx3
        clear hj
        generalize gt (staysS a c) (i : Int) = s at *
        (repeat' (first | with_reducible refine brn_nd (fun h => ?_) (fun h => ?_) | with_reducible refine brn_d (fun h => ?_) (fun h => ?_) | with_reducible refine brn_nn (fun h => ?_) (fun h => ?_) | with_reducible refine brn_nb (fun h => ?_) (fun h => ?_) | with_reducible refine Brn.mk (fun h => ?_) (fun h => ?_) | with_reducible refine Chk.mk ?_ ?_ | with_reducible refine Bth.mk ?_ ?_ | with_reducible refine Fct.mk (fun hf => ?_)))
        all_goals first | omega | (unfold InI; omega) | exact nx3 _ (by simp [*])
      · simp only [Int.toNat_natCast, List.take_length] at hj
        have hj : o = b := by rw [hj, Bool.eq_iff_iff]; exact hcov
        subst hj
        cases o with
        | true =>
          have := e2 rfl
          subst this
          (repeat' (first | with_reducible refine brn_nd (fun h => ?_) (fun h => ?_) | with_reducible refine brn_d (fun h => ?_) (fun h => ?_) | with_reducible refine brn_nn (fun h => ?_) (fun h => ?_) | with_reducible refine brn_nb (fun h => ?_) (fun h => ?_) | with_reducible refine Brn.mk (fun h => ?_) (fun h => ?_) | with_reducible refine Chk.mk ?_ ?_ | with_reducible refine Bth.mk ?_ ?_ | with_reducible refine Fct.mk (fun hf => ?_)))
          all_goals first | omega | (unfold InI; omega) | exact nx2 | (exfalso; simp_all; done)
        | false =>
          (repeat' (first | with_reducible refine brn_nd (fun h => ?_) (fun h => ?_) | with_reducible refine brn_d (fun h => ?_) (fun h => ?_) | with_reducible refine brn_nn (fun h => ?_) (fun h => ?_) | with_reducible refine brn_nb (fun h => ?_) (fun h => ?_) | with_reducible refine Brn.mk (fun h => ?_) (fun h => ?_) | with_reducible refine Chk.mk ?_ ?_ | with_reducible refine Bth.mk ?_ ?_ | with_reducible refine Fct.mk (fun hf => ?_)))
          all_goals first | omega | (unfold InI; omega) | exact nx2 | (exfalso; simp_all; done)
    · (repeat' (first | with_reducible refine brn_nd (fun h => ?_) (fun h => ?_) | with_reducible refine brn_d (fun h => ?_) (fun h => ?_) | with_reducible refine brn_nn (fun h => ?_) (fun h => ?_) | with_reducible refine brn_nb (fun h => ?_) (fun h => ?_) | with_reducible refine Brn.mk (fun h => ?_) (fun h => ?_) | with_reducible refine Chk.mk ?_ ?_ | with_reducible refine Bth.mk ?_ ?_ | with_reducible refine Fct.mk (fun hf => ?_)))
      · omega
      intro x hx
      (repeat' (first | with_reducible refine brn_nd (fun h => ?_) (fun h => ?_) | with_reducible refine brn_d (fun h => ?_) (fun h => ?_) | with_reducible refine brn_nn (fun h => ?_) (fun h => ?_) | with_reducible refine brn_nb (fun h => ?_) (fun h => ?_) | with_reducible refine Brn.mk (fun h => ?_) (fun h => ?_) | with_reducible refine Chk.mk ?_ ?_ | with_reducible refine Bth.mk ?_ ?_ | with_reducible refine Fct.mk (fun hf => ?_)))
      all_goals first | omega | (unfold InI; omega) | exact nx _ _ ht (by omega) (by omega)
  · rfl)
end Go.Proofs.Ytoflahjlnbligaa
