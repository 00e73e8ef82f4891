/- CopiesCut, shown. -/
import Derived.Test.YtoflahjlnbligaaCkCut
set_option linter.all false
set_option maxRecDepth 20000
set_option maxHeartbeats 4000000
namespace Go.Proofs.Ytoflahjlnbligaa
open Go.RowKit Go.Shelf
theorem any_take {α : Type} [Inhabited α] {l : List α} {q : α → Bool} {i : Nat} (h : i < l.length) : (l.take (i + 1)).any q = ((l.take i).any q || q (gt l (i : Int))) := by
  rw [take_snoc h, List.any_append]; simp
theorem fil_take {α : Type} [Inhabited α] {l : List α} {q : α → Bool} {i : Nat} (h : i < l.length) : (l.take (i + 1)).filter q = if q (gt l (i : Int)) = true then (l.take i).filter q ++ [gt l (i : Int)] else (l.take i).filter q := by
  rw [take_snoc h, List.filter_append, List.filter_cons, List.filter_nil]; split <;> simp
theorem cut_il (l : List Int) : ILt 4 [lv l] := (lawCut_V l).2 (by
  (delta lawCut_V; dsimp only [mkV])
  (repeat' (first | with_reducible refine brn_nd (fun h => ?_) (fun h => ?_) | with_reducible refine brn_d (fun h => ?_) (fun h => ?_) | with_reducible refine brn_nn (fun h => ?_) (fun h => ?_) | with_reducible refine brn_nb (fun h => ?_) (fun h => ?_) | with_reducible refine Brn.mk (fun h => ?_) (fun h => ?_) | with_reducible refine Chk.mk ?_ ?_ | with_reducible refine Bth.mk ?_ ?_ | with_reducible refine Fct.mk (fun hf => ?_)))
  · rfl
  intro d hd
  (repeat' (first | with_reducible refine brn_nd (fun h => ?_) (fun h => ?_) | with_reducible refine brn_d (fun h => ?_) (fun h => ?_) | with_reducible refine brn_nn (fun h => ?_) (fun h => ?_) | with_reducible refine brn_nb (fun h => ?_) (fun h => ?_) | with_reducible refine Brn.mk (fun h => ?_) (fun h => ?_) | with_reducible refine Chk.mk ?_ ?_ | with_reducible refine Bth.mk ?_ ?_ | with_reducible refine Fct.mk (fun hf => ?_)))
  · have := hd.n; omega
  intro a ha
  have he := ha.v
  have hpl := estB_iff.1 he
  (repeat' (first | with_reducible refine brn_nd (fun h => ?_) (fun h => ?_) | with_reducible refine brn_d (fun h => ?_) (fun h => ?_) | with_reducible refine brn_nn (fun h => ?_) (fun h => ?_) | with_reducible refine brn_nb (fun h => ?_) (fun h => ?_) | with_reducible refine Brn.mk (fun h => ?_) (fun h => ?_) | with_reducible refine Chk.mk ?_ ?_ | with_reducible refine Bth.mk ?_ ?_ | with_reducible refine Fct.mk (fun hf => ?_)))
  · omega
  intro t ht
  (repeat' (first | with_reducible refine brn_nd (fun h => ?_) (fun h => ?_) | with_reducible refine brn_d (fun h => ?_) (fun h => ?_) | with_reducible refine brn_nn (fun h => ?_) (fun h => ?_) | with_reducible refine brn_nb (fun h => ?_) (fun h => ?_) | with_reducible refine Brn.mk (fun h => ?_) (fun h => ?_) | with_reducible refine Chk.mk ?_ ?_ | with_reducible refine Bth.mk ?_ ?_ | with_reducible refine Fct.mk (fun hf => ?_)))
  refine up3 (fun o n z => n = a.places ∧ o.length ≤ z.toNat ∧ o = (a.evs.take z.toNat).filter fun x => decide (x.time ≤ t)) (by omega) ⟨rfl, by simp, rfl⟩ (fun I μ o n z h0 h1 hj nx => ?_) (fun I μ o n hj => ?_)
  · obtain ⟨i, rfl, hi9⟩ := natz h0 h1
    have e1 : ((i : Int) + 1).toNat = i + 1 := by omega
    simp only [e1, Int.toNat_natCast] at nx hj
    obtain ⟨rfl, hl, hj⟩ := hj
    rw [fil_take (by omega), ← hj] at nx
    clear hj
    (repeat' (first | with_reducible refine brn_nd (fun h => ?_) (fun h => ?_) | with_reducible refine brn_d (fun h => ?_) (fun h => ?_) | with_reducible refine brn_nn (fun h => ?_) (fun h => ?_) | with_reducible refine brn_nb (fun h => ?_) (fun h => ?_) | with_reducible refine Brn.mk (fun h => ?_) (fun h => ?_) | with_reducible refine Chk.mk ?_ ?_ | with_reducible refine Bth.mk ?_ ?_ | with_reducible refine Fct.mk (fun hf => ?_)))
    · omega
    · simp; omega
    · unfold InI; omega
    · refine nx _ _ ⟨rfl, by simp; omega, ?_⟩
      rw [if_pos (decide_eq_true (by assumption))]
    · unfold InI; omega
    · refine nx _ _ ⟨rfl, by omega, ?_⟩
      rw [if_neg (by simp; omega)]
  · obtain ⟨rfl, _, hj⟩ := hj
    simp only [Int.toNat_natCast, List.take_length] at hj
    have hcut : (⟨a.places, o⟩ : Est) = cutE a t := by rw [hj]; rfl
    refine up0 (by omega) (by omega) (fun I2 μ2 c g0 g1 nx2 => ?_) (fun I2 μ2 => ?_)
    · have c1 := cut_where he (t := t) (u := t) (Int.le_refl _) c
      have c2 := cut_where he (t := t) (u := t + 9) (by omega) c
      have n1 : putB a c = false → staysS a c = [] := fun h => stays_nil fun p u hp => no_put_in he h p u hp
      have n2 : putB a c = false → whereS a c t = [] := fun h => where_nil fun p hp => no_put_in he h p t hp
      simp only [hcut, c1, c2]
      (repeat' (first | with_reducible refine brn_nd (fun h => ?_) (fun h => ?_) | with_reducible refine brn_d (fun h => ?_) (fun h => ?_) | with_reducible refine brn_nn (fun h => ?_) (fun h => ?_) | with_reducible refine brn_nb (fun h => ?_) (fun h => ?_) | with_reducible refine Brn.mk (fun h => ?_) (fun h => ?_) | with_reducible refine Chk.mk ?_ ?_ | with_reducible refine Bth.mk ?_ ?_ | with_reducible refine Fct.mk (fun hf => ?_)))
      refine up2 (fun b z => b = (a.evs.take z.toNat).any fun x => decide (x.kind = 5 ∧ x.cont = c)) (by omega) rfl (fun I3 μ3 b z k0 k1 hj nx3 => ?_) (fun I3 μ3 b hj => ?_)
      · obtain ⟨i, rfl, hi9⟩ := natz k0 k1
        have e1 : ((i : Int) + 1).toNat = i + 1 := by omega
        simp only [e1, Int.toNat_natCast] at nx3 hj
        rw [any_take (by omega), ← hj] at nx3
        clear hj
        generalize gt a.evs (i : Int) = x at *
        (repeat' (first | with_reducible refine brn_nd (fun h => ?_) (fun h => ?_) | with_reducible refine brn_d (fun h => ?_) (fun h => ?_) | with_reducible refine brn_nn (fun h => ?_) (fun h => ?_) | with_reducible refine brn_nb (fun h => ?_) (fun h => ?_) | with_reducible refine Brn.mk (fun h => ?_) (fun h => ?_) | with_reducible refine Chk.mk ?_ ?_ | with_reducible refine Bth.mk ?_ ?_ | with_reducible refine Fct.mk (fun hf => ?_)))
        all_goals first | omega | (unfold InI; omega) | exact nx3 _ (by simp [*])
      · simp only [Int.toNat_natCast, List.take_length] at hj
        change b = putB a c at hj
        cases b with
        | true =>
          (repeat' (first | with_reducible refine brn_nd (fun h => ?_) (fun h => ?_) | with_reducible refine brn_d (fun h => ?_) (fun h => ?_) | with_reducible refine brn_nn (fun h => ?_) (fun h => ?_) | with_reducible refine brn_nb (fun h => ?_) (fun h => ?_) | with_reducible refine Brn.mk (fun h => ?_) (fun h => ?_) | with_reducible refine Chk.mk ?_ ?_ | with_reducible refine Bth.mk ?_ ?_ | with_reducible refine Fct.mk (fun hf => ?_)))
          all_goals first | omega | (unfold InI; omega) | exact nx2 | (exfalso; simp_all; done)
        | false =>
          rw [n1 hj.symm, n2 hj.symm]
          (repeat' (first | with_reducible refine brn_nd (fun h => ?_) (fun h => ?_) | with_reducible refine brn_d (fun h => ?_) (fun h => ?_) | with_reducible refine brn_nn (fun h => ?_) (fun h => ?_) | with_reducible refine brn_nb (fun h => ?_) (fun h => ?_) | with_reducible refine Brn.mk (fun h => ?_) (fun h => ?_) | with_reducible refine Chk.mk ?_ ?_ | with_reducible refine Bth.mk ?_ ?_ | with_reducible refine Fct.mk (fun hf => ?_)))
          all_goals first | omega | (unfold InI; omega) | exact nx2 | (exfalso; simp_all; done)
    · rfl)
end Go.Proofs.Ytoflahjlnbligaa
