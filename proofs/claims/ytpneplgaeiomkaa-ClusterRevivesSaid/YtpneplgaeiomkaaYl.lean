/- ClusterRevives, shown. -/
import Derived.Test.YtpneplgaeiomkaaYj
import Derived.Test.YtpneplgaeiomkaaYkRevives
set_option linter.all false
set_option maxRecDepth 20000
set_option maxHeartbeats 4000000
namespace Go.Proofs.Ytpneplgaeiomkaa
open Go.RowKit Go.Shelf
def R36 (x z : Nat) : Cl := ⟨false, [1, 2], List.replicate z ⟨1, true⟩ ++ List.replicate (x - z) ⟨0, true⟩, [0]⟩
theorem R36_new : ∀ x : Fin 4, 1 ≤ x.val → newC (x.val : Int) 1 false = ⟨false, [1], List.replicate x.val ⟨0, true⟩, []⟩ := by decide +kernel
theorem R36_start : ∀ x : Fin 4, ∀ i : Fin 4, i.val < x.val → runS (newC (x.val : Int) 1 false) [⟨3, (i.val : Int), 0, 0⟩, ⟨1, 0, 0, 2⟩] = (R36 x.val 0, 2, 0) := by decide +kernel
theorem R36_step : ∀ x : Fin 4, ∀ z : Fin 4, z.val < x.val → applyC (R36 x.val z.val) ⟨2, (z.val : Int), 0, 0⟩ = R36 x.val (z.val + 1) := by decide +kernel
theorem R36_end : ∀ x : Fin 4, 1 ≤ x.val → deadS (R36 x.val x.val) 1 = true ∧ (revS (R36 x.val x.val) 1).2 = true ∧ 0 < (revS (R36 x.val x.val) 1).1.length ∧ aliveS (R36 x.val x.val) 1 (revS (R36 x.val x.val) 1).1 = true := by decide +kernel
theorem revives_il (l : List Int) : ILt 8 [lv l] := (lawRevives_V l).2 (by
  (delta lawRevives_V; dsimp only [mkV])
  simp only [Cl.eta, XvR.eta]
  (repeat' (first | with_reducible refine brn_nd (fun h => ?_) (fun h => ?_) | with_reducible refine brn_d (fun h => ?_) (fun h => ?_) | with_reducible refine brn_nn (fun h => ?_) (fun h => ?_) | with_reducible refine brn_nb (fun h => ?_) (fun h => ?_) | with_reducible refine Brn.mk (fun h => ?_) (fun h => ?_) | with_reducible refine Chk.mk ?_ ?_ | with_reducible refine Bth.mk ?_ ?_ | with_reducible refine Fct.mk (fun hf => ?_)))
  · trivial
  · omega
  intro y hy
  obtain ⟨x, hx, rfl⟩ : ∃ x : Nat, x ≤ 3 ∧ y = x := ⟨y.toNat, by omega, by omega⟩
  have hnew := R36_new ⟨x, by omega⟩ (by show 1 ≤ x; omega)
  have hlen : (newC (x : Int) 1 false).reps.length = x := by rw [hnew]; simp
  (repeat' (first | with_reducible refine brn_nd (fun h => ?_) (fun h => ?_) | with_reducible refine brn_d (fun h => ?_) (fun h => ?_) | with_reducible refine brn_nn (fun h => ?_) (fun h => ?_) | with_reducible refine brn_nb (fun h => ?_) (fun h => ?_) | with_reducible refine Brn.mk (fun h => ?_) (fun h => ?_) | with_reducible refine Chk.mk ?_ ?_ | with_reducible refine Bth.mk ?_ ?_ | with_reducible refine Fct.mk (fun hf => ?_)))
  · omega
  intro j hj
  obtain ⟨i, hi, rfl⟩ : ∃ i : Nat, i < x ∧ j = i := ⟨j.toNat, by omega, by omega⟩
  have hst := R36_start ⟨x, by omega⟩ ⟨i, by omega⟩ hi
  simp only at hst
  simp only [hst]
  have hr : ∀ z, z ≤ x → (R36 x z).reps.length = x := fun z hz => by unfold R36; simp; omega
  simp only [hr 0 (by omega)]
  (repeat' (first | with_reducible refine brn_nd (fun h => ?_) (fun h => ?_) | with_reducible refine brn_d (fun h => ?_) (fun h => ?_) | with_reducible refine brn_nn (fun h => ?_) (fun h => ?_) | with_reducible refine brn_nb (fun h => ?_) (fun h => ?_) | with_reducible refine Brn.mk (fun h => ?_) (fun h => ?_) | with_reducible refine Chk.mk ?_ ?_ | with_reducible refine Bth.mk ?_ ?_ | with_reducible refine Fct.mk (fun hf => ?_)))
  refine ⟨fun x1 x2 x3 x4 z => 0 ≤ z ∧ z ≤ x ∧ (⟨x1, x2, x3, x4⟩ : Cl) = R36 x z.toNat, fun _ _ _ _ z => (x - z).toNat, ⟨by omega, by omega, rfl⟩, fun x1 x2 x3 x4 z ⟨z0, z1, he⟩ => ?_⟩
  simp only [he]
  by_cases hlt : z < x
  · obtain ⟨z, rfl⟩ : ∃ z' : Nat, z = z' := ⟨z.toNat, by omega⟩
    have hstep := R36_step ⟨x, by omega⟩ ⟨z, by omega⟩ (by show z < x; omega)
    simp only at hstep
    simp only [Int.toNat_natCast, hstep]
    (repeat' (first | with_reducible refine brn_nd (fun h => ?_) (fun h => ?_) | with_reducible refine brn_d (fun h => ?_) (fun h => ?_) | with_reducible refine brn_nn (fun h => ?_) (fun h => ?_) | with_reducible refine brn_nb (fun h => ?_) (fun h => ?_) | with_reducible refine Brn.mk (fun h => ?_) (fun h => ?_) | with_reducible refine Chk.mk ?_ ?_ | with_reducible refine Bth.mk ?_ ?_ | with_reducible refine Fct.mk (fun hf => ?_)))
    · unfold InI; omega
    · exact ⟨⟨by omega, by omega, by rw [show ((z : Int) + 1).toNat = z + 1 by omega]⟩, by first | omega | (dsimp only; omega)⟩
    all_goals (exfalso; omega)
  · have hz : z.toNat = x := by omega
    rw [hz]
    obtain ⟨q1, q2, q3, q4⟩ := R36_end ⟨x, by omega⟩ (by show 1 ≤ x; omega)
    simp only at q1 q2 q3 q4
    (repeat' (first | with_reducible refine brn_nd (fun h => ?_) (fun h => ?_) | with_reducible refine brn_d (fun h => ?_) (fun h => ?_) | with_reducible refine brn_nn (fun h => ?_) (fun h => ?_) | with_reducible refine brn_nb (fun h => ?_) (fun h => ?_) | with_reducible refine Brn.mk (fun h => ?_) (fun h => ?_) | with_reducible refine Chk.mk ?_ ?_ | with_reducible refine Bth.mk ?_ ?_ | with_reducible refine Fct.mk (fun hf => ?_)))
    all_goals first | trivial | (exfalso; omega) | (exfalso; simp_all; done) | trace_state)
end Go.Proofs.Ytpneplgaeiomkaa
