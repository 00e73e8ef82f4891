/- Archives: unpack, shown. -/
import Derived.Test.YtbnmcdnkeipdhaaFg
set_option linter.all false
set_option maxRecDepth 20000
set_option maxHeartbeats 4000000
namespace Go.Proofs.Ytbnmcdnkeipdhaa
open Go.RowKit Go.Shelf
theorem unp_ic (b : List Int) (size : Int) : ICp (size ≤ 16777216) 90 [by_ b, iv size] (fun v => v = .tup [by_ (unpS b [] size).1, by_ (unpS b [] size).2.1, bv (unpS b [] size).2.2]) := fun hs => (unp_V b size _).2 (by
  (delta unp_V; dsimp only [mkV])
  (repeat' (first | with_reducible refine brn_nd (fun h => ?_) (fun h => ?_) | with_reducible refine brn_d (fun h => ?_) (fun h => ?_) | with_reducible refine brn_nn (fun h => ?_) (fun h => ?_) | with_reducible refine brn_nb (fun h => ?_) (fun h => ?_) | with_reducible refine Brn.mk (fun h => ?_) (fun h => ?_) | with_reducible refine Chk.mk ?_ ?_ | with_reducible refine Bth.mk ?_ ?_ | with_reducible refine Fct.mk (fun hf => ?_)))
  have hb : InB b := InB_ok (by assumption : b.length ≤ _ ∧ _).2
  refine lp2 (fun data c => unpS c data size = unpS b [] size ∧ InB c ∧ (data.length : Int) ≤ 16777216 + 130 ∧ c.length ≤ b.length) (fun _ c => c.length) ⟨rfl, hb, by simp, Nat.le_refl _⟩ ?_
  rintro I μ nx data c ⟨h1, h2, h3, h4⟩
  have h0 := fun (h : 0 < c.length) => InB_gt h2 (i := 0) (by omega) (by omega)
  have hpl : ∀ n : Int, 1 ≤ n → n ≤ c.length → part c 1 n = (c.drop 1).take (n.toNat - 1) := fun n q1 q2 => by
    unfold part
    rw [List.drop_take]; rfl
  have hu := unpS.eq_def c data size
  (repeat' (first | with_reducible refine brn_nd (fun h => ?_) (fun h => ?_) | with_reducible refine brn_d (fun h => ?_) (fun h => ?_) | with_reducible refine brn_nn (fun h => ?_) (fun h => ?_) | with_reducible refine brn_nb (fun h => ?_) (fun h => ?_) | with_reducible refine Brn.mk (fun h => ?_) (fun h => ?_) | with_reducible refine Chk.mk ?_ ?_ | with_reducible refine Bth.mk ?_ ?_ | with_reducible refine Fct.mk (fun hf => ?_)))
  · rw [if_pos (by assumption), dif_pos (by omega)] at hu
    rw [← h1, hu]; rfl
  · omega
  · have := h0 (by omega); unfold InI; omega
  · have := h0 (by omega); unfold InI; omega
  · rw [if_pos (by assumption), dif_neg (by omega), if_pos (by assumption), if_pos (by omega)] at hu
    rw [← h1, hu]; rfl
  · have := h0 (by omega); omega
  · have := h0 (by omega); omega
  · have := h0 (by omega)
    rw [hpl _ (by omega) (by omega), List.length_take, List.length_drop]; omega
  · have hc0 := h0 (by omega)
    rw [if_pos (by assumption), dif_neg (by omega), if_pos (by assumption), if_neg (by omega)] at hu
    rw [hpl _ (by omega) (by omega), show (gt c 0 + 2).toNat = (gt c 0).toNat + 2 by omega, show (gt c 0).toNat + 2 - 1 = (gt c 0).toNat + 1 by omega]
    exact nx _ _ _ _ ⟨h1, h2, h3, h4⟩ ⟨hu ▸ h1, InB_drop _ h2, by rw [List.length_append, List.length_take, List.length_drop]; omega, by rw [List.length_drop]; omega⟩ (by rw [List.length_drop]; omega)
  · omega
  · omega
  · have := h0 (by omega); unfold InI; omega
  · have := h0 (by omega)
    rw [hpl _ (by omega) (by omega), List.length_take, List.length_drop]; omega
  · have := h0 (by omega)
    rw [List.length_replicate]; omega
  · have hc0 := h0 (by omega)
    rw [if_pos (by assumption), dif_neg (by omega), if_neg (by assumption)] at hu
    have hg : gt (part c 1 2) 0 = gt c 1 := by
      rw [hpl 2 (by omega) (by omega)]
      match c, (show ¬ ((c.length : Int) < 2) by omega) with
      | [], q => simp at q
      | [_], q => simp at q
      | a :: e :: r, _ => rfl
    rw [hg]
    exact nx _ _ _ _ ⟨h1, h2, h3, h4⟩ ⟨hu ▸ h1, InB_drop _ h2, by rw [List.length_append, List.length_replicate]; omega, by rw [List.length_drop]; omega⟩ (by rw [List.length_drop, show Int.toNat 2 = 2 from rfl]; omega)
  · rw [if_neg (by assumption)] at hu
    rw [← h1, hu])
end Go.Proofs.Ytbnmcdnkeipdhaa
