/- Archives: the reference's Format shown; bent, few. -/
import Derived.Test.YtbnmcdnkeipdhaaHc
set_option linter.all false
set_option maxRecDepth 20000
set_option maxHeartbeats 4000000
namespace Go.Proofs.Ytbnmcdnkeipdhaa
open Go.RowKit Go.Shelf
theorem rfmt_ic (l : List Ent) : ICp (l.length ≤ 1000 ∧ ∀ x ∈ l, x.nm.size ≤ 1000000000 ∧ x.dat.length ≤ 1000000000) 33 [ev l] (fun v => v = .tup [by_ (fmtS l), iv (valS l)]) := fun hl => (rfmt_V l _).2 (by
  (delta rfmt_V; dsimp only [mkV])
  (repeat' (first | with_reducible refine brn_nd (fun h => ?_) (fun h => ?_) | with_reducible refine brn_d (fun h => ?_) (fun h => ?_) | with_reducible refine brn_nn (fun h => ?_) (fun h => ?_) | with_reducible refine brn_nb (fun h => ?_) (fun h => ?_) | with_reducible refine Brn.mk (fun h => ?_) (fun h => ?_) | with_reducible refine Chk.mk ?_ ?_ | with_reducible refine Bth.mk ?_ ?_ | with_reducible refine Fct.mk (fun hf => ?_)))
  · exact hl
  · rw [fmtS, if_neg (by assumption)]; rfl
  have hv : valS l = 0 := by assumption
  obtain ⟨v1, v2, v3, v4⟩ := valS_ok hv
  have ets : ∀ z : Int, 0 ≤ z → z < l.length → l.take (z + 1).toNat = l.take z.toNat ++ [gt l z] := fun z h0 h1 => by
    rw [show (z + 1).toNat = z.toNat + 1 by omega, take_snoc (by omega), show ((z.toNat : Nat) : Int) = z by omega]
  simp only [shr16, shr8]
  refine lp2 (fun x z => 0 ≤ z ∧ z ≤ l.length ∧ x = [65, 82, 67, 49] ++ [(l.length : Int) % 256] ++ (l.take z.toNat).flatMap encE) (fun _ z => ((l.length : Int) - z).toNat) ⟨by omega, by omega, by simp⟩ ?_
  rintro I μ nx x z ⟨h0, h1', hx⟩
  by_cases h1 : z < l.length
  · have hm := gt_mem h0 h1
    obtain ⟨g1, g2, g3, g4⟩ := v4 _ hm
    have hlen : x.length ≤ 5 + 64 * 65581 := by
      have := encs_len (l := l.take z.toNat) fun x hx => by have := v4 x (List.mem_of_mem_take hx); exact ⟨this.2.1, this.2.2.2⟩
      rw [hx]
      simp only [List.length_append, List.length_cons, List.length_nil]
      rw [List.length_take] at this
      omega
    have hB := bytI_len (gt l z).nm
    have hfin : ∀ t, (if (packS (gt l z).dat [] []).length < (gt l z).dat.length then [1] ++ packS (gt l z).dat [] [] else [0] ++ (gt l z).dat) = t → x ++ [((gt l z).nm.size : Int) % 256] ++ bytI (gt l z).nm ++ threeS (gt l z).dat.length ++ t = [65, 82, 67, 49] ++ [(l.length : Int) % 256] ++ (l.take (z + 1).toNat).flatMap encE := fun t ht => by
      rw [ets z h0 h1, hx, List.flatMap_append, List.flatMap_singleton, encE, ht]
      simp only [List.append_assoc]
    (repeat' (first | with_reducible refine brn_nd (fun h => ?_) (fun h => ?_) | with_reducible refine brn_d (fun h => ?_) (fun h => ?_) | with_reducible refine brn_nn (fun h => ?_) (fun h => ?_) | with_reducible refine brn_nb (fun h => ?_) (fun h => ?_) | with_reducible refine Brn.mk (fun h => ?_) (fun h => ?_) | with_reducible refine Chk.mk ?_ ?_ | with_reducible refine Bth.mk ?_ ?_ | with_reducible refine Fct.mk (fun hf => ?_)))
    all_goals first | omega | (simp only [List.length_append, List.length_cons, List.length_nil]; omega) | (unfold InI; omega) | skip
    · refine nx _ _ _ _ ⟨h0, h1', hx⟩ ⟨by omega, by omega, ?_⟩ (by omega)
      rw [List.append_assoc _ [1]]
      exact hfin _ (if_pos (by omega))
    · refine nx _ _ _ _ ⟨h0, h1', hx⟩ ⟨by omega, by omega, ?_⟩ (by omega)
      rw [List.append_assoc _ [0]]
      exact hfin _ (if_neg (by omega))
  · rw [List.take_of_length_le (by omega)] at hx
    (repeat' (first | with_reducible refine brn_nd (fun h => ?_) (fun h => ?_) | with_reducible refine brn_d (fun h => ?_) (fun h => ?_) | with_reducible refine brn_nn (fun h => ?_) (fun h => ?_) | with_reducible refine brn_nb (fun h => ?_) (fun h => ?_) | with_reducible refine Brn.mk (fun h => ?_) (fun h => ?_) | with_reducible refine Chk.mk ?_ ?_ | with_reducible refine Bth.mk ?_ ?_ | with_reducible refine Fct.mk (fun hf => ?_)))
    all_goals (try omega)
    rw [fmtS, if_pos hv, hx, hv]; rfl)

end Go.Proofs.Ytbnmcdnkeipdhaa
