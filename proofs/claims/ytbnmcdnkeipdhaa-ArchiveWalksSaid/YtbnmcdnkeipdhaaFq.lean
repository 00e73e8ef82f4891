/- Archives: bytes are packed, shown. -/
import Derived.Test.YtbnmcdnkeipdhaaFp
set_option linter.all false
set_option maxRecDepth 20000
set_option maxHeartbeats 4000000
namespace Go.Proofs.Ytbnmcdnkeipdhaa
open Go.RowKit Go.Shelf
theorem upto_zero (m : Nat) : upto (m + 1) = 0 :: (upto m).map (· + 1) := List.range_succ_eq_map
theorem pcB_zero (l : List Int) : pcB l 0 = (((min 128 l.length : Nat) : Int) - 1) % 256 :: l.take 128 := by simp [pcB, pcN]
theorem pcB_succ (l : List Int) (k : Nat) : pcB l (k + 1) = pcB (l.drop 128) k := by
  unfold pcB pcN
  rw [List.length_drop, List.drop_drop, show l.length - 128 * (k + 1) = l.length - 128 - 128 * k by omega, show 128 * (k + 1) = 128 + 128 * k by omega]
theorem plS_nil : plS [] = [] := rfl
theorem plS_cons {l : List Int} (h : l ≠ []) : plS l = (((min 128 l.length : Nat) : Int) - 1) % 256 :: l.take 128 ++ plS (l.drop 128) := by
  have hl : 0 < l.length := List.length_pos_iff.2 h
  unfold plS
  obtain ⟨m, hm⟩ : ∃ m, (l.length + 127) / 128 = m + 1 := ⟨(l.length + 127) / 128 - 1, by omega⟩
  have hm2 : ((l.drop 128).length + 127) / 128 = m := by rw [List.length_drop]; omega
  rw [hm, hm2, upto_zero]
  unfold outB
  rw [List.flatMap_cons, pcB_zero, List.flatMap_map]
  rw [show (fun a => pcB l (a + 1)) = pcB (l.drop 128) from funext (pcB_succ l)]
theorem plS_len (l : List Int) : (plS l).length ≤ 2 * l.length := by
  by_cases h : l = []
  · subst h; rw [plS_nil]; exact Nat.zero_le _
  · rw [plS_cons h]
    have hl : 0 < l.length := List.length_pos_iff.2 h
    have ih := plS_len (l.drop 128)
    rw [List.length_drop] at ih
    simp only [List.length_append, List.length_cons, List.length_take]
    omega
termination_by l.length
decreasing_by (have := List.length_pos_iff.2 h; simp; omega)
def eqB (x : Int) (n : Nat) : List Int := if h : 3 ≤ n then (((min n 130 : Nat) : Int) + 125) :: x :: eqB x (n - min n 130) else []
termination_by n
decreasing_by omega
def eqR (n : Nat) : Nat := if h : 3 ≤ n then eqR (n - min n 130) else n
termination_by n
decreasing_by omega
def packS (b out wait : List Int) : List Int :=
  if h : b = [] then out ++ plS wait
  else if 3 ≤ rowS b then packS (b.drop (rowS b)) (out ++ plS wait ++ eqB (gt b 0) (rowS b)) ((b.drop (rowS b - eqR (rowS b))).take (eqR (rowS b)))
  else packS (b.drop (rowS b)) out (wait ++ b.take (rowS b))
termination_by b.length
decreasing_by all_goals (have := rowS_le (List.length_pos_iff.2 h); simp; omega)
theorem eqR_le (n : Nat) : eqR n ≤ n := by
  rw [eqR]
  split
  · have := eqR_le (n - min n 130); omega
  · exact Nat.le_refl _
termination_by n
decreasing_by omega
theorem eqB_len (x : Int) (n : Nat) : (eqB x n).length + eqR n ≤ n := by
  rw [eqB, eqR]
  split
  · have := eqB_len x (n - min n 130)
    simp only [List.length_cons]; omega
  · simp
termination_by n
decreasing_by omega
theorem part_l (c : List Int) (n r : Nat) (h : r ≤ n) : (c.take n).drop (n - r) = (c.drop (n - r)).take r := by
  rw [List.drop_take, show n - (n - r) = r by omega]
theorem pack_ic (b : List Int) : ICp (b.length ≤ 1000000) 63 [by_ b] (fun v => v = by_ (packS b [] [])) := fun hl => (pack_V b _).2 (by
  (delta pack_V; dsimp only [mkV])
  (repeat' (first | with_reducible refine brn_nd (fun h => ?_) (fun h => ?_) | with_reducible refine brn_d (fun h => ?_) (fun h => ?_) | with_reducible refine brn_nn (fun h => ?_) (fun h => ?_) | with_reducible refine brn_nb (fun h => ?_) (fun h => ?_) | with_reducible refine Brn.mk (fun h => ?_) (fun h => ?_) | with_reducible refine Chk.mk ?_ ?_ | with_reducible refine Bth.mk ?_ ?_ | with_reducible refine Fct.mk (fun hf => ?_)))
  refine lp3 (fun out wait c => packS c out wait = packS b [] [] ∧ out.length + 2 * wait.length + 2 * c.length ≤ 2 * b.length) (fun _ _ c => c.length) ⟨rfl, by simp⟩ ?_
  rintro I μ nx out wait c ⟨h1, h2⟩
  have hw := plS_len wait
  have hr := fun h : 0 < c.length => rowS_le h
  have hu := packS.eq_def c out wait
  (repeat' (first | with_reducible refine brn_nd (fun h => ?_) (fun h => ?_) | with_reducible refine brn_d (fun h => ?_) (fun h => ?_) | with_reducible refine brn_nn (fun h => ?_) (fun h => ?_) | with_reducible refine brn_nb (fun h => ?_) (fun h => ?_) | with_reducible refine Brn.mk (fun h => ?_) (fun h => ?_) | with_reducible refine Chk.mk ?_ ?_ | with_reducible refine Bth.mk ?_ ?_ | with_reducible refine Fct.mk (fun hf => ?_)))
  · omega
  · omega
  · omega
  · have hr0 := hr (by omega)
    have hne : c ≠ [] := fun e => by subst e; simp at hr0; omega
    rw [dif_neg hne, if_pos (by omega)] at hu
    refine lp2 (fun o r => ∃ k : Nat, r = k ∧ k ≤ rowS c ∧ o ++ eqB (gt c 0) k = out ++ plS wait ++ eqB (gt c 0) (rowS c) ∧ eqR k = eqR (rowS c) ∧ o.length + k ≤ out.length + (plS wait).length + rowS c) (fun _ r => r.toNat) ⟨rowS c, rfl, Nat.le_refl _, rfl, rfl, by simp⟩ ?_
    rintro I2 μ2 nx2 o r ⟨k, rfl, k1, k2, k3, k4⟩
    (repeat' (first | with_reducible refine brn_nd (fun h => ?_) (fun h => ?_) | with_reducible refine brn_d (fun h => ?_) (fun h => ?_) | with_reducible refine brn_nn (fun h => ?_) (fun h => ?_) | with_reducible refine brn_nb (fun h => ?_) (fun h => ?_) | with_reducible refine Brn.mk (fun h => ?_) (fun h => ?_) | with_reducible refine Chk.mk ?_ ?_ | with_reducible refine Bth.mk ?_ ?_ | with_reducible refine Fct.mk (fun hf => ?_)))
    · unfold InI; omega
    · omega
    · simp; omega
    · unfold InI; omega
    · have e1 : min (k : Int) 130 = ((min k 130 : Nat) : Int) := by omega
      have e2 : (((min k 130 : Nat) : Int) + 125) % 256 = ((min k 130 : Nat) : Int) + 125 := by omega
      have k3' := k3
      have k2' := k2
      rw [eqB, dif_pos (by omega)] at k2'
      rw [eqR, dif_pos (by omega)] at k3'
      rw [e1, e2]
      refine nx2 _ _ _ _ ⟨k, rfl, k1, k2, k3, k4⟩ ⟨k - min k 130, by omega, by omega, ?_, k3', by simp; omega⟩ (by omega)
      rw [← k2']; simp
    all_goals (have hlt : ¬ 3 ≤ k := by omega)
    all_goals (have e3 : eqR k = k := by rw [eqR, dif_neg hlt])
    all_goals (have e4 : eqB (gt c 0) k = [] := by rw [eqB, dif_neg hlt])
    · unfold InI; omega
    · omega
    · unfold part; simp; omega
    · omega
    · rw [e4, List.append_nil] at k2
      have ep : part c ((rowS c : Int) - k) (rowS c) = (c.drop (rowS c - eqR (rowS c))).take (eqR (rowS c)) := by
        unfold part
        rw [← k3, e3, show ((rowS c : Int)).toNat = rowS c by omega, show ((rowS c : Int) - k).toNat = rowS c - k by omega, part_l _ _ _ k1]
      have hb := eqB_len (gt c 0) (rowS c)
      rw [ep, show ((rowS c : Int)).toNat = rowS c by omega]
      have hol : o.length = out.length + (plS wait).length + (eqB (gt c 0) (rowS c)).length := by rw [k2]; simp; omega
      refine nx _ _ _ _ _ _ ⟨h1, h2⟩ ⟨by rw [k2, ← hu, h1], ?_⟩ (by simp; omega)
      simp only [List.length_take, List.length_drop]; omega
  · unfold InI; omega
  · have := hr (by omega); omega
  · have := hr (by omega); unfold part; simp; omega
  · have := hr (by omega); omega
  · have hr0 := hr (by omega)
    have hne : c ≠ [] := fun e => by subst e; simp at hr0; omega
    rw [dif_neg hne, if_neg (by omega)] at hu
    have ep : part c ((rowS c : Int) - rowS c) (rowS c) = c.take (rowS c) := by
      unfold part
      rw [show ((rowS c : Int)).toNat = rowS c by omega, show ((rowS c : Int) - rowS c).toNat = 0 by omega]; rfl
    rw [ep, show ((rowS c : Int)).toNat = rowS c by omega]
    refine nx _ _ _ _ _ _ ⟨h1, h2⟩ ⟨by rw [← hu, h1], ?_⟩ (by simp; omega)
    simp only [List.length_append, List.length_take, List.length_drop]; omega
  · omega
  · omega
  · have hce : c = [] := List.eq_nil_of_length_eq_zero (by omega)
    rw [dif_pos hce] at hu
    rw [← h1, hu])
end Go.Proofs.Ytbnmcdnkeipdhaa
