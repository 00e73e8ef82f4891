/- Archives: the law ArchiveForms, shown. -/
import Derived.Test.YtbnmcdnkeipdhaaFvForms
set_option linter.all false
set_option maxRecDepth 20000
set_option maxHeartbeats 4000000
namespace Go.Proofs.Ytbnmcdnkeipdhaa
open Go.RowKit Go.Shelf
theorem and63 (x : Int) : 0 ≤ bits .and .i64 x 63 ∧ bits .and .i64 x 63 ≤ 63 := by
  have h0 : bits .and .i64 x 63 = IntKind.i64.wrap ((BitVec.ofInt 64 x &&& BitVec.ofInt 64 63).toNat : Int) := rfl
  have h1 : (BitVec.ofInt 64 x &&& BitVec.ofInt 64 63).toNat ≤ 63 := by
    rw [BitVec.toNat_and]
    exact Nat.le_trans Nat.and_le_right (by decide)
  rw [h0, Go.IntWalk.i64_in _ (by omega)]
  omega
def byB (l : List Int) : List Int := l.flatMap fun y => [0, y]
theorem byB_len (l : List Int) : (byB l).length = 2 * l.length := by
  induction l with
  | nil => rfl
  | cons y l ih => unfold byB at ih ⊢; rw [List.flatMap_cons, List.length_append, ih]; simp; omega
theorem byB_snoc (l : List Int) (y : Int) : byB (l ++ [y]) = byB l ++ [0, y] := by unfold byB; simp
theorem Dec.by (l : List Int) : Dec (byB l) l := by
  induction l with
  | nil => exact .nil
  | cons y l ih => exact (Dec.lit (xs := [y]) (n := 1) (by omega) (by omega) rfl).app ih
theorem dtR_one {d p : List Int} (hp : Dec p d) (rest : List Int) (left : Int) (h : (d.length : Int) ≤ left) (h1 : left ≤ 65536) : dtR (threeS d.length ++ ([1] ++ (p ++ rest))) false left = (d, rest, false) := by
  obtain ⟨a1, a2, a3⟩ := tk_app (threeS d.length) ([1] ++ (p ++ rest)) (n := 3) rfl
  have hN : dtN (threeS d.length ++ ([1] ++ (p ++ rest))) false = d.length := by unfold dtN; rw [a2, numI_three (by omega) (by omega)]
  obtain ⟨b1, b2, b3⟩ := tk_app [1] (p ++ rest) (n := 1) rfl
  have hF : dtF (threeS d.length ++ ([1] ++ (p ++ rest))) false = 1 := by unfold dtF; rw [a3, a1, b2]; rfl
  have hB : dtB (threeS d.length ++ ([1] ++ (p ++ rest))) false = p ++ rest := by unfold dtB; rw [a3, a1, b3]
  have hW : dtW (threeS d.length ++ ([1] ++ (p ++ rest))) false = false := by unfold dtW; rw [a3, a1, b1]
  have hu : unpS (p ++ rest) [] d.length = (d, rest, true) := by
    rw [hp rest [] d.length (by simp), List.nil_append, unpS, if_neg (by omega)]
    simp
  rw [dtR, if_neg (by rw [hN, hF, hW]; simp; omega), if_neg (by rw [hF]; decide), hN, hB, hu]; rfl
theorem forms_par (x : List Int) (hx : x.length ≤ 64) : parS ([65, 82, 67, 49] ++ [1, 1, 97, 0, 0, (x.length : Int) % 256, 1] ++ byB x) = ([⟨⟨#[97]⟩, x⟩], true) := by
  have e3 : threeS x.length = [0, 0, (x.length : Int) % 256] := by
    unfold threeS
    rw [show (x.length : Int) / 65536 % 256 = 0 by omega, show (x.length : Int) / 256 % 256 = 0 by omega]
  have e : [65, 82, 67, 49] ++ [1, 1, 97, 0, 0, (x.length : Int) % 256, 1] ++ byB x = [65, 82, 67, 49] ++ ([1] ++ ([1] ++ ([97] ++ (threeS x.length ++ ([1] ++ (byB x ++ [])))))) := by
    rw [e3, List.append_nil]; rfl
  rw [e]
  have hd := dtR_one (Dec.by x) [] 65536 (by omega) (by omega)
  generalize ht : threeS x.length ++ ([1] ++ (byB x ++ [])) = t at hd ⊢
  obtain ⟨a1, a2, a3⟩ := tk_app [65, 82, 67, 49] ([1] ++ ([1] ++ ([97] ++ t))) (n := 4) rfl
  obtain ⟨b1, b2, b3⟩ := tk_app [1] ([1] ++ ([97] ++ t)) (n := 1) rfl
  obtain ⟨c1, c2, c3⟩ := tk_app [1] ([97] ++ t) (n := 1) rfl
  obtain ⟨d1, d2, d3⟩ := tk_app [97] t (n := 1) rfl
  have hN : (prsN ([65, 82, 67, 49] ++ ([1] ++ ([1] ++ ([97] ++ t))))).toNat = 1 := by unfold prsN; rw [a3, a1, b2]; rfl
  have hB : prsB ([65, 82, 67, 49] ++ ([1] ++ ([1] ++ ([97] ++ t)))) = [1] ++ ([97] ++ t) := by unfold prsB; rw [a3, a1, b3]
  have hW : prsW ([65, 82, 67, 49] ++ ([1] ++ ([1] ++ ([97] ++ t)))) = false := by unfold prsW; rw [a3, a1, b1]
  have hD : rdD ([1] ++ ([97] ++ t)) false 65536 = (x, [], false) := by
    unfold rdD rdK
    rw [c1, c2, c3, show gt ([1] : List Int) 0 = 1 from rfl, d1, d3, hd]
  have hM : bsI (rdN ([1] ++ ([97] ++ t)) false) = ⟨#[97]⟩ := by
    unfold rdN rdK
    rw [c1, c2, c3, show gt ([1] : List Int) 0 = 1 from rfl, d2]; rfl
  have hv : valS [⟨⟨#[97]⟩, x⟩] = 0 := valS_one _ (show nmB ⟨#[97]⟩ = true by decide) (show x.length ≤ 65536 by omega)
  rw [parS, if_pos (by rw [a2]; rfl), hN, hB, hW, prsL, hD, hM]
  simp [prsL, hv]
theorem forms_il (l : List Int) (n : Int) : ILt 11 [lv l, iv n] := (lawForms_V l n).2 (by
  (delta lawForms_V; dsimp only [mkV])
  have b0 := and63 n
  (repeat' (first | with_reducible refine brn_nd (fun h => ?_) (fun h => ?_) | with_reducible refine brn_d (fun h => ?_) (fun h => ?_) | with_reducible refine brn_nn (fun h => ?_) (fun h => ?_) | with_reducible refine brn_nb (fun h => ?_) (fun h => ?_) | with_reducible refine Brn.mk (fun h => ?_) (fun h => ?_) | with_reducible refine Chk.mk ?_ ?_ | with_reducible refine Bth.mk ?_ ?_ | with_reducible refine Fct.mk (fun hf => ?_)))
  · unfold InI; omega
  · omega
  rintro x ⟨h1, h2⟩
  have hx : x.length ≤ 64 := by omega
  have hp := forms_par x hx
  (repeat' (first | with_reducible refine brn_nd (fun h => ?_) (fun h => ?_) | with_reducible refine brn_d (fun h => ?_) (fun h => ?_) | with_reducible refine brn_nn (fun h => ?_) (fun h => ?_) | with_reducible refine brn_nb (fun h => ?_) (fun h => ?_) | with_reducible refine Brn.mk (fun h => ?_) (fun h => ?_) | with_reducible refine Chk.mk ?_ ?_ | with_reducible refine Bth.mk ?_ ?_ | with_reducible refine Fct.mk (fun hf => ?_)))
  refine lp2 (fun a z => 0 ≤ z ∧ z ≤ x.length ∧ a = [65, 82, 67, 49] ++ [1, 1, 97, 0, 0, (x.length : Int) % 256, 1] ++ byB (x.take z.toNat)) (fun _ z => ((x.length : Int) - z).toNat) ⟨by omega, by omega, by simp [byB]⟩ ?_
  rintro I μ nx a z ⟨j0, j1, j2⟩
  have hla : a.length ≤ 11 + 2 * 64 := by
    have := byB_len (x.take z.toNat)
    rw [List.length_take] at this
    rw [j2]
    simp only [List.length_append, List.length_cons, List.length_nil]
    omega
  have hend : ¬ z < x.length → parS a = ([⟨⟨#[97]⟩, x⟩], true) := fun h => by
    rw [j2, List.take_of_length_le (by omega)]; exact hp
  (repeat' (first | with_reducible refine brn_nd (fun h => ?_) (fun h => ?_) | with_reducible refine brn_d (fun h => ?_) (fun h => ?_) | with_reducible refine brn_nn (fun h => ?_) (fun h => ?_) | with_reducible refine brn_nb (fun h => ?_) (fun h => ?_) | with_reducible refine Brn.mk (fun h => ?_) (fun h => ?_) | with_reducible refine Chk.mk ?_ ?_ | with_reducible refine Bth.mk ?_ ?_ | with_reducible refine Fct.mk (fun hf => ?_)))
  · omega
  · simp only [List.length_cons, List.length_nil]; omega
  · unfold InI; omega
  · refine nx _ _ _ _ ⟨j0, j1, j2⟩ ⟨by omega, by omega, ?_⟩ (by omega)
    rw [show (z + 1).toNat = z.toNat + 1 by omega, take_snoc (by omega), show ((z.toNat : Nat) : Int) = z by omega, byB_snoc, ← List.append_assoc, ← j2]
  · omega
  all_goals
    have hpa := hend (by assumption)
    have hlt : ¬ 131072 < a.length := by omega
    have E0 : (if 131072 < a.length then (3 : Int) else if (parS a).2 = true then 0 else 10) = 0 := by rw [if_neg hlt, hpa]; rfl
    have E1 : sameS (if 131072 < a.length then [] else if (parS a).2 = true then (parS a).1 else []) [⟨⟨#[97]⟩, x⟩] = true := by rw [if_neg hlt, hpa]; exact decide_eq_true rfl
    have E2 : szS a = x.length := by rw [szS, hpa, if_pos rfl]; simp [sumE]
  all_goals first | rfl | exact absurd E0 (by assumption) | exact absurd E2 (by assumption) | exact absurd (show true = false from E1.symm.trans (by assumption)) (by decide) | omega)
end Go.Proofs.Ytbnmcdnkeipdhaa
