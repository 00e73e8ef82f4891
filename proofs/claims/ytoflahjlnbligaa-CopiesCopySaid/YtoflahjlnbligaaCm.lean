/- Estates: Proves, shown. -/
import Derived.Test.YtoflahjlnbligaaCl
set_option linter.all false
set_option maxRecDepth 20000
set_option maxHeartbeats 4000000
namespace Go.Proofs.Ytoflahjlnbligaa
open Go.RowKit Go.Shelf
theorem rHas_ic (l : List Int) (x : Int) : ICt 23 [lv l, iv x] (fun v => v = bv (decide (x ∈ l))) := (rHas_V l x _).2 (by
  (delta rHas_V; dsimp only [mkV])
  (repeat' (first | with_reducible refine brn_nd (fun h => ?_) (fun h => ?_) | with_reducible refine brn_d (fun h => ?_) (fun h => ?_) | with_reducible refine brn_nn (fun h => ?_) (fun h => ?_) | with_reducible refine brn_nb (fun h => ?_) (fun h => ?_) | with_reducible refine Brn.mk (fun h => ?_) (fun h => ?_) | with_reducible refine Chk.mk ?_ ?_ | with_reducible refine Bth.mk ?_ ?_ | with_reducible refine Fct.mk (fun hf => ?_)))
  refine up1 (fun z => x ∉ l.take z.toNat) (by omega) (by simp) ?_ ?_
  · rintro I μ z h0 h1 hj nx
    obtain ⟨i, rfl, hi⟩ := natz h0 h1
    simp only [Int.toNat_natCast] at hj
    (repeat' (first | with_reducible refine brn_nd (fun h => ?_) (fun h => ?_) | with_reducible refine brn_d (fun h => ?_) (fun h => ?_) | with_reducible refine brn_nn (fun h => ?_) (fun h => ?_) | with_reducible refine brn_nb (fun h => ?_) (fun h => ?_) | with_reducible refine Brn.mk (fun h => ?_) (fun h => ?_) | with_reducible refine Chk.mk ?_ ?_ | with_reducible refine Bth.mk ?_ ?_ | with_reducible refine Fct.mk (fun hf => ?_)))
    · omega
    · have := gt_mem (xs := l) h0 h1
      rw [h] at this
      simp [this]
    · omega
    · refine nx ?_
      have e : ((i : Int) + 1).toNat = i + 1 := by omega
      rw [e, take_snoc (by omega)]
      simp only [List.mem_append, List.mem_singleton, not_or]
      exact ⟨hj, fun e => h e.symm⟩
  · intro I μ hj
    simp only [Int.toNat_natCast, List.take_length] at hj
    simp [hj])
def nrB (a : Est) (c pl t lo hi : Int) : Bool := allN a.evs.length fun j => !(decide (lo < (j : Int)) && decide ((j : Int) < hi) && remB c pl t (gt a.evs (j : Int)))
theorem nrB_iff {a : Est} {c pl t lo hi : Int} : nrB a c pl t lo hi = true ↔ ∀ j : Nat, j < a.evs.length → lo < (j : Int) → (j : Int) < hi → remB c pl t (gt a.evs (j : Int)) = false := by
  unfold nrB
  rw [allN_iff]
  constructor
  · intro h j h1 h2 h3
    have := h j h1
    simp [h2, h3] at this; exact this
  · intro h j h1
    by_cases h2 : lo < (j : Int)
    · by_cases h3 : (j : Int) < hi
      · simp [h j h1 h2 h3]
      · simp [h3]
    · simp [h2]
theorem any_part {α : Type} [Inhabited α] {l : List α} {q : α → Bool} {lo hi : Int} (h : 0 ≤ lo) : (part l lo hi).any q = true ↔ ∃ j : Nat, j < l.length ∧ lo ≤ (j : Int) ∧ (j : Int) < hi ∧ q (gt l (j : Int)) = true := by
  unfold part
  rw [List.any_eq_true]
  constructor
  · rintro ⟨x, hx, hq⟩
    obtain ⟨i, hi, rfl⟩ := List.getElem_of_mem hx
    simp at hi
    refine ⟨lo.toNat + i, by omega, by omega, by omega, ?_⟩
    rw [gt_nat (by omega)]
    simpa using hq
  · rintro ⟨j, h1, h2, h3, hq⟩
    rw [gt_nat h1] at hq
    refine ⟨_, ?_, hq⟩
    rw [List.mem_iff_getElem]
    refine ⟨j - lo.toNat, by simp; omega, ?_⟩
    simp only [List.getElem_drop, List.getElem_take]
    congr 1
    omega
def nxtW (a : Est) (w : List Int) (i : Int) : Int := if i + 1 < (w.length : Int) then gt w (i + 1) else (a.evs.length : Int)
def pvP (a : Est) (c t : Int) (w : List Int) (i : Int) : Prop := 0 ≤ gt w i ∧ gt w i < (a.evs.length : Int) ∧ (0 < i → gt w (i - 1) < gt w i) ∧ (gt a.evs (gt w i)).time ≤ t ∧
  (i = 0 → (gt a.evs (gt w i)).kind = 5 ∧ (gt a.evs (gt w i)).cont = c) ∧ (0 < i → (gt a.evs (gt w i)).kind = 7 ∧ (gt a.evs (gt w i)).frm = (gt a.evs (gt w (i - 1))).place) ∧ nrB a c (gt a.evs (gt w i)).place t (gt w i) (nxtW a w i) = true
instance (a : Est) (c t : Int) (w : List Int) (i : Int) : Decidable (pvP a c t w i) := by unfold pvP; infer_instance
def pvB (a : Est) (c p t : Int) (w : List Int) : Bool := (rightB a c && inB p 0 (a.places - 1)) && decide (0 < w.length) && allN w.length (fun i => decide (pvP a c t w (i : Int))) && decide ((gt a.evs (gt w ((w.length : Int) - 1))).place = p)
theorem pvB_iff {a : Est} {c p t : Int} {w : List Int} : pvB a c p t w = true ↔ (estB a = true ∧ inB c 0 63 = true) ∧ inB p 0 (a.places - 1) = true ∧ 0 < w.length ∧ (∀ i : Nat, i < w.length → pvP a c t w (i : Int)) ∧ (gt a.evs (gt w ((w.length : Int) - 1))).place = p := by
  unfold pvB rightB
  simp [allN_iff, and_assoc]
end Go.Proofs.Ytoflahjlnbligaa
