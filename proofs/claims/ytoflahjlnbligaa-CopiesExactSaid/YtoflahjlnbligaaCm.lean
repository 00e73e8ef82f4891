/- Estates: Proves, shown. -/
import Derived.Test.YtoflahjlnbligaaCl
set_option linter.all false
set_option maxRecDepth 20000
set_option maxHeartbeats 4000000
namespace Go.Proofs.Ytoflahjlnbligaa
open Go.RowKit Go.Shelf
def nrB (a : Est) (c pl t lo hi : Int) : Bool := allN a.evs.length fun j => !(decide (lo < (j : Int)) && decide ((j : Int) < hi) && remB c pl t (gt a.evs (j : Int)))
theorem nrB_iff {a : Est} {c pl t lo hi : Int} : nrB a c pl t lo hi = true ↔ ∀ j : Nat, j < a.evs.length → lo < (j : Int) → (j : Int) < hi → remB c pl t (gt a.evs (j : Int)) = false := by
  unfold nrB
  rw [allN_iff]
  constructor
  · intro h j h1 h2 h3
    have := h j h1
    simp [h2, h3] at this; exact this
  · intro h j h1
    by_cases h2 : lo < (j : Int)
    · by_cases h3 : (j : Int) < hi
      · simp [h j h1 h2 h3]
      · simp [h3]
    · simp [h2]
theorem any_part {α : Type} [Inhabited α] {l : List α} {q : α → Bool} {lo hi : Int} (h : 0 ≤ lo) : (part l lo hi).any q = true ↔ ∃ j : Nat, j < l.length ∧ lo ≤ (j : Int) ∧ (j : Int) < hi ∧ q (gt l (j : Int)) = true := by
  unfold part
  rw [List.any_eq_true]
  constructor
  · rintro ⟨x, hx, hq⟩
    obtain ⟨i, hi, rfl⟩ := List.getElem_of_mem hx
    simp at hi
    refine ⟨lo.toNat + i, by omega, by omega, by omega, ?_⟩
    rw [gt_nat (by omega)]
    simpa using hq
  · rintro ⟨j, h1, h2, h3, hq⟩
    rw [gt_nat h1] at hq
    refine ⟨_, ?_, hq⟩
    rw [List.mem_iff_getElem]
    refine ⟨j - lo.toNat, by simp; omega, ?_⟩
    simp only [List.getElem_drop, List.getElem_take]
    congr 1
    omega
theorem part_any {a : Est} {c pl t lo hi : Int} (h : 0 ≤ lo) : (part a.evs (lo + 1) hi).any (remB c pl t) = !nrB a c pl t lo hi := by
  rw [Bool.eq_iff_iff, any_part (by omega), Bool.not_eq_true', Bool.eq_false_iff, Ne, nrB_iff]
  constructor
  · rintro ⟨j, h1, h2, h3, h4⟩ hh
    have := hh j h1 (by omega) h3
    rw [h4] at this; cases this
  · intro hh
    refine Classical.byContradiction fun hne => hh fun j h1 h2 h3 => ?_
    cases hb : remB c pl t (gt a.evs (j : Int)) with
    | false => rfl
    | true => exact absurd ⟨j, h1, by omega, h3, hb⟩ hne
def nxtW (a : Est) (w : List Int) (i : Int) : Int := if i + 1 < (w.length : Int) then gt w (i + 1) else (a.evs.length : Int)
def pvP (a : Est) (c t : Int) (w : List Int) (i : Int) : Prop := 0 ≤ gt w i ∧ gt w i < (a.evs.length : Int) ∧ (0 < i → gt w (i - 1) < gt w i) ∧ (gt a.evs (gt w i)).time ≤ t ∧
  (i = 0 → (gt a.evs (gt w i)).kind = 5 ∧ (gt a.evs (gt w i)).cont = c) ∧ (0 < i → (gt a.evs (gt w i)).kind = 7 ∧ (gt a.evs (gt w i)).frm = (gt a.evs (gt w (i - 1))).place) ∧ nrB a c (gt a.evs (gt w i)).place t (gt w i) (nxtW a w i) = true
instance (a : Est) (c t : Int) (w : List Int) (i : Int) : Decidable (pvP a c t w i) := by unfold pvP; infer_instance
def pvB (a : Est) (c p t : Int) (w : List Int) : Bool := (rightB a c && inB p 0 (a.places - 1)) && decide (0 < w.length) && allN w.length (fun i => decide (pvP a c t w (i : Int))) && decide ((gt a.evs (gt w ((w.length : Int) - 1))).place = p)
theorem pvB_iff {a : Est} {c p t : Int} {w : List Int} : pvB a c p t w = true ↔ (estB a = true ∧ inB c 0 63 = true) ∧ inB p 0 (a.places - 1) = true ∧ 0 < w.length ∧ (∀ i : Nat, i < w.length → pvP a c t w (i : Int)) ∧ (gt a.evs (gt w ((w.length : Int) - 1))).place = p := by
  unfold pvB rightB
  simp [allN_iff, and_assoc]
theorem asc_range {w : List Int} (h : ascB w = true) {i : Nat} (hi : i < w.length) : gt w 0 ≤ gt w (i : Int) ∧ gt w (i : Int) ≤ gt w ((w.length : Int) - 1) := by
  unfold ascB at h
  rw [allN_iff] at h
  have step : ∀ k : Nat, k + 1 < w.length → gt w (k : Int) < gt w ((k + 1 : Nat) : Int) := fun k hk => by
    have := h (k + 1) hk
    simp at this
    exact_mod_cast this
  have up : ∀ k j : Nat, j ≤ k → k < w.length → gt w (j : Int) ≤ gt w (k : Int) := by
    intro k
    induction k with
    | zero => intro j h1 h2; have : j = 0 := by omega
              subst this; exact Int.le_refl _
    | succ k ih =>
      intro j h1 h2
      by_cases e : j = k + 1
      · subst e; exact Int.le_refl _
      · have := ih j (by omega) (by omega); have := step k h2; omega
  refine ⟨up i 0 (by omega) hi, ?_⟩
  have := up (w.length - 1) i (by omega) (by omega)
  rwa [show ((w.length - 1 : Nat) : Int) = (w.length : Int) - 1 by omega] at this
theorem pv_asc {a : Est} {c t : Int} {w : List Int} (h : ∀ i : Nat, i < w.length → pvP a c t w (i : Int)) : ascB w = true := by
  unfold ascB
  rw [allN_iff]
  intro i hi
  by_cases e : i = 0
  · simp [e]
  · have := (h i hi).2.2.1 (by omega)
    simp [e, this]
theorem Proves_ic (a : Est) (c p t : Int) (w : List Int) : ICt 34 [a.v, iv c, iv p, iv t, lv w] (fun v => v = bv (pvB a c p t w)) := (Proves_V a c p t w _).2 (by
  have bad : ¬ ((estB a = true ∧ inB c 0 63 = true) ∧ inB p 0 (a.places - 1) = true ∧ 0 < w.length ∧ (∀ i : Nat, i < w.length → pvP a c t w (i : Int)) ∧ (gt a.evs (gt w ((w.length : Int) - 1))).place = p) → bv false = bv (pvB a c p t w) := fun h => by
    cases hb : pvB a c p t w with
    | false => rfl
    | true => exact absurd (pvB_iff.1 hb) h
  (delta Proves_V; dsimp only [mkV])
  (repeat' (first | with_reducible refine brn_nd (fun h => ?_) (fun h => ?_) | with_reducible refine brn_d (fun h => ?_) (fun h => ?_) | with_reducible refine brn_nn (fun h => ?_) (fun h => ?_) | with_reducible refine brn_nb (fun h => ?_) (fun h => ?_) | with_reducible refine Brn.mk (fun h => ?_) (fun h => ?_) | with_reducible refine Chk.mk ?_ ?_ | with_reducible refine Bth.mk ?_ ?_ | with_reducible refine Fct.mk (fun hf => ?_)))
  · have h1 := est1 (a := a) (by assumption)
    exact bad fun hh => by rw [hh.1.1] at h1; cases h1
  · have h1 : inB c 0 63 = false := by assumption
    exact bad fun hh => by rw [hh.1.2] at h1; cases h1
  · have := estB_iff.1 (est0 (a := a) (by assumption)); omega
  · have h1 : inB p 0 (a.places - 1) = false := by assumption
    exact bad fun hh => by rw [hh.2.1] at h1; cases h1
  · exact bad fun hh => by omega
  · have h1 : ascB w = false := by assumption
    exact bad fun hh => by rw [pv_asc hh.2.2.2.1] at h1; cases h1
  · omega
  · refine bad fun hh => ?_
    have this : 0 ≤ gt w 0 := (hh.2.2.2.1 0 (by omega)).1
    have h9 : gt w 0 < 0 := by assumption
    omega
  · unfold InI; omega
  · omega
  · refine bad fun hh => ?_
    have := (hh.2.2.2.1 (w.length - 1) (by omega)).2.1
    rw [show ((w.length - 1 : Nat) : Int) = (w.length : Int) - 1 by omega] at this
    omega
  have he := est0 (a := a) (by assumption)
  have hi : inB c 0 63 = true := by assumption
  have hp : inB p 0 (a.places - 1) = true := by assumption
  have has : ascB w = true := by assumption
  have hevl := (estB_iff.1 he).2.2.1
  refine up1 (fun z => ∀ i : Nat, (i : Int) < z → pvP a c t w (i : Int)) (by omega) (by intros; omega) ?_ ?_
  · intro I μ z h0 h1 hj nx
    obtain ⟨i, rfl, hi9⟩ := natz h0 h1
    obtain ⟨r1, r2⟩ := asc_range has (i := i) (by omega)
    have r3 : 0 < i → 0 ≤ gt w ((i : Int) - 1) ∧ gt w ((i : Int) - 1) < (a.evs.length : Int) := fun h => by
      have := asc_range has (i := i - 1) (by omega)
      rw [show ((i - 1 : Nat) : Int) = (i : Int) - 1 by omega] at this
      omega
    have r4 : 0 < i → gt w ((i : Int) - 1) < gt w (i : Int) := fun h => by
      unfold ascB at has; rw [allN_iff] at has
      have := has i (by omega); simp at this; omega
    have r5 : i + 1 < w.length → gt w (i : Int) < gt w ((i : Int) + 1) ∧ gt w ((i : Int) + 1) < (a.evs.length : Int) := fun h => by
      unfold ascB at has; rw [allN_iff] at has
      have h3 := has (i + 1) (by omega); simp at h3
      have h4 := (asc_range (by unfold ascB; rw [allN_iff]; exact has) (i := i + 1) h).2
      have e : ((i + 1 : Nat) : Int) = (i : Int) + 1 := by omega
      rw [e] at h4
      omega
    have hany : ∀ hi, (part a.evs (gt w (i : Int) + 1) hi).any (remB c (gt a.evs (gt w (i : Int))).place t) = !nrB a c (gt a.evs (gt w (i : Int))).place t (gt w (i : Int)) hi := fun hi => part_any (by omega)
    simp only [hany]
    have nx' : pvP a c t w (i : Int) → I ((i : Int) + 1) ∧ μ ((i : Int) + 1) < μ (i : Int) := fun hpv => nx fun k hk => by
      by_cases e : k = i
      · subst e; exact hpv
      · exact hj k (by omega)
    clear nx
    have hb : ¬ pvP a c t w (i : Int) → bv false = bv (pvB a c p t w) := fun hn => bad fun hh => hn (hh.2.2.2.1 i (by omega))
    have hnx : nxtW a w (i : Int) = if (i : Int) + 1 < (w.length : Int) then gt w ((i : Int) + 1) else (a.evs.length : Int) := rfl
    unfold pvP at nx' hb
    rw [hnx] at nx' hb
    by_cases hz : (i : Int) + 1 < (w.length : Int)
    · rw [if_pos hz] at nx' hb
      generalize nrB a c (gt a.evs (gt w (i : Int))).place t (gt w (i : Int)) (gt w ((i : Int) + 1)) = nb at *
      generalize gt a.evs (gt w (i : Int)) = x at *
      have r6 := r5 (by omega)
      (repeat' (first | with_reducible refine brn_nd (fun h => ?_) (fun h => ?_) | with_reducible refine brn_d (fun h => ?_) (fun h => ?_) | with_reducible refine brn_nn (fun h => ?_) (fun h => ?_) | with_reducible refine brn_nb (fun h => ?_) (fun h => ?_) | with_reducible refine Brn.mk (fun h => ?_) (fun h => ?_) | with_reducible refine Chk.mk ?_ ?_ | with_reducible refine Bth.mk ?_ ?_ | with_reducible refine Fct.mk (fun hf => ?_)))
      all_goals (first | omega | (unfold InI; omega) | (refine nx' ⟨by omega, by omega, by omega, by omega, by omega, by omega, by assumption⟩) | (refine hb fun hh => ?_; first | omega | (have := hh.2.2.2.2.2.2; simp_all)))
    · rw [if_neg hz] at nx' hb
      generalize nrB a c (gt a.evs (gt w (i : Int))).place t (gt w (i : Int)) (a.evs.length : Int) = nb at *
      generalize gt a.evs (gt w (i : Int)) = x at *
      (repeat' (first | with_reducible refine brn_nd (fun h => ?_) (fun h => ?_) | with_reducible refine brn_d (fun h => ?_) (fun h => ?_) | with_reducible refine brn_nn (fun h => ?_) (fun h => ?_) | with_reducible refine brn_nb (fun h => ?_) (fun h => ?_) | with_reducible refine Brn.mk (fun h => ?_) (fun h => ?_) | with_reducible refine Chk.mk ?_ ?_ | with_reducible refine Bth.mk ?_ ?_ | with_reducible refine Fct.mk (fun hf => ?_)))
      all_goals (first | omega | (unfold InI; omega) | (refine nx' ⟨by omega, by omega, by omega, by omega, by omega, by omega, by assumption⟩) | (refine hb fun hh => ?_; first | omega | (have := hh.2.2.2.2.2.2; simp_all)))
  · intro I μ hall
    have hall' : ∀ i : Nat, i < w.length → pvP a c t w (i : Int) := fun i h => hall i (by omega)
    have hlast := hall' (w.length - 1) (by omega)
    rw [show ((w.length - 1 : Nat) : Int) = (w.length : Int) - 1 by omega] at hlast
    (repeat' (first | with_reducible refine brn_nd (fun h => ?_) (fun h => ?_) | with_reducible refine brn_d (fun h => ?_) (fun h => ?_) | with_reducible refine brn_nn (fun h => ?_) (fun h => ?_) | with_reducible refine brn_nb (fun h => ?_) (fun h => ?_) | with_reducible refine Brn.mk (fun h => ?_) (fun h => ?_) | with_reducible refine Chk.mk ?_ ?_ | with_reducible refine Bth.mk ?_ ?_ | with_reducible refine Fct.mk (fun hf => ?_)))
    all_goals (first | omega | (unfold InI; omega) | exact ⟨hlast.1, hlast.2.1⟩ | skip)
    refine congrArg bv ?_
    rw [Bool.eq_iff_iff, pvB_iff, decide_eq_true_eq]
    exact ⟨fun h => ⟨⟨he, hi⟩, hp, by omega, hall', h⟩, fun h => h.2.2.2.2⟩)
end Go.Proofs.Ytoflahjlnbligaa
