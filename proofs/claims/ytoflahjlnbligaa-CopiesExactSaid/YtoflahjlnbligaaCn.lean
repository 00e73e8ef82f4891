/- Estates: Proves of the reference. -/
import Derived.Test.YtoflahjlnbligaaCm
set_option linter.all false
set_option maxRecDepth 20000
set_option maxHeartbeats 4000000
namespace Go.Proofs.Ytoflahjlnbligaa
open Go.RowKit Go.Shelf
theorem upAll {α : Type} [Inhabited α] {l : List α} (q : α → Bool) {A E : (Int → Prop) → (Int → Nat) → Int → Prop} (hl : l.length ≤ 9223372036854775807) (step : ∀ I μ z, 0 ≤ z → z < (l.length : Int) → gt l z ∈ l → (q (gt l z) = true → I (z + 1) ∧ μ (z + 1) < μ z) → A I μ z) (ex : ∀ I μ, l.all q = true → E I μ l.length) :
    ∃ (I : Int → Prop) (μ : Int → Nat), I 0 ∧ ∀ x, I x → Brn (decide (x < (l.length : Int))) (A I μ x) (E I μ x) := by
  refine up1 (fun z => ∀ j (h1 : j < l.length), (j : Int) < z → q l[j] = true) (by omega) (by intro j h1 h3; omega) (fun I μ z hz0 hz1 hj nx => ?_) (fun I μ hj => ?_)
  · refine step I μ z hz0 hz1 (gt_mem hz0 hz1) fun e => nx fun j h1 h3 => ?_
    by_cases hjz : (j : Int) < z
    · exact hj j h1 hjz
    · have : z = j := by omega
      subst this
      rw [gt_nat h1] at e
      exact e
  · refine ex I μ (List.all_eq_true.2 fun x hx => ?_)
    obtain ⟨j, hj2, rfl⟩ := List.getElem_of_mem hx
    exact hj j hj2 (by omega)
theorem mem_tw {α : Type} {q : α → Bool} {x : α} : ∀ {l : List α}, x ∈ l.takeWhile q → q x = true
  | [], h => by cases h
  | y :: l, h => by
    rw [List.takeWhile_cons] at h
    split at h
    · rename_i hy
      rcases List.mem_cons.1 h with rfl | h
      · exact hy
      · exact mem_tw h
    · cases h
theorem happ_iff {a : Est} (h : estB a = true) {t : Int} {j : Nat} (hj : j < a.evs.length) : j < happS a t ↔ (gt a.evs (j : Int)).time ≤ t := by
  have hs := est_sorted h
  unfold happS
  rw [gt_nat hj]
  constructor
  · intro hlt
    have h1 : (a.evs.takeWhile fun x => decide (x.time ≤ t))[j] ∈ a.evs.takeWhile fun x => decide (x.time ≤ t) := List.getElem_mem hlt
    have h2 := mem_tw h1
    have h3 : (a.evs.takeWhile fun x => decide (x.time ≤ t))[j] = a.evs[j] := (List.takeWhile_prefix _).getElem hlt
    rw [h3] at h2
    simpa using h2
  · intro ht
    rw [← filter_tw (r := fun x y : Acc => x.time ≤ y.time) (fun x y h1 h2 => by simp at h2 ⊢; omega) hs]
    have h4 : (a.evs.take (j + 1)).filter (fun x => decide (x.time ≤ t)) = a.evs.take (j + 1) := List.filter_eq_self.2 fun x hx => by
      obtain ⟨i, hi, rfl⟩ := List.getElem_of_mem hx
      simp at hi
      rw [List.getElem_take]
      simp only [decide_eq_true_eq]
      by_cases e : i = j
      · subst e; exact ht
      · have := (List.pairwise_iff_getElem.1 hs) i j (by omega) hj (by omega)
        omega
    have h5 : ((a.evs.take (j + 1)).filter (fun x => decide (x.time ≤ t))).length ≤ (a.evs.filter (fun x => decide (x.time ≤ t))).length := ((List.take_sublist _ _).filter _).length_le
    rw [h4] at h5
    simp at h5
    omega
def rem0 (c p : Int) (x : Acc) : Bool := decide (x.kind = 6 ∧ x.cont = c ∧ x.place = p)
theorem ref_any {a : Est} (he : estB a = true) {c pl t k nx e : Int} (hk : 0 ≤ k) (hnx : nx ≤ (a.evs.length : Int) ∨ True) (h : ∀ j : Int, k < j → (j < e ↔ j < (happS a t : Int) ∧ j < nx)) : (part a.evs (k + 1) e).any (rem0 c pl) = !nrB a c pl t k nx := by
  rw [Bool.eq_iff_iff, any_part (by omega), Bool.not_eq_true', Bool.eq_false_iff, Ne, nrB_iff]
  have key : ∀ j : Nat, j < a.evs.length → k < (j : Int) → (rem0 c pl (gt a.evs (j : Int)) = true ∧ (j : Int) < e ↔ remB c pl t (gt a.evs (j : Int)) = true ∧ (j : Int) < nx) := fun j h1 h2 => by
    have := happ_iff he (t := t) h1
    have h3 := h j h2
    simp only [rem0, remB, decide_eq_true_eq]
    constructor
    · rintro ⟨⟨q1, q2, q3⟩, q4⟩
      have := h3.1 q4
      exact ⟨⟨q1, q2, q3, by omega⟩, this.2⟩
    · rintro ⟨⟨q1, q2, q3, q5⟩, q4⟩
      exact ⟨⟨q1, q2, q3⟩, h3.2 ⟨by omega, q4⟩⟩
  constructor
  · rintro ⟨j, h1, h2, h3, h4⟩ hh
    have h5 := (key j h1 (by omega)).1 ⟨h4, h3⟩
    have := hh j h1 (by omega) h5.2
    rw [h5.1] at this; cases this
  · intro hh
    refine Classical.byContradiction fun hne => hh fun j h1 h2 h3 => ?_
    cases hb : remB c pl t (gt a.evs (j : Int)) with
    | false => rfl
    | true =>
      have := (key j h1 h2).2 ⟨hb, h3⟩
      exact absurd ⟨j, h1, by omega, this.2, this.1⟩ hne
theorem rProves_ic (a : Est) (c p t : Int) (w : List Int) : ICt 32 [a.v, iv c, iv p, iv t, lv w] (fun v => v = bv (pvB a c p t w)) := (rProves_V a c p t w _).2 (by
  have bad : ¬ ((estB a = true ∧ inB c 0 63 = true) ∧ inB p 0 (a.places - 1) = true ∧ 0 < w.length ∧ (∀ i : Nat, i < w.length → pvP a c t w (i : Int)) ∧ (gt a.evs (gt w ((w.length : Int) - 1))).place = p) → bv false = bv (pvB a c p t w) := fun h => by
    cases hb : pvB a c p t w with
    | false => rfl
    | true => exact absurd (pvB_iff.1 hb) h
  (delta rProves_V; dsimp only [mkV])
  (repeat' (first | with_reducible refine brn_nd (fun h => ?_) (fun h => ?_) | with_reducible refine brn_d (fun h => ?_) (fun h => ?_) | with_reducible refine brn_nn (fun h => ?_) (fun h => ?_) | with_reducible refine brn_nb (fun h => ?_) (fun h => ?_) | with_reducible refine Brn.mk (fun h => ?_) (fun h => ?_) | with_reducible refine Chk.mk ?_ ?_ | with_reducible refine Bth.mk ?_ ?_ | with_reducible refine Fct.mk (fun hf => ?_)))
  · have h1 : rightB a c = false := by assumption
    exact bad fun hh => by unfold rightB at h1; rw [hh.1.1, hh.1.2] at h1; cases h1
  · have h1 : (estB a && inB p 0 (a.places - 1)) = false := by assumption
    exact bad fun hh => by rw [hh.1.1, hh.2.1] at h1; cases h1
  · exact bad fun hh => by omega
  have hr : rightB a c = true := by assumption
  unfold rightB at hr; rw [Bool.and_eq_true] at hr
  obtain ⟨he, hi⟩ := hr
  have hp : (estB a && inB p 0 (a.places - 1)) = true := by assumption
  rw [Bool.and_eq_true] at hp
  have hevl := (estB_iff.1 he).2.2.1
  have hhap := happS_le a t
  refine up1 (fun z => ∀ i : Nat, (i : Int) < z → pvP a c t w (i : Int)) (by omega) (by intros; omega) ?_ ?_
  · intro I μ z h0 h1 hj nx
    obtain ⟨i, rfl, hi9⟩ := natz h0 h1
    have hprev : 0 < i → pvP a c t w ((i : Int) - 1) := fun h => by
      have := hj (i - 1) (by omega)
      rwa [show ((i - 1 : Nat) : Int) = (i : Int) - 1 by omega] at this
    have r3 : 0 < i → 0 ≤ gt w ((i : Int) - 1) ∧ gt w ((i : Int) - 1) < (a.evs.length : Int) := fun h => ⟨(hprev h).1, (hprev h).2.1⟩
    clear hprev
    have nx' : pvP a c t w (i : Int) → I ((i : Int) + 1) ∧ μ ((i : Int) + 1) < μ (i : Int) := fun hpv => nx fun k hk => by
      by_cases e : k = i
      · subst e; exact hpv
      · exact hj k (by omega)
    clear nx hj
    have hb : ¬ pvP a c t w (i : Int) → bv false = bv (pvB a c p t w) := fun hn => bad fun hh => hn (hh.2.2.2.1 i (by omega))
    clear bad
    have hnx : nxtW a w (i : Int) = if (i : Int) + 1 < (w.length : Int) then gt w ((i : Int) + 1) else (a.evs.length : Int) := rfl
    unfold pvP at nx' hb
    rw [hnx] at nx' hb
    clear hnx
    by_cases hk : 0 ≤ gt w (i : Int) ∧ gt w (i : Int) < (a.evs.length : Int)
    · by_cases hz : (i : Int) + 1 < (w.length : Int)
      · rw [if_pos hz] at nx' hb
        have hany := ref_any he (c := c) (pl := (gt a.evs (gt w (i : Int))).place) (t := t) (k := gt w (i : Int)) (nx := gt w ((i : Int) + 1)) (e := max (min (happS a t : Int) (max (gt w ((i : Int) + 1)) (gt w (i : Int) + 1))) (gt w (i : Int) + 1)) hk.1 (.inr trivial) (fun j hj => by omega)
        have hlen : (part a.evs (gt w (i : Int) + 1) (max (min (happS a t : Int) (max (gt w ((i : Int) + 1)) (gt w (i : Int) + 1))) (gt w (i : Int) + 1))).length ≤ 9223372036854775807 := by unfold part; simp; omega
        generalize hpt : part a.evs (gt w (i : Int) + 1) (max (min (happS a t : Int) (max (gt w ((i : Int) + 1)) (gt w (i : Int) + 1))) (gt w (i : Int) + 1)) = pt at *
        generalize nrB a c (gt a.evs (gt w (i : Int))).place t (gt w (i : Int)) (gt w ((i : Int) + 1)) = nb at *
        generalize gt a.evs (gt w (i : Int)) = x at *
        (repeat' (first | with_reducible refine brn_nd (fun h => ?_) (fun h => ?_) | with_reducible refine brn_d (fun h => ?_) (fun h => ?_) | with_reducible refine brn_nn (fun h => ?_) (fun h => ?_) | with_reducible refine brn_nb (fun h => ?_) (fun h => ?_) | with_reducible refine Brn.mk (fun h => ?_) (fun h => ?_) | with_reducible refine Chk.mk ?_ ?_ | with_reducible refine Bth.mk ?_ ?_ | with_reducible refine Fct.mk (fun hf => ?_)))
        all_goals (first | omega | (unfold InI; omega) | (refine hb fun hh => ?_; omega) | skip)
        all_goals
          refine upAll (fun y => !rem0 c x.place y) hlen ?_ ?_
          · intro I2 μ2 z2 g0 g1 gm nx2
            have hbad : rem0 c x.place (gt pt z2) = true → bv false = bv (pvB a c p t w) := fun hrm => hb fun hh => by
              have h9 : pt.any (rem0 c x.place) = true := List.any_eq_true.2 ⟨_, gm, hrm⟩
              rw [hany, hh.2.2.2.2.2.2] at h9; cases h9
            unfold rem0 at hbad nx2
            generalize gt pt z2 = y at *
            (repeat' (first | with_reducible refine brn_nd (fun h => ?_) (fun h => ?_) | with_reducible refine brn_d (fun h => ?_) (fun h => ?_) | with_reducible refine brn_nn (fun h => ?_) (fun h => ?_) | with_reducible refine brn_nb (fun h => ?_) (fun h => ?_) | with_reducible refine Brn.mk (fun h => ?_) (fun h => ?_) | with_reducible refine Chk.mk ?_ ?_ | with_reducible refine Bth.mk ?_ ?_ | with_reducible refine Fct.mk (fun hf => ?_)))
            all_goals (first | omega | exact hbad (by simp [*]) | exact nx2 (by simp [*]))
          · intro I2 μ2 hall
            have h9 : nb = true := by
              have : pt.any (rem0 c x.place) = false := by
                rw [Bool.eq_false_iff]
                intro h8
                obtain ⟨y, hy, hr⟩ := List.any_eq_true.1 h8
                have := (List.all_eq_true.1 hall) y hy
                rw [hr] at this; cases this
              rw [hany] at this
              simpa using this
            (repeat' (first | with_reducible refine brn_nd (fun h => ?_) (fun h => ?_) | with_reducible refine brn_d (fun h => ?_) (fun h => ?_) | with_reducible refine brn_nn (fun h => ?_) (fun h => ?_) | with_reducible refine brn_nb (fun h => ?_) (fun h => ?_) | with_reducible refine Brn.mk (fun h => ?_) (fun h => ?_) | with_reducible refine Chk.mk ?_ ?_ | with_reducible refine Bth.mk ?_ ?_ | with_reducible refine Fct.mk (fun hf => ?_)))
            all_goals (first | omega | exact nx' ⟨by omega, by omega, by omega, by omega, by omega, by omega, h9⟩)
      · rw [if_neg hz] at nx' hb
        have hany := ref_any he (c := c) (pl := (gt a.evs (gt w (i : Int))).place) (t := t) (k := gt w (i : Int)) (nx := (a.evs.length : Int)) (e := max (happS a t : Int) (gt w (i : Int) + 1)) hk.1 (.inr trivial) (fun j hj => by omega)
        have hlen : (part a.evs (gt w (i : Int) + 1) (max (happS a t : Int) (gt w (i : Int) + 1))).length ≤ 9223372036854775807 := by unfold part; simp; omega
        generalize hpt : part a.evs (gt w (i : Int) + 1) (max (happS a t : Int) (gt w (i : Int) + 1)) = pt at *
        generalize nrB a c (gt a.evs (gt w (i : Int))).place t (gt w (i : Int)) (a.evs.length : Int) = nb at *
        generalize gt a.evs (gt w (i : Int)) = x at *
        (repeat' (first | with_reducible refine brn_nd (fun h => ?_) (fun h => ?_) | with_reducible refine brn_d (fun h => ?_) (fun h => ?_) | with_reducible refine brn_nn (fun h => ?_) (fun h => ?_) | with_reducible refine brn_nb (fun h => ?_) (fun h => ?_) | with_reducible refine Brn.mk (fun h => ?_) (fun h => ?_) | with_reducible refine Chk.mk ?_ ?_ | with_reducible refine Bth.mk ?_ ?_ | with_reducible refine Fct.mk (fun hf => ?_)))
        all_goals (first | omega | (unfold InI; omega) | (refine hb fun hh => ?_; omega) | skip)
        all_goals
          refine upAll (fun y => !rem0 c x.place y) hlen ?_ ?_
          · intro I2 μ2 z2 g0 g1 gm nx2
            have hbad : rem0 c x.place (gt pt z2) = true → bv false = bv (pvB a c p t w) := fun hrm => hb fun hh => by
              have h9 : pt.any (rem0 c x.place) = true := List.any_eq_true.2 ⟨_, gm, hrm⟩
              rw [hany, hh.2.2.2.2.2.2] at h9; cases h9
            unfold rem0 at hbad nx2
            generalize gt pt z2 = y at *
            (repeat' (first | with_reducible refine brn_nd (fun h => ?_) (fun h => ?_) | with_reducible refine brn_d (fun h => ?_) (fun h => ?_) | with_reducible refine brn_nn (fun h => ?_) (fun h => ?_) | with_reducible refine brn_nb (fun h => ?_) (fun h => ?_) | with_reducible refine Brn.mk (fun h => ?_) (fun h => ?_) | with_reducible refine Chk.mk ?_ ?_ | with_reducible refine Bth.mk ?_ ?_ | with_reducible refine Fct.mk (fun hf => ?_)))
            all_goals (first | omega | exact hbad (by simp [*]) | exact nx2 (by simp [*]))
          · intro I2 μ2 hall
            have h9 : nb = true := by
              have : pt.any (rem0 c x.place) = false := by
                rw [Bool.eq_false_iff]
                intro h8
                obtain ⟨y, hy, hr⟩ := List.any_eq_true.1 h8
                have := (List.all_eq_true.1 hall) y hy
                rw [hr] at this; cases this
              rw [hany] at this
              simpa using this
            (repeat' (first | with_reducible refine brn_nd (fun h => ?_) (fun h => ?_) | with_reducible refine brn_d (fun h => ?_) (fun h => ?_) | with_reducible refine brn_nn (fun h => ?_) (fun h => ?_) | with_reducible refine brn_nb (fun h => ?_) (fun h => ?_) | with_reducible refine Brn.mk (fun h => ?_) (fun h => ?_) | with_reducible refine Chk.mk ?_ ?_ | with_reducible refine Bth.mk ?_ ?_ | with_reducible refine Fct.mk (fun hf => ?_)))
            all_goals (first | omega | exact nx' ⟨by omega, by omega, by omega, by omega, by omega, by omega, h9⟩)
    · have hb' := hb fun hh => hk ⟨hh.1, hh.2.1⟩
      clear hb nx'
      (repeat' (first | with_reducible refine brn_nd (fun h => ?_) (fun h => ?_) | with_reducible refine brn_d (fun h => ?_) (fun h => ?_) | with_reducible refine brn_nn (fun h => ?_) (fun h => ?_) | with_reducible refine brn_nb (fun h => ?_) (fun h => ?_) | with_reducible refine Brn.mk (fun h => ?_) (fun h => ?_) | with_reducible refine Chk.mk ?_ ?_ | with_reducible refine Bth.mk ?_ ?_ | with_reducible refine Fct.mk (fun hf => ?_)))
      all_goals (first | exact hb' | omega)
  · intro I μ hall
    have hall' : ∀ i : Nat, i < w.length → pvP a c t w (i : Int) := fun i h => hall i (by omega)
    have hlast := hall' (w.length - 1) (by omega)
    rw [show ((w.length - 1 : Nat) : Int) = (w.length : Int) - 1 by omega] at hlast
    (repeat' (first | with_reducible refine brn_nd (fun h => ?_) (fun h => ?_) | with_reducible refine brn_d (fun h => ?_) (fun h => ?_) | with_reducible refine brn_nn (fun h => ?_) (fun h => ?_) | with_reducible refine brn_nb (fun h => ?_) (fun h => ?_) | with_reducible refine Brn.mk (fun h => ?_) (fun h => ?_) | with_reducible refine Chk.mk ?_ ?_ | with_reducible refine Bth.mk ?_ ?_ | with_reducible refine Fct.mk (fun hf => ?_)))
    all_goals (first | omega | (unfold InI; omega) | exact ⟨hlast.1, hlast.2.1⟩ | skip)
    refine congrArg bv ?_
    rw [Bool.eq_iff_iff, pvB_iff, decide_eq_true_eq]
    exact ⟨fun h => ⟨⟨he, hi⟩, hp.2, by omega, hall', h⟩, fun h => h.2.2.2.2⟩)
end Go.Proofs.Ytoflahjlnbligaa
