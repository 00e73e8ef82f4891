/- Estates: cut; one event more. -/
import Derived.Test.YtoflahjlnbligaaCs
set_option linter.all false
set_option maxRecDepth 20000
set_option maxHeartbeats 4000000
namespace Go.Proofs.Ytoflahjlnbligaa
open Go.RowKit Go.Shelf
theorem aev_pl {a b : Est} (h : a.places = b.places) (t : Int) (x : Acc) : aevOk a t x = aevOk b t x := by
  have e : decide (accP a x) = decide (accP b x) := decide_eq_decide.2 (by unfold accP; rw [h])
  unfold aevOk accB; rw [e]
theorem tw_self {α : Type} {q : α → Bool} : ∀ {l : List α}, (∀ x ∈ l, q x = true) → l.takeWhile q = l
  | [], _ => rfl
  | x :: l, h => by rw [List.takeWhile_cons, if_pos (h x (by simp)), tw_self fun y hy => h y (by simp [hy])]
def lastT (a : Est) : Int := prevA a.evs a.evs.length
def addE (a : Est) (x : Acc) : Est := ⟨a.places, a.evs ++ [x]⟩
theorem add_ok {a : Est} (he : estB a = true) {x : Acc} (hl : a.evs.length < 120) (ht : x.time = lastT a) (hx : accP a x) : estB (addE a x) = true := by
  obtain ⟨g1, g2, g3, g4⟩ := estB_iff.1 he
  refine estB_iff.2 ⟨g1, g2, by unfold addE; simp; omega, fun i hi => ?_⟩
  unfold addE at hi ⊢
  simp only [List.length_append, List.length_singleton] at hi
  dsimp only
  rw [prevA_app (by omega), aev_pl (a := ⟨a.places, a.evs ++ [x]⟩) (b := a) rfl]
  by_cases e : i < a.evs.length
  · rw [gt_app_l (by omega) (by omega)]; exact g4 i e
  · obtain rfl : i = a.evs.length := by omega
    rw [gt_app_r]
    refine aevOk_iff.2 ⟨by rw [ht]; exact Int.le_refl _, ?_, decide_eq_true hx⟩
    rw [ht]; unfold lastT prevA
    split
    · omega
    · exact (est_time he _ (gt_mem (by omega) (by omega))).2
theorem last_ge {a : Est} (he : estB a = true) : ∀ x ∈ a.evs, x.time ≤ lastT a := fun x hx => by
  obtain ⟨i, hi, rfl⟩ := mem_gt hx
  unfold lastT prevA
  rw [if_neg (by omega)]
  by_cases e : i = a.evs.length - 1
  · rw [show ((a.evs.length : Int) - 1) = (i : Int) by omega]; exact Int.le_refl _
  · have := (List.pairwise_iff_getElem.1 (est_sorted he)) i (a.evs.length - 1) hi (by omega) (by omega)
    rw [gt_nat hi, show ((a.evs.length : Int) - 1) = ((a.evs.length - 1 : Nat) : Int) by omega, gt_nat (by omega)]
    exact this
theorem last_in {a : Est} (he : estB a = true) {c p : Int} : inT a c p (lastT a) = gt (nowS a c a.evs.length) p := by
  unfold inT
  have : happS a (lastT a) = a.evs.length := by
    unfold happS; rw [tw_self (q := fun x : Acc => decide (x.time ≤ lastT a)) (fun x hx => by have := last_ge he x hx; simpa using this)]
  rw [this]
theorem add_in {a : Est} (he : estB a = true) {x : Acc} (ht : x.time = lastT a) (c p : Int) : inT (addE a x) c p (lastT a) = gt (stepB c (nowS a c a.evs.length) x) p := by
  unfold inT
  have : happS (addE a x) (lastT a) = a.evs.length + 1 := by
    unfold happS addE; rw [tw_self (q := fun x : Acc => decide (x.time ≤ lastT a)) (fun y hy => by
      rcases List.mem_append.1 hy with hy | hy
      · have := last_ge he y hy; simpa using this
      · simp at hy; subst hy; simp [ht])]
    simp
  rw [this]
  unfold nowS addE
  dsimp only
  rw [show a.evs.length + 1 = (a.evs ++ [x]).length by simp, List.take_length, List.foldl_append, List.take_length]
  rfl
theorem add_rem {a : Est} (he : estB a = true) {c d p q : Int} (hp : 0 ≤ p ∧ p < a.places) (hq : 0 ≤ q ∧ q < a.places) : inT (addE a ⟨lastT a, 6, q, 0, 0, d, 0⟩) c p (lastT a) = (inT a c p (lastT a) && decide (¬ (p = q ∧ c = d))) := by
  rw [add_in he rfl, last_in he]
  unfold stepB
  dsimp only
  rw [if_neg (by omega), if_pos rfl, gt_setq hq.1 hp.1 (by rw [nowS_len]; omega)]
  by_cases e : p = q
  · subst e; rw [if_pos rfl]; simp [eq_comm]
  · rw [if_neg e]; simp [e]
theorem add_cop {a : Est} (he : estB a = true) {c p q r : Int} (hp : 0 ≤ p ∧ p < a.places) (hq : 0 ≤ q ∧ q < a.places) : inT (addE a ⟨lastT a, 7, q, 0, 0, 0, r⟩) c p (lastT a) = (inT a c p (lastT a) || decide (p = q) && inT a c r (lastT a)) := by
  rw [add_in he rfl, last_in he, last_in he]
  unfold stepB
  dsimp only
  rw [if_neg (by omega), if_neg (by omega), if_pos rfl, gt_setq hq.1 hp.1 (by rw [nowS_len]; omega)]
  by_cases e : p = q
  · subst e; rw [if_pos rfl]; simp
  · rw [if_neg e]; simp [e]
theorem mem_holds {a : Est} {c p t : Int} (he : estB a = true) (hp : 0 ≤ p ∧ p < a.places) (hc : 0 ≤ c ∧ c ≤ 63) : decide (c ∈ holdsS a p t) = inT a c p t := by
  unfold holdsS
  rw [if_pos (by rw [he]; simp [inB]; omega), Bool.eq_iff_iff, decide_eq_true_eq, List.mem_filter, rg'_mem]
  exact ⟨fun h => h.2, fun h => ⟨⟨hc.1, by omega⟩, h⟩⟩
end Go.Proofs.Ytoflahjlnbligaa
