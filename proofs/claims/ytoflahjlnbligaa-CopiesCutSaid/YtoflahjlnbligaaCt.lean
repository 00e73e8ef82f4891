/- Estates: cut; one event more. -/
import Derived.Test.YtoflahjlnbligaaCs
set_option linter.all false
set_option maxRecDepth 20000
set_option maxHeartbeats 4000000
namespace Go.Proofs.Ytoflahjlnbligaa
open Go.RowKit Go.Shelf
def putB (a : Est) (c : Int) : Bool := a.evs.any fun x => decide (x.kind = 5 ∧ x.cont = c)
theorem no_put {c : Int} : ∀ (l : List Acc) {b : List Bool}, (∀ x ∈ l, ¬ (x.kind = 5 ∧ x.cont = c)) → (∀ x ∈ l, x.kind = 7 → 0 ≤ x.frm ∧ x.frm < (b.length : Int)) → (∀ x ∈ l, 5 ≤ x.kind ∧ x.kind ≤ 7 → 0 ≤ x.place ∧ x.place < (b.length : Int)) → (∀ p : Int, 0 ≤ p → p < (b.length : Int) → gt b p = false) → ∀ p : Int, 0 ≤ p → p < (b.length : Int) → gt (l.foldl (stepB c) b) p = false
  | [], b, _, _, _, hb => hb
  | x :: l, b, h1, h2, h3, hb => by
    rw [List.foldl_cons]
    have hn := h1 x (by simp)
    have hf := h2 x (by simp)
    have hg := h3 x (by simp)
    intro p p0 p1
    rw [← stepB_len c b x] at p1
    refine no_put l (fun y hy => h1 y (by simp [hy])) (fun y hy => by rw [stepB_len]; exact h2 y (by simp [hy])) (fun y hy => by rw [stepB_len]; exact h3 y (by simp [hy])) (fun q q0 q1 => ?_) p p0 p1
    rw [stepB_len] at q1
    unfold stepB
    by_cases e5 : x.kind = 5
    · have hg := hg (by omega)
      rw [if_pos e5, gt_setq hg.1 q0 q1]
      split
      · rw [hb _ hg.1 hg.2]; simp; exact fun e => hn ⟨e5, e⟩
      · exact hb q q0 q1
    · rw [if_neg e5]
      by_cases e6 : x.kind = 6
      · have hg := hg (by omega)
        rw [if_pos e6, gt_setq hg.1 q0 q1]
        split
        · rw [hb _ hg.1 hg.2]; rfl
        · exact hb q q0 q1
      · rw [if_neg e6]
        by_cases e7 : x.kind = 7
        · have hg := hg (by omega)
          have hf := hf e7
          rw [if_pos e7, gt_setq hg.1 q0 q1]
          split
          · rw [hb _ hg.1 hg.2, hb _ hf.1 hf.2]; rfl
          · exact hb q q0 q1
        · rw [if_neg e7]; exact hb q q0 q1
theorem no_put_in {a : Est} (he : estB a = true) {c : Int} (h : putB a c = false) (p t : Int) (hp : 0 ≤ p ∧ p < a.places) : inT a c p t = false := by
  unfold inT nowS
  have hm : ∀ x ∈ List.take (happS a t) a.evs, x ∈ a.evs := fun x hx => List.mem_of_mem_take hx
  refine no_put _ (fun x hx => ?_) (fun x hx h7 => ?_) (fun x hx h7 => ?_) (fun q q0 q1 => ?_) p hp.1 (by simp; omega)
  · have := h
    unfold putB at this
    rw [Bool.eq_false_iff, Ne, List.any_eq_true] at this
    exact fun e => this ⟨x, hm x hx, decide_eq_true e⟩
  · obtain ⟨_, g⟩ := est_acc he x (hm x hx)
    simp; omega
  · obtain ⟨g, _⟩ := est_acc he x (hm x hx)
    simp; omega
  · exact gt_rep q0 (by simpa using q1)
theorem where_nil {a : Est} {c t : Int} (h : ∀ p : Int, 0 ≤ p ∧ p < a.places → inT a c p t = false) : whereS a c t = [] := by
  unfold whereS
  split
  · rw [List.filter_eq_nil_iff]
    intro p hp
    rw [rg'_mem] at hp
    rw [h p (by omega)]; simp
  · rfl
theorem stp_nil {a : Est} {c p : Int} (h : ∀ t, inT a c p t = false) : ∀ (ts : List Int), ts.foldl (stp a c p) (-1, []) = (-1, [])
  | [] => rfl
  | t :: ts => by
    rw [List.foldl_cons]
    have : stp a c p (-1, []) t = (-1, []) := by
      unfold stp; rw [h t, if_neg (by simp), if_neg (by simp)]
    rw [this, stp_nil h ts]
theorem stays_nil {a : Est} {c : Int} (h : ∀ p t : Int, 0 ≤ p ∧ p < a.places → inT a c p t = false) : staysS a c = [] := by
  unfold staysS
  split
  · have key : ∀ n : Nat, n ≤ a.places.toNat → (rg' n).foldl (plc a c) [] = [] := by
      intro n
      induction n with
      | zero => intro _; rfl
      | succ n ih =>
        intro hn
        rw [rg'_fold, ih (by omega)]
        unfold plc
        rw [stp_nil fun t => h n t (by omega), if_neg (by simp)]
    exact key _ (Nat.le_refl _)
  · rfl
def cutE (a : Est) (t : Int) : Est := ⟨a.places, a.evs.filter fun x => decide (x.time ≤ t)⟩
theorem cut_take {a : Est} (he : estB a = true) (t : Int) : (cutE a t).evs = a.evs.take (happS a t) := by
  unfold cutE happS
  rw [take_tw, filter_tw (r := fun x y : Acc => x.time ≤ y.time) (fun x y h1 h2 => by simp at h2 ⊢; omega) (est_sorted he)]
theorem gt_take {α : Type} [Inhabited α] {l : List α} {n : Nat} {k : Int} (h0 : 0 ≤ k) (h1 : k < n) (h2 : k < l.length) : gt (l.take n) k = gt l k := by
  rw [gt_eq (by rw [List.length_take]; omega), gt_eq (by omega), List.getElem_take]
theorem prevA_take {l : List Acc} {n i : Nat} (h : i ≤ n) (h2 : i ≤ l.length) : prevA (l.take n) i = prevA l i := by
  unfold prevA
  split
  · rfl
  · rw [gt_take (by omega) (by omega) (by omega)]
theorem aev_pl {a b : Est} (h : a.places = b.places) (t : Int) (x : Acc) : aevOk a t x = aevOk b t x := by
  have e : decide (accP a x) = decide (accP b x) := decide_eq_decide.2 (by unfold accP; rw [h])
  unfold aevOk accB; rw [e]
theorem cut_ok {a : Est} (he : estB a = true) (t : Int) : estB (cutE a t) = true := by
  have h1 := cut_take he t
  have hl := happS_le a t
  obtain ⟨g1, g2, g3, g4⟩ := estB_iff.1 he
  refine estB_iff.2 ⟨g1, g2, ?_, fun i hi => ?_⟩
  · rw [h1]; simp; omega
  · rw [h1] at hi ⊢
    simp at hi
    rw [prevA_take (by omega) (by omega), gt_take (by omega) (by omega) (by omega), aev_pl (a := cutE a t) (b := a) rfl]
    exact g4 i (by omega)
theorem tw_self {α : Type} {q : α → Bool} : ∀ {l : List α}, (∀ x ∈ l, q x = true) → l.takeWhile q = l
  | [], _ => rfl
  | x :: l, h => by rw [List.takeWhile_cons, if_pos (h x (by simp)), tw_self fun y hy => h y (by simp [hy])]
theorem cut_in {a : Est} (he : estB a = true) {t u : Int} (hu : t ≤ u) (c p : Int) : inT (cutE a t) c p u = inT a c p t := by
  have h1 := cut_take he t
  have h2 : happS (cutE a t) u = (cutE a t).evs.length := by
    unfold happS
    rw [tw_self (q := fun x : Acc => decide (x.time ≤ u)) (fun x hx => by
      unfold cutE at hx
      have := (List.mem_filter.1 hx).2
      simp at this ⊢; omega)]
  unfold inT nowS
  rw [h2, List.take_length, h1]
  rfl
theorem cut_where {a : Est} (he : estB a = true) {t u : Int} (hu : t ≤ u) (c : Int) : whereS (cutE a t) c u = whereS a c t := by
  unfold whereS rightB
  rw [cut_ok he t, he]
  have e : (cutE a t).places = a.places := rfl
  rw [e]
  split
  · exact List.filter_congr fun p _ => cut_in he hu c p
  · rfl
end Go.Proofs.Ytoflahjlnbligaa
