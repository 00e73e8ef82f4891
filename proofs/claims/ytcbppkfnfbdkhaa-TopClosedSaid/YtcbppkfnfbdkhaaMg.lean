/- What is taken away later changes nothing before. -/
import Derived.Test.YtcbppkfnfbdkhaaMe
set_option linter.all false
set_option maxRecDepth 20000
set_option maxHeartbeats 4000000
namespace Go.Proofs.Ytcbppkfnfbdkhaa
open Go.RowKit Go.Shelf
theorem tw_all {α : Type} {q : α → Bool} : ∀ {l : List α}, (∀ x ∈ l, q x = true) → l.takeWhile q = l
  | [], _ => rfl
  | x :: l, h => by rw [List.takeWhile_cons, if_pos (h x (by simp)), tw_all fun y hy => h y (by simp [hy])]
theorem tw_app {α : Type} {q : α → Bool} {r : List α} (hr : ∀ x ∈ r, q x = false) : ∀ {l : List α}, (l ++ r).takeWhile q = l.takeWhile q
  | [] => by
    cases r with
    | nil => rfl
    | cons x r => rw [List.nil_append, List.takeWhile_cons, hr x (by simp)]; rfl
  | x :: l => by
    rw [List.cons_append, List.takeWhile_cons, List.takeWhile_cons, tw_app hr]
theorem where_no {a : Est} {c t : Int} (h : ∀ p : Int, 0 ≤ p ∧ p < a.places → inT a c p t = false) : whereS a c t = [] := by
  unfold whereS
  split
  · rw [List.filter_eq_nil_iff]
    intro p hp
    rw [rg'_mem] at hp
    rw [h p (by omega)]; simp
  · rfl
theorem aev_pl {a b : Est} (h : a.places = b.places) (t : Int) (x : Acc) : aevOk a t x = aevOk b t x := by
  have e : decide (accP a x) = decide (accP b x) := decide_eq_decide.2 (by unfold accP; rw [h])
  unfold aevOk accB; rw [e]
def remE (a : Est) (c E : Int) (W : List Int) : Est := ⟨a.places, a.evs ++ W.map fun p => ⟨E + 1, 6, p, 0, 0, c, 0⟩⟩
theorem evs_le {a : Est} (he : estB a = true) {L : Int} (hL : prevA a.evs a.evs.length ≤ L) : ∀ x ∈ a.evs, x.time ≤ L := fun x hx => by
  obtain ⟨i, hi, rfl⟩ := mem_gt hx
  unfold prevA at hL
  rw [if_neg (by omega)] at hL
  have := (List.pairwise_iff_getElem.1 (est_sorted he)) 
  by_cases e : i = a.evs.length - 1
  · rw [show (i : Int) = (a.evs.length : Int) - 1 by omega]; exact hL
  · have h2 := this i (a.evs.length - 1) hi (by omega) (by omega)
    rw [gt_nat hi]
    rw [show ((a.evs.length : Int) - 1) = ((a.evs.length - 1 : Nat) : Int) by omega, gt_nat (by omega)] at hL
    omega
theorem remE_ok {a : Est} (he : estB a = true) {c E : Int} {W : List Int} (hc : 0 ≤ c ∧ c ≤ 63) (hE : prevA a.evs a.evs.length ≤ E) (hE2 : E + 1 ≤ 1099511627776) (hW : ∀ p ∈ W, 0 ≤ p ∧ p < a.places) (hl : a.evs.length + W.length ≤ 120) : estB (remE a c E W) = true := by
  obtain ⟨g1, g2, g3, g4⟩ := estB_iff.1 he
  refine estB_iff.2 ⟨g1, g2, by unfold remE; simp; omega, fun i hi => ?_⟩
  unfold remE at hi ⊢
  dsimp only at hi ⊢
  simp only [List.length_append, List.length_map] at hi
  rw [aev_pl (a := ⟨a.places, a.evs ++ W.map fun p => (⟨E + 1, 6, p, 0, 0, c, 0⟩ : Acc)⟩) (b := a) rfl]
  have hgt : ∀ j : Nat, j < W.length → gt (a.evs ++ W.map fun p => (⟨E + 1, 6, p, 0, 0, c, 0⟩ : Acc)) ((a.evs.length + j : Nat) : Int) = ⟨E + 1, 6, gt W (j : Int), 0, 0, c, 0⟩ := fun j hj => by
    rw [gt_nat (by simp; omega), List.getElem_append_right (by omega), gt_nat hj]
    simp
  by_cases e : i < a.evs.length
  · have e1 : prevA (a.evs ++ W.map fun p => (⟨E + 1, 6, p, 0, 0, c, 0⟩ : Acc)) i = prevA a.evs i := by
      unfold prevA
      split
      · rfl
      · rw [gt_app_l (by omega) (by omega)]
    rw [e1, gt_app_l (by omega) (by omega)]; exact g4 i e
  · obtain ⟨j, rfl⟩ : ∃ j, i = a.evs.length + j := ⟨i - a.evs.length, by omega⟩
    have hj : j < W.length := by omega
    rw [hgt j hj]
    have hp := hW _ (gt_mem (xs := W) (i := (j : Int)) (by omega) (by omega))
    refine aevOk_iff.2 ⟨?_, hE2, decide_eq_true ?_⟩
    · show prevA _ _ ≤ E + 1
      cases j with
      | zero =>
        have e1 : prevA (a.evs ++ W.map fun p => (⟨E + 1, 6, p, 0, 0, c, 0⟩ : Acc)) (a.evs.length + 0) = prevA a.evs a.evs.length := by
          unfold prevA
          simp only [Nat.add_zero]
          split
          · rfl
          · rw [gt_app_l (by omega) (by omega)]
        rw [e1]; omega
      | succ j =>
        rw [← Nat.add_assoc, prevA_succ, hgt j (by omega)]
        exact Int.le_refl _
    · unfold accP; dsimp only; omega
section
variable {a : Est} {c E : Int} {W : List Int}
theorem rem_hap (t : Int) (ht : t ≤ E) : happS (remE a c E W) t = happS a t := by
  unfold happS remE
  rw [tw_app (r := W.map fun p => (⟨E + 1, 6, p, 0, 0, c, 0⟩ : Acc)) (fun x hx => by
    obtain ⟨p, _, rfl⟩ := List.mem_map.1 hx
    exact decide_eq_false (by dsimp only; omega))]
theorem rem_now (c' : Int) (n : Nat) (hn : n ≤ a.evs.length) : nowS (remE a c E W) c' n = nowS a c' n := by
  unfold nowS remE
  dsimp only
  rw [List.take_append_of_le_length hn]
theorem rem_in (c' p t : Int) (ht : t ≤ E) : inT (remE a c E W) c' p t = inT a c' p t := by
  unfold inT
  rw [rem_hap t ht, rem_now c' _ (happS_le a t)]
theorem rem_where (he : estB a = true) (hm : estB (remE a c E W) = true) (c' t : Int) (ht : t ≤ E) : whereS (remE a c E W) c' t = whereS a c' t := by
  unfold whereS rightB
  rw [he, hm]
  have e : (fun p => inT (remE a c E W) c' p t) = fun p => inT a c' p t := funext fun p => rem_in c' p t ht
  rw [e]
  rfl
theorem rem_fold (c E : Int) : ∀ (W : List Int) (s : List Bool) (p : Int), (∀ q ∈ W, 0 ≤ q ∧ q < (s.length : Int)) → 0 ≤ p → p < (s.length : Int) → gt ((W.map fun p => (⟨E + 1, 6, p, 0, 0, c, 0⟩ : Acc)).foldl (stepB c) s) p = (gt s p && !decide (p ∈ W))
  | [], s, p, _, _, _ => by simp
  | q :: W, s, p, h, h0, h1 => by
    have hq := h q (by simp)
    have e : stepB c s ⟨E + 1, 6, q, 0, 0, c, 0⟩ = s.set q.toNat false := by
      unfold stepB; simp
    rw [List.map_cons, List.foldl_cons, e, rem_fold c E W (s.set q.toNat false) p (fun r hr => by rw [List.length_set]; exact h r (by simp [hr])) h0 (by rw [List.length_set]; exact h1)]
    rw [gt_setq hq.1 h0 h1]
    by_cases e2 : p = q
    · simp [e2]
    · simp [e2]
theorem rem_gone (he : estB a = true) (hc : 0 ≤ c ∧ c ≤ 63) {last : Int} (hl : ∀ x ∈ a.evs, x.time ≤ last) (hE : last ≤ E) (t : Int) (ht : E + 1 ≤ t) : whereS (remE a c E (whereS a c last)) c t = [] := by
  refine where_no fun p hp => ?_
  have hp' : 0 ≤ p ∧ p < a.places := hp
  have hW : ∀ q, q ∈ whereS a c last ↔ (0 ≤ q ∧ q < (a.places.toNat : Int)) ∧ inT a c q last = true := fun q => by
    unfold whereS rightB
    rw [he, show inB c 0 63 = true from (inB_iff ..).2 hc]
    simp only [Bool.and_self, if_true, List.mem_filter, rg'_mem]
  have hall : happS (remE a c E (whereS a c last)) t = (a.evs ++ (whereS a c last).map fun p => (⟨E + 1, 6, p, 0, 0, c, 0⟩ : Acc)).length := by
    unfold happS remE
    dsimp only
    rw [tw_all fun x hx => ?_]
    rcases List.mem_append.1 hx with hx | hx
    · exact decide_eq_true (by have := hl x hx; omega)
    · obtain ⟨q, _, rfl⟩ := List.mem_map.1 hx
      exact decide_eq_true (by dsimp only; omega)
  have hlast : happS a last = a.evs.length := by
    unfold happS
    rw [tw_all fun x hx => decide_eq_true (hl x hx)]
  unfold inT
  rw [hall]
  unfold nowS remE
  dsimp only
  rw [List.take_length, List.foldl_append]
  have hs : a.evs.foldl (stepB c) (List.replicate a.places.toNat false) = nowS a c a.evs.length := by unfold nowS; rw [List.take_length]
  rw [hs, rem_fold c E _ _ _ (fun q hq => by rw [nowS_len]; exact ((hW q).1 hq).1) hp'.1 (by rw [nowS_len]; omega)]
  by_cases hin : p ∈ whereS a c last
  · simp [hin]
  · have : inT a c p last = false := by
      rw [Bool.eq_false_iff]
      intro h
      exact hin ((hW p).2 ⟨by omega, h⟩)
    unfold inT at this
    rw [hlast] at this
    rw [this]; rfl
theorem lnk_skip {t p : Int} {l : List Acc} : ∀ {r : List Acc}, (∀ x ∈ r, t < x.time) → lnkR t p (r ++ l) = lnkR t p l
  | [], _ => rfl
  | x :: r, h => by
    rw [List.cons_append, lnkR, if_pos (.inl (h x (by simp))), lnk_skip fun y hy => h y (by simp [hy])]
theorem gr_skip {t p : Int} : ∀ {r : List Acc} {s : List Int}, (∀ x ∈ r, t < x.time) → r.foldl (grStep t p) s = s
  | [], s, _ => rfl
  | x :: r, s, h => by
    rw [List.foldl_cons, grStep, if_pos (.inl (h x (by simp))), gr_skip fun y hy => h y (by simp [hy])]
theorem rem_late {t : Int} (ht : t ≤ E) : ∀ x ∈ W.map fun p => (⟨E + 1, 6, p, 0, 0, c, 0⟩ : Acc), t < x.time := fun x hx => by
  obtain ⟨p, _, rfl⟩ := List.mem_map.1 hx
  dsimp only; omega
theorem rem_estP (he : estB a = true) (hm : estB (remE a c E W) = true) (p : Int) : estP (remE a c E W) p = estP a p := by
  unfold estP; rw [he, hm]; rfl
theorem rem_link (he : estB a = true) (hm : estB (remE a c E W) = true) (p t : Int) (ht : t ≤ E) : linkS (remE a c E W) p t = linkS a p t := by
  unfold linkS
  rw [rem_estP he hm]
  have e : (remE a c E W).evs.reverse = (W.map fun p => (⟨E + 1, 6, p, 0, 0, c, 0⟩ : Acc)).reverse ++ a.evs.reverse := by
    unfold remE; rw [List.reverse_append]
  rw [e, lnk_skip fun x hx => rem_late ht x (List.mem_reverse.1 hx)]
theorem rem_gr (p t : Int) (ht : t ≤ E) : grS t p (remE a c E W).evs = grS t p a.evs := by
  unfold grS remE
  dsimp only
  rw [List.foldl_append, gr_skip (rem_late ht)]
theorem rem_may (he : estB a = true) (hm : estB (remE a c E W) = true) (d : Dir) (p x t : Int) (ht : t ≤ E) : mayS d (remE a c E W) p x t = mayS d a p x t := by
  have e1 : fineB d (remE a c E W) p x = fineB d a p x := by unfold fineB; rw [he, hm]; rfl
  have e2 : graB d (remE a c E W) p x t = graB d a p x t := by
    unfold graB
    rw [rem_estP he hm, rem_gr x t ht]
  unfold mayS
  rw [e1, rem_link he hm x t ht]
  congr 2
  exact decide_eq_decide.2 (by rw [e2])
theorem rem_pl (he : estB a = true) (hm : estB (remE a c E W) = true) (d : Dir) (c' p t : Int) (ht : t ≤ E) : plS d (remE a c E W) c' p t = plS d a c' p t := by
  have e : canB d (remE a c E W) p t = canB d a p t := funext fun x => by
    unfold canB
    rw [rem_link he hm x t ht, rem_may he hm d p x t ht]
  unfold plS
  rw [rem_where he hm c' t ht, e]
end
theorem pl_none {d : Dir} {a : Est} {c p t : Int} (h : whereS a c t = []) : plS d a c p t = (0, false) := by
  unfold plS; rw [h]; rfl
theorem sorted_ext : ∀ {l m : List Int}, l.Pairwise (· < ·) → m.Pairwise (· < ·) → (∀ x, x ∈ l ↔ x ∈ m) → l = m
  | [], [], _, _, _ => rfl
  | [], y :: m, _, _, h => absurd ((h y).2 (by simp)) (by simp)
  | x :: l, [], _, _, h => absurd ((h x).1 (by simp)) (by simp)
  | x :: l, y :: m, hl, hm, h => by
    obtain ⟨l1, l2⟩ := List.pairwise_cons.1 hl
    obtain ⟨m1, m2⟩ := List.pairwise_cons.1 hm
    have e : x = y := by
      rcases List.mem_cons.1 ((h x).1 (by simp)) with e | hx
      · exact e
      · rcases List.mem_cons.1 ((h y).2 (by simp)) with e | hy
        · exact e.symm
        · have := l1 y hy; have := m1 x hx; omega
    subst e
    rw [sorted_ext l2 m2 fun z => ?_]
    have hz := h z
    simp only [List.mem_cons] at hz
    constructor
    · intro hzl
      rcases hz.1 (.inr hzl) with e | h'
      · have := l1 z hzl; omega
      · exact h'
    · intro hzm
      rcases hz.2 (.inr hzm) with e | h'
      · have := m1 z hzm; omega
      · exact h'
theorem alltS_sorted (d : Dir) (a : Est) : (alltS d a).Pairwise (· < ·) := by
  unfold alltS
  rw [compact_ded]
  exact ded_sorted _ List.Pairwise.nil (srt_ord _) (fun y hy => by cases hy)
theorem alltS_mem {d : Dir} {a : Est} (he : estB a = true) {x : Int} : x ∈ alltS d a ↔ x ∈ a.evs.map Acc.time ∨ x ∈ d.evs.map Mb.time := by
  unfold alltS
  rw [compact_ded]
  unfold ded
  rw [ded_mem, srt_mem, List.mem_append]
  unfold timesS
  rw [if_pos he]
  unfold ded
  rw [ded_mem]
  simp
theorem timesS_len {a : Est} (he : estB a = true) : (timesS a).length ≤ 120 := by
  unfold timesS
  rw [if_pos he, ← compact_ded]
  have := compact_le (a.evs.map Acc.time)
  rw [List.length_map] at this
  have := (estB_iff.1 he).2.2.1
  omega
theorem rem_since {a : Est} {c E : Int} {d : Dir} {last : Int} (he : estB a = true) (hm : estB (remE a c E (whereS a c last)) = true) (hc : 0 ≤ c ∧ c ≤ 63) (hl : ∀ x ∈ a.evs, x.time ≤ last) (hE : last ≤ E) (hd : ∀ x ∈ d.evs, x.time ≤ E) (p : Int) : sinceS d (remE a c E (whereS a c last)) c p = sinceS d a c p := by
  have hle : ∀ t ∈ alltS d a, t ≤ E := fun t ht => by
    rcases (alltS_mem he).1 ht with h | h
    · obtain ⟨x, hx, rfl⟩ := List.mem_map.1 h
      have := hl x hx; omega
    · obtain ⟨x, hx, rfl⟩ := List.mem_map.1 h
      exact hd x hx
  have key : (alltS d (remE a c E (whereS a c last))).find? (fun t => (plS d (remE a c E (whereS a c last)) c p t).2) = (alltS d a).find? (fun t => (plS d a c p t).2) := by
    have hsame : ∀ l : List Int, (∀ t ∈ l, t ≤ E) → l.find? (fun t => (plS d (remE a c E (whereS a c last)) c p t).2) = l.find? (fun t => (plS d a c p t).2) := fun l => by
      induction l with
      | nil => intro _; rfl
      | cons t l ih =>
        intro h
        rw [List.find?_cons, List.find?_cons, rem_pl he hm d c p t (h t (by simp)), ih fun x hx => h x (by simp [hx])]
    by_cases hw : whereS a c last = []
    · have e : alltS d (remE a c E (whereS a c last)) = alltS d a := by rw [hw]; unfold remE; simp
      rw [e, hsame _ hle]
    · have e : alltS d (remE a c E (whereS a c last)) = alltS d a ++ [E + 1] := by
        refine sorted_ext (alltS_sorted ..) ?_ fun x => ?_
        · refine List.pairwise_append.2 ⟨alltS_sorted .., by simp, fun x hx y hy => ?_⟩
          rw [List.mem_singleton] at hy
          have := hle x hx; omega
        · rw [alltS_mem hm, List.mem_append, alltS_mem he, List.mem_singleton]
          unfold remE
          dsimp only
          rw [List.map_append, List.mem_append, List.map_map]
          have hx2 : x ∈ (whereS a c last).map (Acc.time ∘ fun p => (⟨E + 1, 6, p, 0, 0, c, 0⟩ : Acc)) ↔ x = E + 1 := by
            constructor
            · intro h
              obtain ⟨q, _, e⟩ := List.mem_map.1 h
              exact e.symm
            · rintro rfl
              obtain ⟨q, hq⟩ := List.exists_mem_of_ne_nil _ hw
              exact List.mem_map.2 ⟨q, hq, rfl⟩
          rw [hx2]
          constructor
          · rintro ((h | h) | h)
            · exact .inl (.inl h)
            · exact .inr h
            · exact .inl (.inr h)
          · rintro ((h | h) | h)
            · exact .inl (.inl h)
            · exact .inr h
            · exact .inl (.inr h)
      rw [e, List.find?_append, hsame _ hle]
      have hn : (plS d (remE a c E (whereS a c last)) c p (E + 1)).2 = false := by rw [pl_none (rem_gone he hc hl hE (E + 1) (Int.le_refl _))]
      rw [List.find?_cons_of_neg (by rw [hn]; simp)]
      simp
  unfold sinceS
  rw [key]
theorem rem_all {a : Est} {c E : Int} {d : Dir} {last : Int} (he : estB a = true) (hm : estB (remE a c E (whereS a c last)) = true) (hc : 0 ≤ c ∧ c ≤ 63) (hl : ∀ x ∈ a.evs, x.time ≤ last) (hE : last ≤ E) (hd : ∀ x ∈ d.evs, x.time ≤ E) : allS d (remE a c E (whereS a c last)) c = allS d a c := by
  unfold allS
  congr 1
  funext i
  unfold exOne
  rw [rem_since he hm hc hl hE hd]
end Go.Proofs.Ytcbppkfnfbdkhaa
