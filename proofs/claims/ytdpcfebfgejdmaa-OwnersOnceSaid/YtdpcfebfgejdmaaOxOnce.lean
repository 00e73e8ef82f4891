/- OwnersOnce, shown. -/
import Derived.Test.YtdpcfebfgejdmaaOkOnce
set_option linter.all false
set_option maxRecDepth 20000
set_option maxHeartbeats 4000000
namespace Go.Proofs.Ytdpcfebfgejdmaa
open Go.RowKit Go.Shelf
theorem wayN_pre (l : List Stw) (t : Int) (n : Nat) : ∀ (acc : List Int) (q : Int), ∃ tl, wayN l t n acc q = acc ++ tl := by
  induction n with
  | zero => intro acc q; exact ⟨[], by simp [wayN]⟩
  | succ n ih =>
    intro acc q
    simp only [wayN]
    split
    · exact ⟨[], by simp⟩
    · obtain ⟨tl, h⟩ := ih (acc ++ [q]) (ofS l q t)
      exact ⟨q :: tl, by rw [h]; simp⟩
theorem own_person {d : Dir} {l : List Stw} {p t : Int} (hk : knB d l p = true) (h0 : 0 ≤ p) (h1 : gt d.kinds p = 1) : ownS d l p t = (p, true) := by
  obtain ⟨tl, h⟩ := wayN_pre l t d.kinds.length [p] (ofS l p t)
  have hw : wayS d l p t = p :: tl := by
    unfold wayS
    rw [if_pos hk]
    simp only [wayN]
    rw [if_neg (by simp; omega)]
    simpa using h
  unfold ownS firstP
  rw [hw]
  simp [h1]
theorem own_kind {d : Dir} {l : List Stw} {p t : Int} (h : (ownS d l p t).2 = true) : gt d.kinds (ownS d l p t).1 = 1 := by
  unfold ownS firstP at h ⊢
  split at h
  · rename_i q hq
    have := List.find?_some hq
    simpa using this
  · cases h
/-- How often q is in lists. -/
def occ (ls : List (List Int)) (q : Int) : Nat := ls.foldl (fun n l => n + l.count q) 0
theorem occ_acc (q : Int) (ls : List (List Int)) : ∀ n : Nat, ls.foldl (fun n l => n + l.count q) n = n + occ ls q := by
  induction ls with
  | nil => intro n; simp [occ]
  | cons x ls ih => intro n; unfold occ; simp only [List.foldl_cons]; rw [ih, ih]; omega
theorem occ_app (a b : List (List Int)) (q : Int) : occ (a ++ b) q = occ a q + occ b q := by
  unfold occ; rw [List.foldl_append, occ_acc]; rfl
theorem occ_one (l : List Int) (q : Int) : occ [l] q = l.count q := by simp [occ]
theorem occ_succ {ls : List (List Int)} {i : Nat} (h : i < ls.length) (q : Int) : occ (ls.take (i + 1)) q = occ (ls.take i) q + (gt ls (i : Int)).count q := by
  rw [List.take_succ_eq_append_getElem h, occ_app, occ_one, gt_nat h]
theorem occ_le (ls : List (List Int)) (i : Nat) (q : Int) : occ (ls.take i) q ≤ occ ls q := by
  have : occ ls q = occ (ls.take i) q + occ (ls.drop i) q := by rw [← occ_app, List.take_append_drop]
  omega
theorem intsTo_nodup (n : Nat) : (intsTo n).Nodup := by
  unfold intsTo
  exact List.Pairwise.map _ (fun a b h e => h (by omega)) List.nodup_range
theorem selN_count (n : Nat) (p : Int → Bool) {q : Int} (h0 : 0 ≤ q) (h1 : q < n) : (selN n p).count q = if p q = true then 1 else 0 := by
  have hm := @mem_selN n p q
  by_cases hp : p q = true
  · rw [if_pos hp]
    have a1 := List.nodup_iff_count.1 ((intsTo_nodup n).filter p) q
    have a2 : 0 < (selN n p).count q := List.count_pos_iff.2 (hm.2 ⟨h0, h1, hp⟩)
    unfold selN at a2 ⊢
    omega
  · rw [if_neg hp]
    exact List.count_eq_zero_of_not_mem fun h => hp (hm.1 h).2.2
theorem take_count {l : List Int} {i : Nat} (h : i < l.length) (q : Int) : (l.take (i + 1)).count q = (l.take i).count q + if gt l (i : Int) = q then 1 else 0 := by
  rw [List.take_succ_eq_append_getElem h, List.count_append, gt_nat h]
  congr 1
  by_cases e : l[i] = q
  · subst e; simp
  · simp [e, List.count_cons]
theorem once_il (l : List Int) : ILt 8 [lv l] := (lawOnce_V l).2 (by
  (delta lawOnce_V; dsimp only [mkV])
  (repeat' (first | with_reducible refine brn_nd (fun h => ?_) (fun h => ?_) | with_reducible refine brn_d (fun h => ?_) (fun h => ?_) | with_reducible refine brn_nn (fun h => ?_) (fun h => ?_) | with_reducible refine brn_nb (fun h => ?_) (fun h => ?_) | with_reducible refine Brn.mk (fun h => ?_) (fun h => ?_) | with_reducible refine Chk.mk ?_ ?_ | with_reducible refine Bth.mk ?_ ?_ | with_reducible refine Fct.mk (fun hf => ?_)))
  · rfl
  intro d hd
  (repeat' (first | with_reducible refine brn_nd (fun h => ?_) (fun h => ?_) | with_reducible refine brn_d (fun h => ?_) (fun h => ?_) | with_reducible refine brn_nn (fun h => ?_) (fun h => ?_) | with_reducible refine brn_nb (fun h => ?_) (fun h => ?_) | with_reducible refine Brn.mk (fun h => ?_) (fun h => ?_) | with_reducible refine Chk.mk ?_ ?_ | with_reducible refine Bth.mk ?_ ?_ | with_reducible refine Fct.mk (fun hf => ?_)))
  · exact hd
  intro s hs
  (repeat' (first | with_reducible refine brn_nd (fun h => ?_) (fun h => ?_) | with_reducible refine brn_d (fun h => ?_) (fun h => ?_) | with_reducible refine brn_nn (fun h => ?_) (fun h => ?_) | with_reducible refine brn_nb (fun h => ?_) (fun h => ?_) | with_reducible refine Brn.mk (fun h => ?_) (fun h => ?_) | with_reducible refine Chk.mk ?_ ?_ | with_reducible refine Bth.mk ?_ ?_ | with_reducible refine Fct.mk (fun hf => ?_)))
  · omega
  intro t ht
  have hn := hd.n
  have hkn : ∀ p : Int, 0 ≤ p → p < d.kinds.length → knB d s p = true := fun p h0 h1 => by
    unfold knB; simp [hs.v, Dir.ex]; omega
  have hpick : ∀ q, pickS d s t q = selN d.kinds.length (fun p => q (ownS d s p t).1 (ownS d s p t).2) := fun q => by
    unfold pickS; rw [if_pos hs.v]
  have hin : ∀ q, ∀ y ∈ pickS d s t q, 0 ≤ y ∧ y < d.kinds.length := fun q y hy => by
    rw [hpick, mem_selN] at hy; exact ⟨hy.1, hy.2.1⟩
  have hc0 : ∀ y : Int, 0 ≤ y → y < d.kinds.length → (pickS d s t fun _ ok => !ok).count y = if (ownS d s y t).2 = true then 0 else 1 := fun y h0 h1 => by
    rw [hpick, selN_count _ _ h0 h1]
    cases (ownS d s y t).2 <;> rfl
  have hc1 : ∀ p y : Int, 0 ≤ y → y < d.kinds.length → (pickS d s t fun o ok => ok && decide (o = p)).count y = if (ownS d s y t).2 = true ∧ (ownS d s y t).1 = p then 1 else 0 := fun p y h0 h1 => by
    rw [hpick, selN_count _ _ h0 h1]
    simp
  (repeat' (first | with_reducible refine brn_nd (fun h => ?_) (fun h => ?_) | with_reducible refine brn_d (fun h => ?_) (fun h => ?_) | with_reducible refine brn_nn (fun h => ?_) (fun h => ?_) | with_reducible refine brn_nb (fun h => ?_) (fun h => ?_) | with_reducible refine Brn.mk (fun h => ?_) (fun h => ?_) | with_reducible refine Chk.mk ?_ ?_ | with_reducible refine Bth.mk ?_ ?_ | with_reducible refine Fct.mk (fun hf => ?_)))
  refine up2 (fun ls z => ls.length ≤ z + 1 ∧ (∀ x ∈ ls, ∀ y ∈ x, 0 ≤ y ∧ y < (d.kinds.length : Int)) ∧ ∀ y : Int, 0 ≤ y → y < d.kinds.length → occ ls y = if (ownS d s y t).2 = true then (if (ownS d s y t).1 < z then 1 else 0) else 1) (by omega) ⟨by simp, ?_, fun y h0 h1 => ?_⟩ (fun I μ ls z h0 h1 ⟨j1, j2, j3⟩ nx => ?_) (fun I μ ls ⟨j1, j2, j3⟩ => ?_)
  · intro x hx y hy
    rw [List.mem_singleton] at hx; subst hx
    exact hin _ y hy
  · rw [occ_one, hc0 y h0 h1]
    by_cases hy : (ownS d s y t).2 = true
    · rw [if_pos hy, if_pos hy, if_neg ?_]
      have := own_ex hy
      simp [Dir.ex] at this
      omega
    · rw [if_neg hy, if_neg hy]
  · have ex1 : ∀ y, (ownS d s y t).2 = true → 0 ≤ (ownS d s y t).1 ∧ (ownS d s y t).1 < d.kinds.length := fun y hy => by
      have := own_ex hy
      simpa [Dir.ex] using this
    (repeat' (first | with_reducible refine brn_nd (fun h => ?_) (fun h => ?_) | with_reducible refine brn_d (fun h => ?_) (fun h => ?_) | with_reducible refine brn_nn (fun h => ?_) (fun h => ?_) | with_reducible refine brn_nb (fun h => ?_) (fun h => ?_) | with_reducible refine Brn.mk (fun h => ?_) (fun h => ?_) | with_reducible refine Chk.mk ?_ ?_ | with_reducible refine Bth.mk ?_ ?_ | with_reducible refine Fct.mk (fun hf => ?_)))
    · omega
    · exfalso
      have hk : ¬ gt d.kinds z = 1 := by assumption
      have hl0 : 0 < (pickS d s t fun o ok => ok && decide (o = z)).length := by omega
      obtain ⟨y, hy⟩ := List.exists_mem_of_length_pos hl0
      rw [hpick, mem_selN] at hy
      have h2 := hy.2.2
      simp at h2
      have := own_kind h2.1
      rw [h2.2] at this
      exact hk this
    · unfold InI; omega
    · have hk : ¬ gt d.kinds z = 1 := by assumption
      refine nx _ ⟨by omega, j2, fun y h0 h1 => ?_⟩
      rw [j3 y h0 h1]
      by_cases hy : (ownS d s y t).2 = true
      · rw [if_pos hy, if_pos hy]
        have hne : (ownS d s y t).1 ≠ z := fun e => hk (e ▸ own_kind hy)
        by_cases hlt : (ownS d s y t).1 < z
        · rw [if_pos hlt, if_pos (by omega)]
        · rw [if_neg hlt, if_neg (by omega)]
      · rw [if_neg hy, if_neg hy]
    · simp; omega
    · exfalso
      have hk : gt d.kinds z = 1 := by assumption
      have hh : hasB (pickS d s t fun o ok => ok && decide (o = z)) z = false := by assumption
      have : z ∈ pickS d s t fun o ok => ok && decide (o = z) := by
        rw [hpick, mem_selN]
        refine ⟨h0, h1, ?_⟩
        rw [own_person (hkn z h0 h1) h0 hk]
        simp
      simp [hasB, this] at hh
    · unfold InI; omega
    · refine nx _ ⟨by simp; omega, fun x hx => ?_, fun y h0 h1 => ?_⟩
      · rcases List.mem_append.1 hx with hx | hx
        · exact j2 x hx
        · rw [List.mem_singleton] at hx; subst hx; exact hin _
      · rw [occ_app, occ_one, j3 y h0 h1, hc1 z y h0 h1]
        generalize (ownS d s y t).2 = b
        generalize (ownS d s y t).1 = o
        cases b
        · simp
        · simp only [if_true, true_and]
          repeat' split
          all_goals omega
  have hone : ∀ y : Int, 0 ≤ y → y < d.kinds.length → occ ls y = 1 := fun y h0 h1 => by
    rw [j3 y h0 h1]
    by_cases hy : (ownS d s y t).2 = true
    · have := own_ex hy
      simp [Dir.ex] at this
      rw [if_pos hy, if_pos (by omega)]
    · rw [if_neg hy]
  (repeat' (first | with_reducible refine brn_nd (fun h => ?_) (fun h => ?_) | with_reducible refine brn_d (fun h => ?_) (fun h => ?_) | with_reducible refine brn_nn (fun h => ?_) (fun h => ?_) | with_reducible refine brn_nb (fun h => ?_) (fun h => ?_) | with_reducible refine Brn.mk (fun h => ?_) (fun h => ?_) | with_reducible refine Chk.mk ?_ ?_ | with_reducible refine Bth.mk ?_ ?_ | with_reducible refine Fct.mk (fun hf => ?_)))
  refine up2 (fun c z => c.length = 24 ∧ ∀ q : Int, 0 ≤ q → q < 24 → gt c q = (occ (ls.take z.toNat) q : Int)) (by omega) ⟨by simp, fun q h0 h1 => ?_⟩ (fun I μ c z h0 h1 ⟨i1, i2⟩ nx => ?_) (fun I μ c ⟨i1, i2⟩ => ?_)
  · have e0 : gt (List.replicate 24 (0 : Int)) q = 0 := by
      rw [gt_eq (by rw [List.length_replicate]; omega)]
      exact List.getElem_replicate _
    rw [e0]; simp [occ]
  · obtain ⟨z, rfl, hz⟩ := natz h0 h1
    have ez : ((z : Int) + 1).toNat = z + 1 := by omega
    have hm := gt_mem (xs := ls) h0 h1
    simp only [Int.toNat_natCast] at i2
    (repeat' (first | with_reducible refine brn_nd (fun h => ?_) (fun h => ?_) | with_reducible refine brn_d (fun h => ?_) (fun h => ?_) | with_reducible refine brn_nn (fun h => ?_) (fun h => ?_) | with_reducible refine brn_nb (fun h => ?_) (fun h => ?_) | with_reducible refine Brn.mk (fun h => ?_) (fun h => ?_) | with_reducible refine Chk.mk ?_ ?_ | with_reducible refine Bth.mk ?_ ?_ | with_reducible refine Fct.mk (fun hf => ?_)))
    · omega
    refine up2 (fun c w => c.length = 24 ∧ ∀ q : Int, 0 ≤ q → q < 24 → gt c q = (occ (ls.take z) q : Int) + ((gt ls (z : Int)).take w.toNat).count q) (by omega) ⟨i1, fun q h0 h1 => by rw [i2 q h0 h1]; simp⟩ (fun I2 μ2 c w g0 g1 ⟨k1, k2⟩ nx2 => ?_) (fun I2 μ2 c ⟨k1, k2⟩ => ?_)
    · have hy := j2 _ hm _ (gt_mem g0 g1)
      obtain ⟨w, rfl, hw⟩ := natz g0 g1
      have ew : ((w : Int) + 1).toNat = w + 1 := by omega
      simp only [Int.toNat_natCast] at k2
      have hocc : occ (ls.take z) (gt (gt ls (z : Int)) (w : Int)) + ((gt ls (z : Int)).take w).count (gt (gt ls (z : Int)) (w : Int)) ≤ 1 := by
        rw [← hone _ hy.1 hy.2]
        have a1 := occ_succ (ls := ls) (i := z) (by omega) (gt (gt ls (z : Int)) (w : Int))
        have a2 := occ_le ls (z + 1) (gt (gt ls (z : Int)) (w : Int))
        have a3 : ((gt ls (z : Int)).take w).count (gt (gt ls (z : Int)) (w : Int)) ≤ (gt ls (z : Int)).count (gt (gt ls (z : Int)) (w : Int)) := (List.take_sublist _ _).count_le _
        omega
      have hk := k2 _ hy.1 (by omega)
      (repeat' (first | with_reducible refine brn_nd (fun h => ?_) (fun h => ?_) | with_reducible refine brn_d (fun h => ?_) (fun h => ?_) | with_reducible refine brn_nn (fun h => ?_) (fun h => ?_) | with_reducible refine brn_nb (fun h => ?_) (fun h => ?_) | with_reducible refine Brn.mk (fun h => ?_) (fun h => ?_) | with_reducible refine Chk.mk ?_ ?_ | with_reducible refine Bth.mk ?_ ?_ | with_reducible refine Fct.mk (fun hf => ?_)))
      all_goals first
        | omega
        | (unfold InI; omega)
        | skip
      refine nx2 _ ⟨by rw [List.length_set]; exact k1, fun q q0 q1 => ?_⟩
      rw [ew, take_count (by omega)]
      by_cases e : gt (gt ls (z : Int)) (w : Int) = q
      · rw [if_pos e]
        subst e
        rw [gt_eq (by rw [List.length_set]; omega), List.getElem_set_self, hk]
        omega
      · rw [if_neg e]
        have hne : ¬ (gt (gt ls (z : Int)) (w : Int)).toNat = q.toNat := by omega
        rw [gt_eq (by rw [List.length_set]; omega), List.getElem_set_ne hne, ← gt_eq (by omega), k2 q q0 q1]
        omega
    · simp only [Int.toNat_natCast, List.take_length] at k2
      (repeat' (first | with_reducible refine brn_nd (fun h => ?_) (fun h => ?_) | with_reducible refine brn_d (fun h => ?_) (fun h => ?_) | with_reducible refine brn_nn (fun h => ?_) (fun h => ?_) | with_reducible refine brn_nb (fun h => ?_) (fun h => ?_) | with_reducible refine Brn.mk (fun h => ?_) (fun h => ?_) | with_reducible refine Chk.mk ?_ ?_ | with_reducible refine Bth.mk ?_ ?_ | with_reducible refine Fct.mk (fun hf => ?_)))
      · unfold InI; omega
      refine nx _ ⟨k1, fun q q0 q1 => ?_⟩
      rw [ez, occ_succ (by omega), k2 q q0 q1]
      omega
  · simp only [Int.toNat_natCast, List.take_length] at i2
    (repeat' (first | with_reducible refine brn_nd (fun h => ?_) (fun h => ?_) | with_reducible refine brn_d (fun h => ?_) (fun h => ?_) | with_reducible refine brn_nn (fun h => ?_) (fun h => ?_) | with_reducible refine brn_nb (fun h => ?_) (fun h => ?_) | with_reducible refine Brn.mk (fun h => ?_) (fun h => ?_) | with_reducible refine Chk.mk ?_ ?_ | with_reducible refine Bth.mk ?_ ?_ | with_reducible refine Fct.mk (fun hf => ?_)))
    refine up0 (by omega) (by omega) (fun I2 μ2 z h0 h1 nx => ?_) (fun I2 μ2 => ?_)
    · have := i2 z h0 (by omega)
      rw [hone z h0 h1] at this
      (repeat' (first | with_reducible refine brn_nd (fun h => ?_) (fun h => ?_) | with_reducible refine brn_d (fun h => ?_) (fun h => ?_) | with_reducible refine brn_nn (fun h => ?_) (fun h => ?_) | with_reducible refine brn_nb (fun h => ?_) (fun h => ?_) | with_reducible refine Brn.mk (fun h => ?_) (fun h => ?_) | with_reducible refine Chk.mk ?_ ?_ | with_reducible refine Bth.mk ?_ ?_ | with_reducible refine Fct.mk (fun hf => ?_)))
      all_goals first
        | omega
        | (unfold InI; omega)
        | (exfalso; rename_i hh; exact hh this)
        | exact nx
        | trace_state
    · rfl)
end Go.Proofs.Ytdpcfebfgejdmaa
