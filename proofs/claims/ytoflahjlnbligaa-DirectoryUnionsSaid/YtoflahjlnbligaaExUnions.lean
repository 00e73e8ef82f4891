/- DirectoryUnions, shown. -/
import Derived.Test.YtoflahjlnbligaaEkUnions
import Derived.Test.YtoflahjlnbligaaExLeaves
set_option linter.all false
set_option maxRecDepth 20000
set_option maxHeartbeats 4000000
namespace Go.Proofs.Ytoflahjlnbligaa
open Go.RowKit Go.Shelf
def WanP (d : Dir) (t : Int) (h p : Int) : Prop := (h = p ∧ d.rdr p = true) ∨ p ∈ memS d h t
theorem wan_eq {d : Dir} {t g p : Int} (hd : dirB d = true) (hg : d.grp g = true) : (∃ h ∈ dirS d g t, WanP d t h p) ↔ p ∈ memS d g t := by
  have hgx := ex_iff.1 (grp_ex hg)
  rw [mem_memS]
  constructor
  · rintro ⟨h, h1, h2⟩
    have k := mem_dirS.1 h1
    rcases h2 with ⟨rfl, h3⟩ | h3
    · have hp : d.grp h = false := by
        simp [Dir.rdr] at h3
        cases hq : d.grp h with
        | false => rfl
        | true => simp [Dir.grp] at hq; exact absurd hq.2 h3.2
      exact ⟨⟨hd, hg⟩, k.2.1, hp, rch_step .refl k.2.1 hgx k.2.2⟩
    · have k3 := mem_memS.1 h3
      exact ⟨⟨hd, hg⟩, k3.2.1, k3.2.2.1, rch_step k3.2.2.2 k.2.1 hgx k.2.2⟩
  · rintro ⟨_, a2, a3, a4⟩
    have hpx : d.ex p = true := ex_iff.2 a2
    rcases rch_last hpx a4 with e | ⟨y, y1, y2, y3⟩
    · rw [e] at hg; rw [hg] at a3; cases a3
    · refine ⟨y, mem_dirS.2 ⟨⟨hd, hg⟩, y2, y3⟩, ?_⟩
      by_cases e : y = p
      · refine .inl ⟨e, ?_⟩
        simp only [Dir.grp, hpx, Bool.true_and] at a3
        simp [Dir.rdr, hpx]
        exact of_decide_eq_false a3
      · exact .inr (mem_memS.2 ⟨⟨hd, rch_grp hd hpx y1 e⟩, a2, a3, y1⟩)
def WanJ (d : Dir) (t : Int) (L : List Int) (w : List Bool) (z : Int) : Prop := w.length = 24 ∧ ∀ p : Int, 0 ≤ p → p < (d.kinds.length : Int) → (gt w p = true ↔ ∃ i : Nat, (i : Int) < z ∧ WanP d t (gt L (i : Int)) p)
def WanK (d : Dir) (w0 w : List Bool) (M : List Int) (y : Int) : Prop := w.length = 24 ∧ ∀ p : Int, 0 ≤ p → p < (d.kinds.length : Int) → (gt w p = true ↔ gt w0 p = true ∨ ∃ k : Nat, (k : Int) < y ∧ gt M (k : Int) = p)
theorem WanK.next {d : Dir} {w0 w : List Bool} {M : List Int} {y : Int} (hn : d.kinds.length ≤ 24) (h : WanK d w0 w M y) (h0 : 0 ≤ y) (hm : 0 ≤ gt M y ∧ gt M y < (d.kinds.length : Int)) : WanK d w0 (w.set (gt M y).toNat true) M (y + 1) := by
  refine ⟨by simp [h.1], fun p p0 p1 => ?_⟩
  rw [gt_sq hm.1 p0 (by rw [h.1]; omega)]
  by_cases e : p = gt M y
  · rw [if_pos e]
    exact ⟨fun _ => .inr ⟨y.toNat, by omega, by rw [show ((y.toNat : Nat) : Int) = y by omega]; exact e.symm⟩, fun _ => rfl⟩
  · rw [if_neg e, h.2 p p0 p1]
    constructor
    · rintro (q | ⟨k, k1, k2⟩)
      · exact .inl q
      · exact .inr ⟨k, by omega, k2⟩
    · rintro (q | ⟨k, k1, k2⟩)
      · exact .inl q
      · by_cases e2 : (k : Int) = y
        · rw [e2] at k2; exact absurd k2.symm e
        · exact .inr ⟨k, by omega, k2⟩
theorem WanJ.next {d : Dir} {t : Int} {L : List Int} {w w2 : List Bool} {z : Int} {v : Bool} (hn : d.kinds.length ≤ 24) (h : WanJ d t L w z) (h0 : 0 ≤ z) (hm : 0 ≤ gt L z ∧ gt L z < (d.kinds.length : Int)) (hv : v = true ↔ gt w (gt L z) = true ∨ d.rdr (gt L z) = true) (hk : WanK d (w.set (gt L z).toNat v) w2 (memS d (gt L z) t) ((memS d (gt L z) t).length : Int)) : WanJ d t L w2 (z + 1) := by
  refine ⟨hk.1, fun p p0 p1 => ?_⟩
  rw [hk.2 p p0 p1, gt_sq hm.1 p0 (by rw [h.1]; omega)]
  have hM : (∃ k : Nat, (k : Int) < ((memS d (gt L z) t).length : Int) ∧ gt (memS d (gt L z) t) (k : Int) = p) ↔ p ∈ memS d (gt L z) t := by
    constructor
    · rintro ⟨k, k1, rfl⟩; exact gt_mem (by omega) k1
    · intro hp; obtain ⟨k, k1, rfl⟩ := mem_gt hp; exact ⟨k, by omega, rfl⟩
  rw [hM]
  have hS : (∃ i : Nat, (i : Int) < z + 1 ∧ WanP d t (gt L (i : Int)) p) ↔ (∃ i : Nat, (i : Int) < z ∧ WanP d t (gt L (i : Int)) p) ∨ WanP d t (gt L z) p := by
    constructor
    · rintro ⟨i, i1, i2⟩
      by_cases e : (i : Int) < z
      · exact .inl ⟨i, e, i2⟩
      · rw [show (i : Int) = z by omega] at i2; exact .inr i2
    · rintro (⟨i, i1, i2⟩ | q)
      · exact ⟨i, by omega, i2⟩
      · exact ⟨z.toNat, by omega, by rw [show ((z.toNat : Nat) : Int) = z by omega]; exact q⟩
  rw [hS, ← h.2 p p0 p1]
  unfold WanP
  by_cases e : p = gt L z
  · subst e
    rw [if_pos rfl, hv]
    simp only [true_and, or_assoc]
  · rw [if_neg e]
    have e' : ¬ gt L z = p := fun q => e q.symm
    simp only [e', false_and, false_or]
theorem Unions_il (l : List Int) : ILt 12 [lv l] := (lawUnions_V l).2 (by
  (delta lawUnions_V; dsimp only [mkV])
  (repeat' (first | with_reducible refine brn_nd (fun h => ?_) (fun h => ?_) | with_reducible refine brn_d (fun h => ?_) (fun h => ?_) | with_reducible refine brn_nn (fun h => ?_) (fun h => ?_) | with_reducible refine brn_nb (fun h => ?_) (fun h => ?_) | with_reducible refine Brn.mk (fun h => ?_) (fun h => ?_) | with_reducible refine Chk.mk ?_ ?_ | with_reducible refine Bth.mk ?_ ?_ | with_reducible refine Fct.mk (fun hf => ?_)))
  · rfl
  intro d hd
  have hdn := hd.n
  have hv := hd.v
  have hn24 : d.kinds.length ≤ 24 := by omega
  (repeat' (first | with_reducible refine brn_nd (fun h => ?_) (fun h => ?_) | with_reducible refine brn_d (fun h => ?_) (fun h => ?_) | with_reducible refine brn_nn (fun h => ?_) (fun h => ?_) | with_reducible refine brn_nb (fun h => ?_) (fun h => ?_) | with_reducible refine Brn.mk (fun h => ?_) (fun h => ?_) | with_reducible refine Chk.mk ?_ ?_ | with_reducible refine Bth.mk ?_ ?_ | with_reducible refine Fct.mk (fun hf => ?_)))
  · omega
  intro t ht
  (repeat' (first | with_reducible refine brn_nd (fun h => ?_) (fun h => ?_) | with_reducible refine brn_d (fun h => ?_) (fun h => ?_) | with_reducible refine brn_nn (fun h => ?_) (fun h => ?_) | with_reducible refine brn_nb (fun h => ?_) (fun h => ?_) | with_reducible refine Brn.mk (fun h => ?_) (fun h => ?_) | with_reducible refine Chk.mk ?_ ?_ | with_reducible refine Bth.mk ?_ ?_ | with_reducible refine Fct.mk (fun hf => ?_)))
  · omega
  refine up0 (by omega) (by have := selN_len d.kinds.length (fun p => d.grp p); omega) (fun I μ z z0 z1 nx => ?_) (fun I μ => rfl)
  have hgm := mem_selN.1 (gt_mem z0 z1)
  (repeat' (first | with_reducible refine brn_nd (fun h => ?_) (fun h => ?_) | with_reducible refine brn_d (fun h => ?_) (fun h => ?_) | with_reducible refine brn_nn (fun h => ?_) (fun h => ?_) | with_reducible refine brn_nb (fun h => ?_) (fun h => ?_) | with_reducible refine Brn.mk (fun h => ?_) (fun h => ?_) | with_reducible refine Chk.mk ?_ ?_ | with_reducible refine Bth.mk ?_ ?_ | with_reducible refine Fct.mk (fun hf => ?_)))
  · omega
  generalize hg : gt (selN d.kinds.length fun p => d.grp p) z = g at *
  refine up2 (fun w y => WanJ d t (dirS d g t) w y) (by omega) ⟨by simp, fun p p0 p1 => ⟨fun h => ?_, fun ⟨i, i1, _⟩ => by omega⟩⟩ ?_ ?_
  · exfalso
    rw [gt_eq (by simp; omega), List.getElem_replicate] at h
    cases h
  · rintro I1 μ1 w y y0 y1 hj nx1
    have hm := (mem_dirS.1 (gt_mem y0 y1)).2.1
    have hwl := hj.1
    have inner : ∀ v : Bool, (v = true ↔ gt w (gt (dirS d g t) y) = true ∨ d.rdr (gt (dirS d g t) y) = true) → WanK d (w.set (gt (dirS d g t) y).toNat v) (w.set (gt (dirS d g t) y).toNat v) (memS d (gt (dirS d g t) y) t) 0 := fun v _ => ⟨by simp [hwl], fun p p0 p1 => ⟨.inl, fun q => q.elim id fun ⟨k, k1, _⟩ => by omega⟩⟩
    (repeat' (first | with_reducible refine brn_nd (fun h => ?_) (fun h => ?_) | with_reducible refine brn_d (fun h => ?_) (fun h => ?_) | with_reducible refine brn_nn (fun h => ?_) (fun h => ?_) | with_reducible refine brn_nb (fun h => ?_) (fun h => ?_) | with_reducible refine Brn.mk (fun h => ?_) (fun h => ?_) | with_reducible refine Chk.mk ?_ ?_ | with_reducible refine Bth.mk ?_ ?_ | with_reducible refine Fct.mk (fun hf => ?_)))
    all_goals (first | omega | (exfalso; omega) | skip)
    · have hiff : true = true ↔ gt w (gt (dirS d g t) y) = true ∨ d.rdr (gt (dirS d g t) y) = true := ⟨fun _ => .inl (by assumption), fun _ => rfl⟩
      refine up2 (fun w' k => WanK d (w.set (gt (dirS d g t) y).toNat true) w' (memS d (gt (dirS d g t) y) t) k) (by omega) (inner _ hiff) ?_ ?_
      · rintro I2 μ2 w' k k0 k1 hk nx2
        have hm2 := (mem_memS.1 (gt_mem k0 k1)).2.1
        have hwl2 := hk.1
        (repeat' (first | with_reducible refine brn_nd (fun h => ?_) (fun h => ?_) | with_reducible refine brn_d (fun h => ?_) (fun h => ?_) | with_reducible refine brn_nn (fun h => ?_) (fun h => ?_) | with_reducible refine brn_nb (fun h => ?_) (fun h => ?_) | with_reducible refine Brn.mk (fun h => ?_) (fun h => ?_) | with_reducible refine Chk.mk ?_ ?_ | with_reducible refine Bth.mk ?_ ?_ | with_reducible refine Fct.mk (fun hf => ?_)))
        all_goals (first | omega | exact nx2 _ (hk.next hn24 k0 hm2) | (exfalso; omega))
      · rintro I2 μ2 w' hk
        (repeat' (first | with_reducible refine brn_nd (fun h => ?_) (fun h => ?_) | with_reducible refine brn_d (fun h => ?_) (fun h => ?_) | with_reducible refine brn_nn (fun h => ?_) (fun h => ?_) | with_reducible refine brn_nb (fun h => ?_) (fun h => ?_) | with_reducible refine Brn.mk (fun h => ?_) (fun h => ?_) | with_reducible refine Chk.mk ?_ ?_ | with_reducible refine Bth.mk ?_ ?_ | with_reducible refine Fct.mk (fun hf => ?_)))
        · omega
        · exact nx1 _ (hj.next hn24 y0 hm hiff hk)
    · have hiff : d.rdr (gt (dirS d g t) y) = true ↔ gt w (gt (dirS d g t) y) = true ∨ d.rdr (gt (dirS d g t) y) = true := ⟨.inr, fun q => q.elim (fun q => absurd q (by rw [(by assumption : gt w (gt (dirS d g t) y) = false)]; simp)) id⟩
      refine up2 (fun w' k => WanK d (w.set (gt (dirS d g t) y).toNat (d.rdr (gt (dirS d g t) y))) w' (memS d (gt (dirS d g t) y) t) k) (by omega) (inner _ hiff) ?_ ?_
      · rintro I2 μ2 w' k k0 k1 hk nx2
        have hm2 := (mem_memS.1 (gt_mem k0 k1)).2.1
        have hwl2 := hk.1
        (repeat' (first | with_reducible refine brn_nd (fun h => ?_) (fun h => ?_) | with_reducible refine brn_d (fun h => ?_) (fun h => ?_) | with_reducible refine brn_nn (fun h => ?_) (fun h => ?_) | with_reducible refine brn_nb (fun h => ?_) (fun h => ?_) | with_reducible refine Brn.mk (fun h => ?_) (fun h => ?_) | with_reducible refine Chk.mk ?_ ?_ | with_reducible refine Bth.mk ?_ ?_ | with_reducible refine Fct.mk (fun hf => ?_)))
        all_goals (first | omega | exact nx2 _ (hk.next hn24 k0 hm2) | (exfalso; omega))
      · rintro I2 μ2 w' hk
        (repeat' (first | with_reducible refine brn_nd (fun h => ?_) (fun h => ?_) | with_reducible refine brn_d (fun h => ?_) (fun h => ?_) | with_reducible refine brn_nn (fun h => ?_) (fun h => ?_) | with_reducible refine brn_nb (fun h => ?_) (fun h => ?_) | with_reducible refine Brn.mk (fun h => ?_) (fun h => ?_) | with_reducible refine Chk.mk ?_ ?_ | with_reducible refine Bth.mk ?_ ?_ | with_reducible refine Fct.mk (fun hf => ?_)))
        · omega
        · exact nx1 _ (hj.next hn24 y0 hm hiff hk)
  · rintro I1 μ1 w hj
    have hwl := hj.1
    (repeat' (first | with_reducible refine brn_nd (fun h => ?_) (fun h => ?_) | with_reducible refine brn_d (fun h => ?_) (fun h => ?_) | with_reducible refine brn_nn (fun h => ?_) (fun h => ?_) | with_reducible refine brn_nb (fun h => ?_) (fun h => ?_) | with_reducible refine Brn.mk (fun h => ?_) (fun h => ?_) | with_reducible refine Chk.mk ?_ ?_ | with_reducible refine Bth.mk ?_ ?_ | with_reducible refine Fct.mk (fun hf => ?_)))
    refine up0 (by omega) (by omega) (fun I2 μ2 p p0 p1 nx2 => ?_) (fun I2 μ2 => ?_)
    · have e : gt w p = hasB (memS d g t) p := by
        rw [Bool.eq_iff_iff, hj.2 p p0 p1, hasB_iff, ← wan_eq hv hgm.2.2]
        constructor
        · rintro ⟨i, i1, i2⟩; exact ⟨_, gt_mem (by omega) i1, i2⟩
        · rintro ⟨h, h1, h2⟩; obtain ⟨i, hi, rfl⟩ := mem_gt h1; exact ⟨i, by omega, h2⟩
      (repeat' (first | with_reducible refine brn_nd (fun h => ?_) (fun h => ?_) | with_reducible refine brn_d (fun h => ?_) (fun h => ?_) | with_reducible refine brn_nn (fun h => ?_) (fun h => ?_) | with_reducible refine brn_nb (fun h => ?_) (fun h => ?_) | with_reducible refine Brn.mk (fun h => ?_) (fun h => ?_) | with_reducible refine Chk.mk ?_ ?_ | with_reducible refine Bth.mk ?_ ?_ | with_reducible refine Fct.mk (fun hf => ?_)))
      all_goals (first | omega | exact nx2 | (exfalso; simp_all; done) | skip)
    · (repeat' (first | with_reducible refine brn_nd (fun h => ?_) (fun h => ?_) | with_reducible refine brn_d (fun h => ?_) (fun h => ?_) | with_reducible refine brn_nn (fun h => ?_) (fun h => ?_) | with_reducible refine brn_nb (fun h => ?_) (fun h => ?_) | with_reducible refine Brn.mk (fun h => ?_) (fun h => ?_) | with_reducible refine Chk.mk ?_ ?_ | with_reducible refine Bth.mk ?_ ?_ | with_reducible refine Fct.mk (fun hf => ?_)))
      all_goals (first | omega | exact nx))
end Go.Proofs.Ytoflahjlnbligaa
