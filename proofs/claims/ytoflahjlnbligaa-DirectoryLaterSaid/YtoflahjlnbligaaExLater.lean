/- DirectoryLater, shown. -/
import Derived.Test.YtoflahjlnbligaaEkLater
import Derived.Test.YtoflahjlnbligaaEm
set_option linter.all false
set_option maxRecDepth 20000
set_option maxHeartbeats 4000000
namespace Go.Proofs.Ytoflahjlnbligaa
open Go.RowKit Go.Shelf
theorem edgeL_all {evs : List Mb} {t t' : Int} (h : ∀ x ∈ evs, x.time ≤ t ∧ x.time ≤ t') (p g : Int) : edgeL evs t p g = edgeL evs t' p g := by
  unfold edgeL
  generalize false = b
  induction evs generalizing b with
  | nil => rfl
  | cons y r ih =>
    rw [List.foldl_cons, List.foldl_cons]
    have hy := h y (by simp)
    have e : (if y.time ≤ t ∧ y.prin = p ∧ y.grp = g then decide (y.kind = 1) else b) = (if y.time ≤ t' ∧ y.prin = p ∧ y.grp = g then decide (y.kind = 1) else b) := by simp [hy.1, hy.2]
    rw [e]
    exact ih (fun x hx => h x (by simp [hx])) _
structure Mor (d M : Dir) (tm q g : Int) : Prop where
  fe : M = ⟨d.kinds, d.evs ++ [⟨tm + 1, 1, q, g⟩]⟩
  fv : dirB d = true
  ft : ∀ x ∈ d.evs, x.time ≤ tm
  fb : 0 ≤ tm ∧ tm ≤ 100
  fn : d.evs.length ≤ 11
  fq : d.ex q = true
  fg : d.grp g = true
  fd : g ≠ q
theorem Mor.val {d M : Dir} {tm q g : Int} (h : Mor d M tm q g) : dirB M = true := by
  have hd := dirB_iff.1 h.fv
  have hj : EvJ d.kinds d.evs tm := ⟨fun i hi => hd.2.2.2 i hi, by
    by_cases e : d.evs.length = 0
    · simp only [prevT, e, if_true]; exact h.fb.1
    · unfold prevT; rw [if_neg e]; exact h.ft _ (gt_mem (by omega) (by omega))⟩
  rw [h.fe]
  have hb := h.fb
  have hn := h.fn
  refine dir_of hd.2.2.1 hd.1 (by simp; omega) (hj.snoc (x := ⟨tm + 1, 1, q, g⟩) (by simp only; omega) (evOk_iff.2 ⟨.inl rfl, by simp only; omega, by simp only; omega, h.fq, h.fg, fun e => h.fd e.symm⟩))
theorem Mor.mem {d M : Dir} {tm q g : Int} (h : Mor d M tm q g) (x : Int) : memS d x tm = memS M x tm := by
  have hv := h.val
  have ha : atT M tm = atT d tm := by
    unfold atT; rw [h.fe]; exact tblL_late (by simp only; omega)
  unfold memS
  rw [ha, hv, h.fv, show M.grp = d.grp by rw [h.fe]; rfl, show M.kinds = d.kinds by rw [h.fe]]
theorem Mor.edge {d M : Dir} {tm q g : Int} (h : Mor d M tm q g) {a b : Int} (he : d.edge tm a b = true) : M.edge (tm + 1) a b = true := by
  rw [h.fe]
  show edgeL _ _ _ _ = true
  rw [edgeL_snoc]
  split
  · rfl
  · rw [← edgeL_all (t := tm) (fun x hx => ⟨h.ft x hx, by have := h.ft x hx; omega⟩)]; exact he
theorem Mor.rch {d M : Dir} {tm q g : Int} (h : Mor d M tm q g) {a b : Int} (ha : d.ex a = true) (hr : Rch (atT d tm) a b) : Rch (atT M (tm + 1)) a b := by
  have hk : M.kinds = d.kinds := by rw [h.fe]
  induction hr with
  | refl => exact .refl
  | @step y z hr g0 g1 hg ih =>
    have hy := rch_in ha hr
    rw [atT_len] at g1
    rw [atT_cell hy.1 hy.2 g0 g1] at hg
    exact rch_step ih (by rw [hk]; exact hy) (by rw [hk]; exact ⟨g0, g1⟩) (h.edge hg)
theorem Mor.mem2 {d M : Dir} {tm q g : Int} (h : Mor d M tm q g) {x y : Int} (hy : y ∈ memS d x tm) : hasB (memS M x (tm + 1)) y = true := by
  have hk : M.kinds = d.kinds := by rw [h.fe]
  have hg : M.grp = d.grp := by rw [h.fe]; rfl
  have h1 := mem_memS.1 hy
  rw [hasB_iff, mem_memS, hk, hg]
  exact ⟨⟨h.val, h1.1.2⟩, h1.2.1, h1.2.2.1, h.rch (ex_iff.2 h1.2.1) h1.2.2.2⟩
theorem Mor.fin {d M : Dir} {tm q g : Int} (h : Mor d M tm q g) : hasB (grpsS M q (tm + 1)) g = true := by
  have hk : M.kinds = d.kinds := by rw [h.fe]
  rw [hasB_iff, mem_grpsS, hk]
  have hq : M.ex q = true := by rw [h.fe]; exact h.fq
  have he : M.edge (tm + 1) q g = true := by
    rw [h.fe]
    show edgeL _ _ _ _ = true
    rw [edgeL_snoc, if_pos ⟨by simp only; omega, rfl, rfl⟩]; rfl
  have hg := ex_iff.1 (grp_ex h.fg)
  exact ⟨⟨h.val, hq⟩, hg, rch_step .refl (by rw [hk]; exact ex_iff.1 h.fq) (by rw [hk]; exact hg) he, h.fd⟩
theorem last_le {d : Dir} (hd : dirB d = true) : ∀ n : Nat, n < d.evs.length → ∀ i : Nat, i ≤ n → (gt d.evs (i : Int)).time ≤ (gt d.evs (n : Int)).time := by
  intro n
  induction n with
  | zero =>
    intro _ i hi
    obtain rfl : i = 0 := by omega
    exact Int.le_refl _
  | succ n ih =>
    intro hn i hi
    by_cases e : i = n + 1
    · subst e; exact Int.le_refl _
    · have h1 := ih (by omega) i (by omega)
      have h2 := (evOk_iff.1 ((dirB_iff.1 hd).2.2.2 (n + 1) hn)).2.1
      rw [prevT_succ] at h2
      omega
theorem ev_nn {d : Dir} (hd : dirB d = true) : ∀ n : Nat, n < d.evs.length → 0 ≤ (gt d.evs (n : Int)).time := fun n hn => by
  have h1 := (evOk_iff.1 ((dirB_iff.1 hd).2.2.2 n hn)).2.1
  have h2 := prevT_nn (d := d) (i := n) fun j hj => (dirB_iff.1 hd).2.2.2 j (by omega)
  omega
theorem Later_il (l : List Int) : ILt 9 [lv l] := (lawLater_V l).2 (by
  (delta lawLater_V; dsimp only [mkV])
  (repeat' (first | with_reducible refine brn_nd (fun h => ?_) (fun h => ?_) | with_reducible refine brn_d (fun h => ?_) (fun h => ?_) | with_reducible refine brn_nn (fun h => ?_) (fun h => ?_) | with_reducible refine brn_nb (fun h => ?_) (fun h => ?_) | with_reducible refine Brn.mk (fun h => ?_) (fun h => ?_) | with_reducible refine Chk.mk ?_ ?_ | with_reducible refine Bth.mk ?_ ?_ | with_reducible refine Fct.mk (fun hf => ?_)))
  · rfl
  intro d hd
  have hdn := hd.n
  have hdm := hd.m
  have hsl := selN_len d.kinds.length (fun p => d.grp p)
  (repeat' (first | with_reducible refine brn_nd (fun h => ?_) (fun h => ?_) | with_reducible refine brn_d (fun h => ?_) (fun h => ?_) | with_reducible refine brn_nn (fun h => ?_) (fun h => ?_) | with_reducible refine brn_nb (fun h => ?_) (fun h => ?_) | with_reducible refine Brn.mk (fun h => ?_) (fun h => ?_) | with_reducible refine Chk.mk ?_ ?_ | with_reducible refine Bth.mk ?_ ?_ | with_reducible refine Fct.mk (fun hf => ?_)))
  · omega
  · rfl
  · omega
  intro z hz
  (repeat' (first | with_reducible refine brn_nd (fun h => ?_) (fun h => ?_) | with_reducible refine brn_d (fun h => ?_) (fun h => ?_) | with_reducible refine brn_nn (fun h => ?_) (fun h => ?_) | with_reducible refine brn_nb (fun h => ?_) (fun h => ?_) | with_reducible refine Brn.mk (fun h => ?_) (fun h => ?_) | with_reducible refine Chk.mk ?_ ?_ | with_reducible refine Bth.mk ?_ ?_ | with_reducible refine Fct.mk (fun hf => ?_)))
  · omega
  intro q hq
  generalize hg : gt (selN d.kinds.length fun p => d.grp p) z = g
  have hgm := mem_selN.1 (hg ▸ gt_mem hz.1 hz.2)
  have mor : ¬ g = q → ∀ tm : Int, (∀ x ∈ d.evs, x.time ≤ tm) → 0 ≤ tm ∧ tm ≤ 100 → Mor d ⟨d.kinds, d.evs ++ [⟨tm + 1, 1, q, g⟩]⟩ tm q g := fun hne tm h1 h2 => ⟨rfl, hd.v, h1, h2, hdm.1, ex_iff.2 hq, hgm.2.2, hne⟩
  have morA : ¬ g = q → 0 < (d.evs.length : Int) → Mor d ⟨d.kinds, d.evs ++ [⟨(gt d.evs ((d.evs.length : Int) - 1)).time + 1, 1, q, g⟩]⟩ (gt d.evs ((d.evs.length : Int) - 1)).time q g := fun hne h0 => by
    refine mor hne _ (fun x hx => ?_) ⟨?_, hdm.2 _ (gt_mem (by omega) (by omega))⟩
    · obtain ⟨i, hi, rfl⟩ := mem_gt hx
      have := last_le hd.v (d.evs.length - 1) (by omega) i (by omega)
      rwa [show ((d.evs.length - 1 : Nat) : Int) = (d.evs.length : Int) - 1 by omega] at this
    · have := ev_nn hd.v (d.evs.length - 1) (by omega)
      rwa [show ((d.evs.length - 1 : Nat) : Int) = (d.evs.length : Int) - 1 by omega] at this
  have morB : ¬ g = q → ¬ 0 < (d.evs.length : Int) → Mor d ⟨d.kinds, d.evs ++ [⟨0 + 1, 1, q, g⟩]⟩ 0 q g := fun hne h0 => mor hne 0 (fun x hx => by have := List.length_pos_of_mem hx; omega) (by omega)
  (repeat' (first | with_reducible refine brn_nd (fun h => ?_) (fun h => ?_) | with_reducible refine brn_d (fun h => ?_) (fun h => ?_) | with_reducible refine brn_nn (fun h => ?_) (fun h => ?_) | with_reducible refine brn_nb (fun h => ?_) (fun h => ?_) | with_reducible refine Brn.mk (fun h => ?_) (fun h => ?_) | with_reducible refine Chk.mk ?_ ?_ | with_reducible refine Bth.mk ?_ ?_ | with_reducible refine Fct.mk (fun hf => ?_)))
  · rfl
  · omega
  · omega
  · omega
  · have := (morA (by assumption) (by assumption)).fb; omega
  · simp; omega
  · have hm := morA (by assumption) (by assumption)
    generalize (gt d.evs ((d.evs.length : Int) - 1)).time = tm at hm ⊢
    refine up0 (by omega) (by omega) (fun I μ y y0 y1 nx => ?_) (fun I μ => ?_)
    · (repeat' (first | with_reducible refine brn_nd (fun h => ?_) (fun h => ?_) | with_reducible refine brn_d (fun h => ?_) (fun h => ?_) | with_reducible refine brn_nn (fun h => ?_) (fun h => ?_) | with_reducible refine brn_nb (fun h => ?_) (fun h => ?_) | with_reducible refine Brn.mk (fun h => ?_) (fun h => ?_) | with_reducible refine Chk.mk ?_ ?_ | with_reducible refine Bth.mk ?_ ?_ | with_reducible refine Fct.mk (fun hf => ?_)))
      · omega
      · exfalso
        have := hm.mem (gt (selN d.kinds.length fun p => d.grp p) y)
        simp_all
      refine up0 (by omega) (by omega) (fun I2 μ2 w w0 w1 nx2 => ?_) (fun I2 μ2 => ?_)
      · have h9 := hm.mem2 (gt_mem w0 w1)
        (repeat' (first | with_reducible refine brn_nd (fun h => ?_) (fun h => ?_) | with_reducible refine brn_d (fun h => ?_) (fun h => ?_) | with_reducible refine brn_nn (fun h => ?_) (fun h => ?_) | with_reducible refine brn_nb (fun h => ?_) (fun h => ?_) | with_reducible refine Brn.mk (fun h => ?_) (fun h => ?_) | with_reducible refine Chk.mk ?_ ?_ | with_reducible refine Bth.mk ?_ ?_ | with_reducible refine Fct.mk (fun hf => ?_)))
        · omega
        · exfalso; simp_all
        · omega
        · exact nx2
      · (repeat' (first | with_reducible refine brn_nd (fun h => ?_) (fun h => ?_) | with_reducible refine brn_d (fun h => ?_) (fun h => ?_) | with_reducible refine brn_nn (fun h => ?_) (fun h => ?_) | with_reducible refine brn_nb (fun h => ?_) (fun h => ?_) | with_reducible refine Brn.mk (fun h => ?_) (fun h => ?_) | with_reducible refine Chk.mk ?_ ?_ | with_reducible refine Bth.mk ?_ ?_ | with_reducible refine Fct.mk (fun hf => ?_)))
        · omega
        · exact nx
    · have := hm.fin
      (repeat' (first | with_reducible refine brn_nd (fun h => ?_) (fun h => ?_) | with_reducible refine brn_d (fun h => ?_) (fun h => ?_) | with_reducible refine brn_nn (fun h => ?_) (fun h => ?_) | with_reducible refine brn_nb (fun h => ?_) (fun h => ?_) | with_reducible refine Brn.mk (fun h => ?_) (fun h => ?_) | with_reducible refine Chk.mk ?_ ?_ | with_reducible refine Bth.mk ?_ ?_ | with_reducible refine Fct.mk (fun hf => ?_)))
      · rfl
      · exfalso; simp_all
  · omega
  · omega
  · simp; omega
  · have hm := morB (by assumption) (by assumption)
    refine up0 (by omega) (by omega) (fun I μ y y0 y1 nx => ?_) (fun I μ => ?_)
    · (repeat' (first | with_reducible refine brn_nd (fun h => ?_) (fun h => ?_) | with_reducible refine brn_d (fun h => ?_) (fun h => ?_) | with_reducible refine brn_nn (fun h => ?_) (fun h => ?_) | with_reducible refine brn_nb (fun h => ?_) (fun h => ?_) | with_reducible refine Brn.mk (fun h => ?_) (fun h => ?_) | with_reducible refine Chk.mk ?_ ?_ | with_reducible refine Bth.mk ?_ ?_ | with_reducible refine Fct.mk (fun hf => ?_)))
      · omega
      · exfalso
        have := hm.mem (gt (selN d.kinds.length fun p => d.grp p) y)
        simp_all
      refine up0 (by omega) (by omega) (fun I2 μ2 w w0 w1 nx2 => ?_) (fun I2 μ2 => ?_)
      · have h9 := hm.mem2 (gt_mem w0 w1)
        (repeat' (first | with_reducible refine brn_nd (fun h => ?_) (fun h => ?_) | with_reducible refine brn_d (fun h => ?_) (fun h => ?_) | with_reducible refine brn_nn (fun h => ?_) (fun h => ?_) | with_reducible refine brn_nb (fun h => ?_) (fun h => ?_) | with_reducible refine Brn.mk (fun h => ?_) (fun h => ?_) | with_reducible refine Chk.mk ?_ ?_ | with_reducible refine Bth.mk ?_ ?_ | with_reducible refine Fct.mk (fun hf => ?_)))
        · omega
        · exfalso; simp_all
        · omega
        · exact nx2
      · (repeat' (first | with_reducible refine brn_nd (fun h => ?_) (fun h => ?_) | with_reducible refine brn_d (fun h => ?_) (fun h => ?_) | with_reducible refine brn_nn (fun h => ?_) (fun h => ?_) | with_reducible refine brn_nb (fun h => ?_) (fun h => ?_) | with_reducible refine Brn.mk (fun h => ?_) (fun h => ?_) | with_reducible refine Chk.mk ?_ ?_ | with_reducible refine Bth.mk ?_ ?_ | with_reducible refine Fct.mk (fun hf => ?_)))
        · omega
        · exact nx
    · have := hm.fin
      (repeat' (first | with_reducible refine brn_nd (fun h => ?_) (fun h => ?_) | with_reducible refine brn_d (fun h => ?_) (fun h => ?_) | with_reducible refine brn_nn (fun h => ?_) (fun h => ?_) | with_reducible refine brn_nb (fun h => ?_) (fun h => ?_) | with_reducible refine Brn.mk (fun h => ?_) (fun h => ?_) | with_reducible refine Chk.mk ?_ ?_ | with_reducible refine Bth.mk ?_ ?_ | with_reducible refine Fct.mk (fun hf => ?_)))
      · rfl
      · exfalso; simp_all)
end Go.Proofs.Ytoflahjlnbligaa
