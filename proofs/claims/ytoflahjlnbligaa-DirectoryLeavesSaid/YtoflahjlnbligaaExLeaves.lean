/- DirectoryLeaves, shown. -/
import Derived.Test.YtoflahjlnbligaaEkLeaves
import Derived.Test.YtoflahjlnbligaaEm
set_option linter.all false
set_option maxRecDepth 20000
set_option maxHeartbeats 4000000
namespace Go.Proofs.Ytoflahjlnbligaa
open Go.RowKit Go.Shelf
theorem mem_dirS {d : Dir} {g t h : Int} : h ∈ dirS d g t ↔ (dirB d = true ∧ d.grp g = true) ∧ (0 ≤ h ∧ h < (d.kinds.length : Int)) ∧ d.edge t h g = true := by
  unfold dirS
  split
  · rename_i e
    have hh := Bool.and_eq_true_iff.1 e
    rw [mem_selN]
    simp only [hh.1, hh.2, and_assoc, true_and]
  · rename_i e
    constructor
    · intro h; cases h
    · rintro ⟨a, _⟩; exact absurd (Bool.and_eq_true_iff.2 a) e
theorem lv_no {D : Dir} {t p g : Int} (he : D.edge t p g = false) : hasB (dirS D g t) p = false := hasB_no.2 fun h => by
  have := (mem_dirS.1 h).2.2
  rw [he] at this; cases this
theorem lv_eq {D : Dir} {t p g : Int} (hne : g ≠ p) (hG : D.grp g = true) (he : D.edge t p g = false) : (∃ h ∈ dirS D g t, h ≠ p ∧ hasB (grpsS D p t) h = true) ↔ hasB (grpsS D p t) g = true := by
  rw [hasB_iff, mem_grpsS]
  constructor
  · rintro ⟨h, h1, h2, h3⟩
    have k1 := mem_dirS.1 h1
    have k3 := mem_grpsS.1 (hasB_iff.1 h3)
    have hg := ex_iff.1 (grp_ex hG)
    exact ⟨k3.1, hg, rch_step k3.2.2.1 k1.2.1 hg k1.2.2, hne⟩
  · rintro ⟨a1, a2, a3, a4⟩
    rcases rch_last a1.2 a3 with e | ⟨y, y1, y2, y3⟩
    · exact absurd e a4
    · have hyp : y ≠ p := fun e => by rw [e, he] at y3; cases y3
      exact ⟨y, mem_dirS.2 ⟨⟨a1.1, hG⟩, y2, y3⟩, hyp, hasB_iff.2 (mem_grpsS.2 ⟨a1, y2, y1, hyp⟩)⟩
theorem lv_loop {D : Dir} {t p g : Int} (hne : g ≠ p) (hG : D.grp g = true) (he : D.edge t p g = false) (hl : (dirS D g t).length ≤ 9223372036854775807) : ∃ (I : Bool → Int → Prop) (μ : Bool → Int → Nat), I false 0 ∧ ∀ (x1 : Bool) (x2 : Int), I x1 x2 → Brn (decide (x2 < ((dirS D g t).length : Int))) (Chk (0 ≤ x2 ∧ x2 < ((dirS D g t).length : Int)) (Brn x1 (Chk (InI (x2 + 1)) (I true (x2 + 1) ∧ μ true (x2 + 1) < μ x1 x2)) (Brn (!decide (gt (dirS D g t) x2 = p)) (Chk (InI (x2 + 1)) (I (hasB (grpsS D p t) (gt (dirS D g t) x2)) (x2 + 1) ∧ μ (hasB (grpsS D p t) (gt (dirS D g t) x2)) (x2 + 1) < μ x1 x2)) (Chk (InI (x2 + 1)) (I false (x2 + 1) ∧ μ false (x2 + 1) < μ x1 x2))))) (Brn (x1 == hasB (grpsS D p t) g) (SV.one (CV.d (Cell.bool true)) = bv true) (SV.one (CV.d (Cell.bool false)) = bv true)) := by
  refine up2 (fun b z => (b = true ↔ ∃ i : Nat, (i : Int) < z ∧ gt (dirS D g t) (i : Int) ≠ p ∧ hasB (grpsS D p t) (gt (dirS D g t) (i : Int)) = true)) (by omega) ⟨fun h => (by cases h), fun ⟨i, hi, _⟩ => by omega⟩ ?_ ?_
  · rintro I μ b z h0 h1 hj nx
    obtain ⟨k, rfl, hk⟩ := natz h0 h1
    (repeat' (first | with_reducible refine brn_nd (fun h => ?_) (fun h => ?_) | with_reducible refine brn_d (fun h => ?_) (fun h => ?_) | with_reducible refine brn_nn (fun h => ?_) (fun h => ?_) | with_reducible refine brn_nb (fun h => ?_) (fun h => ?_) | with_reducible refine Brn.mk (fun h => ?_) (fun h => ?_) | with_reducible refine Chk.mk ?_ ?_ | with_reducible refine Bth.mk ?_ ?_ | with_reducible refine Fct.mk (fun hf => ?_)))
    · omega
    · omega
    · refine nx true ⟨fun _ => ?_, fun _ => rfl⟩
      obtain ⟨i, a1, a2⟩ := hj.1 (by assumption)
      exact ⟨i, by omega, a2⟩
    · omega
    · have hb : b = false := by assumption
      have hn : ¬ gt (dirS D g t) (k : Int) = p := by assumption
      refine nx _ ⟨fun h => ⟨k, by omega, hn, h⟩, fun ⟨i, a1, a2, a3⟩ => ?_⟩
      by_cases e : i < k
      · have := hj.2 ⟨i, by omega, a2, a3⟩
        rw [hb] at this; cases this
      · obtain rfl : i = k := by omega
        exact a3
    · omega
    · have hb : b = false := by assumption
      have hn : gt (dirS D g t) (k : Int) = p := by assumption
      refine nx _ ⟨fun h => (by cases h), fun ⟨i, a1, a2, a3⟩ => ?_⟩
      by_cases e : i < k
      · have := hj.2 ⟨i, by omega, a2, a3⟩
        rw [hb] at this; cases this
      · obtain rfl : i = k := by omega
        exact absurd hn a2
  · rintro I μ b hj
    have hq := lv_eq (t := t) hne hG he
    have e : b = hasB (grpsS D p t) g := by
      rw [Bool.eq_iff_iff, hj, ← hq]
      constructor
      · rintro ⟨i, a1, a2, a3⟩
        exact ⟨_, gt_mem (by omega) a1, a2, a3⟩
      · rintro ⟨h, a1, a2, a3⟩
        obtain ⟨i, hi, rfl⟩ := mem_gt a1
        exact ⟨i, by omega, a2, a3⟩
    subst e
    (repeat' (first | with_reducible refine brn_nd (fun h => ?_) (fun h => ?_) | with_reducible refine brn_d (fun h => ?_) (fun h => ?_) | with_reducible refine brn_nn (fun h => ?_) (fun h => ?_) | with_reducible refine brn_nb (fun h => ?_) (fun h => ?_) | with_reducible refine Brn.mk (fun h => ?_) (fun h => ?_) | with_reducible refine Chk.mk ?_ ?_ | with_reducible refine Bth.mk ?_ ?_ | with_reducible refine Fct.mk (fun hf => ?_)))
    · rfl
    · exfalso; simp_all
theorem Leaves_il (l : List Int) : ILt 8 [lv l] := (lawLeaves_V l).2 (by
  (delta lawLeaves_V; dsimp only [mkV])
  (repeat' (first | with_reducible refine brn_nd (fun h => ?_) (fun h => ?_) | with_reducible refine brn_d (fun h => ?_) (fun h => ?_) | with_reducible refine brn_nn (fun h => ?_) (fun h => ?_) | with_reducible refine brn_nb (fun h => ?_) (fun h => ?_) | with_reducible refine Brn.mk (fun h => ?_) (fun h => ?_) | with_reducible refine Chk.mk ?_ ?_ | with_reducible refine Bth.mk ?_ ?_ | with_reducible refine Fct.mk (fun hf => ?_)))
  · rfl
  intro d hd
  have hdn := hd.n
  have hev := (dirB_iff.1 hd.v).2.1
  have hsl := selN_len d.kinds.length (fun p => d.grp p)
  (repeat' (first | with_reducible refine brn_nd (fun h => ?_) (fun h => ?_) | with_reducible refine brn_d (fun h => ?_) (fun h => ?_) | with_reducible refine brn_nn (fun h => ?_) (fun h => ?_) | with_reducible refine brn_nb (fun h => ?_) (fun h => ?_) | with_reducible refine Brn.mk (fun h => ?_) (fun h => ?_) | with_reducible refine Chk.mk ?_ ?_ | with_reducible refine Bth.mk ?_ ?_ | with_reducible refine Fct.mk (fun hf => ?_)))
  · omega
  · rfl
  · omega
  intro z hz
  (repeat' (first | with_reducible refine brn_nd (fun h => ?_) (fun h => ?_) | with_reducible refine brn_d (fun h => ?_) (fun h => ?_) | with_reducible refine brn_nn (fun h => ?_) (fun h => ?_) | with_reducible refine brn_nb (fun h => ?_) (fun h => ?_) | with_reducible refine Brn.mk (fun h => ?_) (fun h => ?_) | with_reducible refine Chk.mk ?_ ?_ | with_reducible refine Bth.mk ?_ ?_ | with_reducible refine Fct.mk (fun hf => ?_)))
  · omega
  intro p hp
  generalize hg : gt (selN d.kinds.length fun p => d.grp p) z = g
  have hgm := mem_selN.1 (hg ▸ gt_mem hz.1 hz.2)
  have key : ∀ tm : Int, (⟨d.kinds, d.evs ++ [⟨tm, 2, p, g⟩]⟩ : Dir).edge tm p g = false := fun tm => by
    show edgeL _ _ _ _ = false
    rw [edgeL_snoc]; simp
  have keyg : ∀ tm : Int, (⟨d.kinds, d.evs ++ [⟨tm, 2, p, g⟩]⟩ : Dir).grp g = true := fun tm => hgm.2.2
  have tail : ∀ (tm : Int) (D : Dir), D = ⟨d.kinds, d.evs ++ [⟨tm, 2, p, g⟩]⟩ → D.edge tm p g = false ∧ D.grp g = true := fun tm D e => by subst e; exact ⟨key tm, keyg tm⟩
  (repeat' (first | with_reducible refine brn_nd (fun h => ?_) (fun h => ?_) | with_reducible refine brn_d (fun h => ?_) (fun h => ?_) | with_reducible refine brn_nn (fun h => ?_) (fun h => ?_) | with_reducible refine brn_nb (fun h => ?_) (fun h => ?_) | with_reducible refine Brn.mk (fun h => ?_) (fun h => ?_) | with_reducible refine Chk.mk ?_ ?_ | with_reducible refine Bth.mk ?_ ?_ | with_reducible refine Fct.mk (fun hf => ?_)))
  all_goals (first | (exact lv_loop (by omega) (keyg _) (key _) (by assumption)) | skip)
  all_goals (first | omega | rfl | (simp; omega) | skip)
  all_goals (exfalso; have hh := lv_no (key ((gt d.evs ((d.evs.length : Int) - 1)).time)); have hh2 := lv_no (key 0); simp_all))
end Go.Proofs.Ytoflahjlnbligaa
