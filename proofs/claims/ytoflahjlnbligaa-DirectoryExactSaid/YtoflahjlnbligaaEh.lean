/- Directories: Why, what it is. -/
import Derived.Test.YtoflahjlnbligaaEe
set_option linter.all false
set_option maxRecDepth 20000
set_option maxHeartbeats 4000000
namespace Go.Proofs.Ytoflahjlnbligaa
open Go.RowKit Go.Shelf
theorem pig (n : Nat) (l : List Int) (hn : l.Nodup) (h : ∀ x ∈ l, 0 ≤ x ∧ x < n) : l.length ≤ n := by
  induction n generalizing l with
  | zero =>
    cases l with
    | nil => simp
    | cons x l => have := h x (by simp); omega
  | succ n ih =>
    have := ih (l.erase (n : Int)) (hn.erase _) fun x hx => by
      rw [hn.mem_erase_iff] at hx
      have := h x hx.2
      have := hx.1
      omega
    rw [List.length_erase] at this
    split at this <;> omega
def WhyQ (d : Dir) (p g t : Int) (r : List Int × Bool) : Prop := (hasB (grpsS d p t) g = true ∧ r.2 = true ∧ ChnOk d t p g r.1) ∨ (hasB (grpsS d p t) g = false ∧ r = ([], false))
theorem Why_nd (d : Dir) (p g t : Int) : ICt 45 [d.v, iv p, iv g, iv t] (ND (fun r : List Int × Bool => WhyQ d p g t r) fun r => .tup [lv r.1, bv r.2]) := (Why_V d p g t _).2 (by
  (delta Why_V; dsimp only [mkV])
  (repeat' (first | with_reducible refine brn_nd (fun h => ?_) (fun h => ?_) | with_reducible refine brn_d (fun h => ?_) (fun h => ?_) | with_reducible refine brn_nn (fun h => ?_) (fun h => ?_) | with_reducible refine brn_nb (fun h => ?_) (fun h => ?_) | with_reducible refine Brn.mk (fun h => ?_) (fun h => ?_) | with_reducible refine Chk.mk ?_ ?_ | with_reducible refine Bth.mk ?_ ?_ | with_reducible refine Fct.mk (fun hf => ?_)))
  · exact ⟨([], false), .inr ⟨by assumption, rfl⟩, rfl⟩
  all_goals (have hin : hasB (grpsS d p t) g = true := by assumption)
  all_goals (have hg := mem_grpsS.1 (of_decide_eq_true hin))
  all_goals (have hd := hg.1.1)
  all_goals (have hp0 := ex_iff.1 hg.1.2)
  all_goals (have hxn := (dirB_iff.1 hd).1)
  all_goals (have hal := atT_len d t)
  all_goals (have hx := atT_sq (t := t) hd)
  · exact hd
  · omega
  · simp; omega
  have p0 : 0 ≤ p := hp0.1
  have p1 : p < ((atT d t).length : Int) := by omega
  refine lp4 (fun b ws o k => BfJ (atT d t) p (bits b) ws o k ∧ b.length = (atT d t).length ∧ ∃ rk, RkJ (atT d t) p b rk) (fun b ws o k => k + (bits b).count false) ⟨?_, by simp, fun _ => 0, ?_⟩ ?_
  · have h0 := BfJ.init (x := atT d t) p0 p1
    rw [bits_set p0]
    have e : bits (List.replicate ((atT d t).length : Int).toNat (-1)) = List.replicate (atT d t).length false := by
      rw [Int.toNat_natCast]; unfold bits; rw [List.map_replicate]; rfl
    rw [e]
    exact h0
  · have hs : ∀ q : Int, 0 ≤ q → q < ((atT d t).length : Int) → gt ((List.replicate ((atT d t).length : Int).toNat (-1)).set p.toNat p) q = if q = p then p else -1 := fun q q0 q1 => by
      rw [gt_sq p0 q0 (by simp; omega)]
      split
      · rfl
      · rw [gt_eq (by simp; omega)]; simp
    refine ⟨by rw [hs p p0 p1, if_pos rfl], fun q q0 q1 hq hqp => ?_⟩
    rw [hs q q0 q1, if_neg hqp] at hq
    omega
  intro I μ nx b ws o k hjj
  obtain ⟨hj, hbl, rk0, hrk0⟩ := hjj
  have h1 := hj.s
  have h2 := hj.b
  have hm0 : 0 < k → (0 ≤ gt ws (o : Int) ∧ gt ws (o : Int) < ((atT d t).length : Int)) ∧ gt (bits b) (gt ws (o : Int)) = true := fun hk => hj.q (gt ws (o : Int)) (by rw [drop_hd (show o < ws.length by omega)]; exact List.mem_cons_self ..)
  rw [show (o : Int) + 0 = (o : Int) by omega]
  (repeat' (first | with_reducible refine brn_nd (fun h => ?_) (fun h => ?_) | with_reducible refine brn_d (fun h => ?_) (fun h => ?_) | with_reducible refine brn_nn (fun h => ?_) (fun h => ?_) | with_reducible refine brn_nb (fun h => ?_) (fun h => ?_) | with_reducible refine Brn.mk (fun h => ?_) (fun h => ?_) | with_reducible refine Chk.mk ?_ ?_ | with_reducible refine Bth.mk ?_ ?_ | with_reducible refine Fct.mk (fun hf => ?_)))
  · omega
  · omega
  · exact (hm0 (by omega)).1
  · have hm := hm0 (by omega)
    rw [hx.row hm.1.1 hm.1.2]
    refine lp5 (fun b' ws' o' k' z => (BfJ (atT d t) p (bits b') ws' o' k' ∧ b'.length = (atT d t).length ∧ ∃ rk, RkJ (atT d t) p b' rk) ∧ 1 ≤ k' ∧ gt ws' (o' : Int) = gt ws (o : Int) ∧ 0 ≤ z ∧ z ≤ ((atT d t).length : Int) ∧ k' + (bits b').count false = k + (bits b).count false ∧ ∀ g : Int, 0 ≤ g → g < z → gt (gt (atT d t) (gt ws (o : Int))) g = true → gt (bits b') g = true) (fun _ _ _ _ z => (((atT d t).length : Int) - z).toNat) ⟨⟨hj, hbl, rk0, hrk0⟩, by omega, rfl, by omega, by omega, rfl, fun g g0 g1 => by omega⟩ ?_
    rintro I1 μ1 nx1 b' ws' o' k' z hJ
    have hJ0 := hJ
    obtain ⟨⟨hj', hbl', rk, hrk⟩, hk', hc', z0, z1, hcn, hs⟩ := hJ
    have h1' := hj'.s
    have h2' := hj'.b
    have hn' := hj'.n
    have hcm : gt ws (o : Int) ∈ ws'.drop o' := by rw [drop_hd (show o' < ws'.length by omega), hc']; exact List.mem_cons_self ..
    have hcq := hj'.q _ hcm
    have hcb : 0 ≤ gt b' (gt ws (o : Int)) := by
      have := hcq.2
      rw [bits_gt hcq.1.1 (by omega)] at this
      simpa using this
    rw [show (o' : Int) + 0 = (o' : Int) by omega, hc']
    have stay : gt (bits b') z = true ∨ ¬ gt (gt (atT d t) (gt ws (o : Int))) z = true → z < ((atT d t).length : Int) → ∀ g : Int, 0 ≤ g → g < z + 1 → gt (gt (atT d t) (gt ws (o : Int))) g = true → gt (bits b') g = true := fun hh hz g g0 g1 hg => by
      by_cases e : g = z
      · subst e
        rcases hh with hh | hh
        · exact hh
        · exact absurd hg hh
      · exact hs g g0 (by omega) hg
    have push : gt (gt (atT d t) (gt ws (o : Int))) z = true → gt b' z < 0 → z < ((atT d t).length : Int) → ∀ (ws2 : List Int) (o2 : Nat) (v : Int), v = gt ws (o : Int) → QueA ws' [z] ws2 o' k' o2 → I1 (b'.set z.toNat v) ws2 o2 (k' + [z].length) (z + 1) ∧ μ1 (b'.set z.toNat v) ws2 o2 (k' + [z].length) (z + 1) < μ1 b' ws' o' k' z := fun he hb hz ws2 o2 v hv hq => by
      subst hv
      have hzf : gt (bits b') z = false := by rw [bits_gt z0 (by omega)]; simp; omega
      obtain ⟨hp, hpd⟩ := hj'.push hcm z0 hz he hzf hq
      have hcs := cnt_set z0 (by rw [bits_len]; omega) hzf
      rw [← bits_set hcq.1.1] at hp hcs
      refine nx1 _ _ _ _ _ _ _ _ _ _ hJ0 ⟨⟨hp, by simp [hbl'], _, hrk.set hbl' ⟨p0, p1⟩ hcq.1.1 hcq.1.2 hcb z0 hz hb he⟩, by omega, ?_, by omega, by omega, by simp only [List.length_singleton]; omega, fun g g0 g1 hg => ?_⟩ (by omega)
      · have hps := hp.s
        have ho2 : o2 < ws2.length := by omega
        have e1 := drop_hd (show o2 < ws2.length from ho2)
        have e2 := drop_hd (show o' < ws'.length by omega)
        rw [hpd, e2] at e1
        have := (List.cons.inj e1).1
        rw [← this, hc']
      · rw [bits_set hcq.1.1, gt_sq z0 g0 (by rw [bits_len]; omega)]
        by_cases e : g = z
        · rw [if_pos e]
        · rw [if_neg e]; exact hs g g0 (by omega) hg
    have qr : QueA ws' [z] (ws' ++ [z]) o' k' o' := ⟨by rw [List.drop_append_of_le_length (by omega)], by rw [List.length_append]; simp only [List.length_singleton]; omega, by simp⟩
    have qg : QueA ws' [z] (ws'.drop o' ++ [z]) o' k' 0 := ⟨by simp, by rw [List.length_append, List.length_drop]; simp only [List.length_singleton]; omega, by rw [List.length_append, List.length_drop]; omega⟩
    have hgw : gt (ws' ++ [z]) (o' : Int) = gt ws (o : Int) := by
      rw [← hc', gt_app_l (by omega) (by omega)]
    (repeat' (first | with_reducible refine brn_nd (fun h => ?_) (fun h => ?_) | with_reducible refine brn_d (fun h => ?_) (fun h => ?_) | with_reducible refine brn_nn (fun h => ?_) (fun h => ?_) | with_reducible refine brn_nb (fun h => ?_) (fun h => ?_) | with_reducible refine Brn.mk (fun h => ?_) (fun h => ?_) | with_reducible refine Chk.mk ?_ ?_ | with_reducible refine Bth.mk ?_ ?_ | with_reducible refine Fct.mk (fun hf => ?_)))
    all_goals (try subst_vars)
    all_goals (first | omega | (simp; omega) | (simp only [List.length_singleton]; omega) | skip)
    all_goals (first
      | exact push (by assumption) (by assumption) (by assumption) _ _ _ hc' qr
      | exact push (by assumption) (by assumption) (by assumption) _ _ _ hgw qr
      | exact push (by assumption) (by assumption) (by assumption) _ _ _ hc' qg
      | exact push (by assumption) (by assumption) (by assumption) _ _ _ rfl qr
      | exact push (by assumption) (by assumption) (by assumption) _ _ _ rfl qg
      | skip)
    iterate 3
      · intro ws2 he9 hl9
        subst he9
        (repeat' (first | with_reducible refine brn_nd (fun h => ?_) (fun h => ?_) | with_reducible refine brn_d (fun h => ?_) (fun h => ?_) | with_reducible refine brn_nn (fun h => ?_) (fun h => ?_) | with_reducible refine brn_nb (fun h => ?_) (fun h => ?_) | with_reducible refine Brn.mk (fun h => ?_) (fun h => ?_) | with_reducible refine Chk.mk ?_ ?_ | with_reducible refine Bth.mk ?_ ?_ | with_reducible refine Fct.mk (fun hf => ?_)))
        · omega
        · first
          | exact push (by assumption) (by assumption) (by assumption) _ _ _ rfl qr
          | exact push (by assumption) (by assumption) (by assumption) _ _ _ hgw qr
    · have hzt : gt (bits b') z = true := by rw [bits_gt z0 (by omega)]; simp; omega
      exact nx1 _ _ _ _ _ _ _ _ _ _ hJ0 ⟨hJ0.1, hk', hc', by omega, by omega, hcn, stay (.inl hzt) (by omega)⟩ (by omega)
    · have hzt : gt (gt (atT d t) (gt ws (o : Int))) z = false := by assumption
      exact nx1 _ _ _ _ _ _ _ _ _ _ hJ0 ⟨hJ0.1, hk', hc', by omega, by omega, hcn, stay (.inr (by rw [hzt]; simp)) (by omega)⟩ (by omega)
    · refine nx _ _ _ _ _ _ _ _ ⟨hj, hbl, rk0, hrk0⟩ ⟨hj'.pop hk' hc' fun g g0 g1 hg => hs g g0 (by omega) hg, hbl', rk, hrk⟩ ?_
      simp only [show Int.toNat 1 = 1 from rfl]
      omega
  · have hk0 : k = 0 := by omega
    subst hk0
    have hfu := hj.full
    have hbg : 0 ≤ gt b g := by
      have h9 := (upS_iff (x := atT d t) (p := p) hg.2.1.1 (by rw [hal]; exact hg.2.1.2)).2 hg.2.2.1
      rw [← hfu, bits_gt hg.2.1.1 (by omega)] at h9
      simpa using h9
    refine lp1 (fun c => WyJ (atT d t) b rk0 g c) (fun c => rk0 (gt c 0)) ⟨by simp, rfl, fun y hy => ?_, fun i hi => by simp at hi, List.pairwise_singleton _ _⟩ ?_
    · simp at hy; subst hy; exact ⟨⟨hg.2.1.1, by rw [hal]; exact hg.2.1.2⟩, hbg⟩
    intro I2 μ2 nx2 c hc
    have hcn := hc.n
    have hc0 := hc.m (gt c 0) (gt_mem (by omega) (by omega))
    have hcl := pig (atT d t).length c hc.nodup fun y hy => (hc.m y hy).1
    (repeat' (first | with_reducible refine brn_nd (fun h => ?_) (fun h => ?_) | with_reducible refine brn_d (fun h => ?_) (fun h => ?_) | with_reducible refine brn_nn (fun h => ?_) (fun h => ?_) | with_reducible refine brn_nb (fun h => ?_) (fun h => ?_) | with_reducible refine Brn.mk (fun h => ?_) (fun h => ?_) | with_reducible refine Chk.mk ?_ ?_ | with_reducible refine Bth.mk ?_ ?_ | with_reducible refine Fct.mk (fun hf => ?_)))
    · omega
    · exact ⟨hc0.1.1, by omega⟩
    · omega
    · have hne : gt c 0 ≠ p := by first | assumption | (intro e; simp_all)
      have hc1 := hc.cons hrk0 hne
      refine nx2 _ _ hc hc1 ?_
      rw [gt_cons0]
      exact (hrk0.q0 _ hc0.1.1 hc0.1.2 hc0.2 hne).2.2.1
    · exact ⟨(c, true), .inl ⟨hin, rfl, hc.ok (by first | assumption | simp_all) hg.2.2.2⟩, rfl⟩)
end Go.Proofs.Ytoflahjlnbligaa
