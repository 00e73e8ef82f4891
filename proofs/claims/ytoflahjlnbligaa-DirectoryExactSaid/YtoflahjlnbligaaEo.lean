/- Directories: the reference's search. -/
import Derived.Test.YtoflahjlnbligaaEn
import Derived.Test.YtoflahjlnbligaaLb4
set_option linter.all false
set_option maxRecDepth 20000
set_option maxHeartbeats 4000000
namespace Go.Proofs.Ytoflahjlnbligaa
open Go.RowKit Go.Shelf
noncomputable def rup_V (d : Dir) (p : Int) (t : Int) (Q : SV → Prop) : Σ' P : Prop, (P → ICt 90 [.agg (List.map .d (Dir.row d)), .one (.d (.int .i64 p)), .one (.d (.int .i64 t))] Q) := by
  apply mkV; intro hP
  refine ic_wk (K 79) Try.func90 rfl rfl rfl rfl (fun w0 => ?_)
  apply (v_kint (x := 1)); exact rfl; exact hP; clear hP; intro hP
  apply (v_kint (x := 2)); exact rfl; exact hP; clear hP; intro hP
  repeat' (first
    | ((fail_if_success (have hTest : Hld False := hP)); (have hq := chk_c hP); (replace hP := chk_p hP))
    | (with_reducible (first | apply c_seq | apply c_rg | apply j_nil | apply q_n | apply g_tt | apply c_cf | apply c_bl | apply c_ex | apply c_ret | apply c_sk | apply q_e | apply b_e | apply b_n | apply n_n | apply n_e))
    | ((with_reducible apply (v_make brow (false))); exact rfl; exact rfl; exact rfl; exact rfl; exact rfl; exact rfl; exact rfl; exact rfl; exact rfl; (refine fresh_i rfl rfl ?_; (· repeat (first | exact rfl | refine allH_bcv ?_))); exact rfl; exact rfl; (apply chk_c; exact hP; (first | skip)))
    | ((with_reducible apply (v_alab2 (t := 116) 576)); exact rfl; exact rfl; exact rfl; kernel_rfl; exact rfl)
    | ((with_reducible apply v_ldxb2); exact rfl; exact rfl; exact rfl; exact rfl; (apply chk_c; exact hP; (first | skip)))
    | ((with_reducible apply v_alF); exact rfl; exact rfl; exact rfl; exact rfl; exact rfl; (· repeat (first | exact rfl | refine allH_bcv ?_)))
    | ((with_reducible apply c_l1); exact rfl; exact rfl)
    | ((with_reducible apply j_v); exact rfl; exact rfl)
    | ((with_reducible apply j_h); exact rfl; exact rfl)
    | ((with_reducible apply j_s); exact rfl)
    | ((with_reducible apply j_g); exact rfl; exact rfl; (first | with_reducible assumption | with_reducible exact Eq.refl false))
    | ((with_reducible apply g_ft); exact rfl)
    | ((with_reducible apply v_lenm); exact rfl; exact rfl; exact rfl; (exact hP); clear hP; intro hP)
    | ((with_reducible apply j_pk); exact rfl; exact rfl; (first | with_reducible assumption | with_reducible exact Eq.refl false); exact rfl)
    | ((with_reducible apply j_ld_el1); exact rfl; exact rfl; exact rfl; exact rfl; (first | exact gt_row (by omega) (by omega)); exact rfl)
    | ((with_reducible apply j_add); exact rfl; exact rfl; exact rfl; (with_reducible apply wr_i64; (apply chk_c; exact hP; (first | skip))))
    | ((with_reducible apply v_ia); exact rfl; exact rfl; exact rfl; exact rfl; (case inst => exact inferInstance); exact rfl; exact rfl; (apply chk_c; exact hP; (first | skip)))
    | ((with_reducible apply v_iasl); exact rfl; exact rfl; exact rfl; exact rfl; (first | with_reducible assumption | (apply chk_c; exact hP; (first | skip))))
    | ((with_reducible apply j_ia_ar); exact rfl; exact rfl; exact rfl; exact rfl; ((repeat ((fail_if_success (have hTest : Hld False := hP)); (have hq := chk_c hP); (replace hP := chk_p hP))); first | with_reducible assumption | (apply chk_c; exact hP; (first | skip))); ((repeat ((fail_if_success (have hTest : Hld False := hP)); (have hq := chk_c hP); (replace hP := chk_p hP))); first | with_reducible assumption | (apply chk_c; exact hP; (first | skip))); (first | exact rfl))
    | ((apply (v_ste (f := brow))); exact rfl; exact rfl; (case inst => exact inferInstance); exact rfl; exact rfl; exact rfl; exact rfl; exact rfl; exact congrArg some (brow_mk _); (first | with_reducible assumption))
    | ((with_reducible apply c_c); exact rfl; (first | with_reducible exact Eq.refl false))
    | ((with_reducible apply r_g); exact rfl; (· repeat' (first | exact True.intro | refine And.intro ?_ ?_ | (show (_ : Nat) = _; (first | exact (List.length_map _).symm)))); (exact hP.out))
    | ((with_reducible refine v_loopat (c := (.seq (.region 3 _ _) _)) ?_); (apply (v_loop2 _ _ [1, 2, 3, 7, 15, 16] [3] (fun x2 x1 => [(17, .one (.d (.int .i64 x1)))]) (fun x2 x1 => [(7, .blk 116 (List.map bcv x2))]) [])); exact rfl; exact rfl; exact ⟨(by repeat' (first | exact .nil | refine .cons ?_ ?_ | exact SVle_pl rfl | refine .one ?_ | exact .ref rfl rfl)), (by repeat' (first | exact .nil | refine .cons ?_ ?_ | exact .d rfl | exact cvl_bcv | refine .blk rfl ?_))⟩; (exact hP); clear hP; intro I μ x2 x1 hP)
    | ((with_reducible apply (v_nxt2 (a1 := _) (a2 := _))); (repeat' (first | exact .nil | refine .cons ?_ ?_ | exact SVle_pl rfl | refine .one ?_ | exact .d rfl | exact .ref rfl rfl | exact .sl rfl (by first | rfl | exact List.length_set.symm | exact (splT_len (by simp only [List.length_take, List.length_drop]; omega)).symm | omega | (rw [List.length_append, List.length_map]; show _ + 1 = _; omega) | simp) | exact cvl_bcv | refine .blk rfl ?_ | exact .arr rfl (by first | rfl | assumption | simp))); (repeat' (first | exact .nil | exact .nil _ | refine .cons ?_ ?_ | exact .u _ | exact SVle_pl rfl | refine .one ?_ | refine .agg ?_ | exact .d rfl | exact .ref rfl rfl | exact .sl rfl (by first | rfl | exact List.length_set.symm | exact (splT_len (by simp only [List.length_take, List.length_drop]; omega)).symm | omega | (rw [List.length_append, List.length_map]; show _ + 1 = _; omega) | simp) | exact .fn _ | exact .tape | exact .nils rfl | exact cvl_bcv | exact .nild | exact .nildm | exact .nil | exact .rp (by simp) | exact .clo (by simp) | exact .el rfl rfl rfl | exact .d (by first | rfl | (congr 1; omega) | (congr 1; assumption) | simp) | exact .virt rfl | exact .gone _ | refine .blk rfl ?_ | exact .arr rfl (by first | rfl | assumption | simp))); (exact hP))
    | ((with_reducible refine v_loopat (c := (.seq (.seq (.region 11 _ _) _) _)) ?_); (apply (v_loop2 _ _ [3, 7] [3, 7] (fun x1 x2 => [(10, .one (.sl 38 (List.length x1) 1)), (11, .one (.d (.bool x2)))]) (fun x1 x2 => [(38, .arr 4 1 (List.map brow x1))]) [])); exact rfl; exact rfl; (focus (refine ⟨?_, ?_⟩; rotate_left 1; (focus (repeat' (first | exact .nil | refine .cons ?_ ?_ | exact .d rfl | exact cvl_bcv | refine .blk rfl ?_ | exact .arr rfl (by first | rfl | assumption | simp)))); (focus (repeat' (first | exact .nil | refine .cons ?_ ?_ | exact SVle_pl rfl | refine .one ?_ | exact .ref rfl rfl | exact .sl rfl (by first | rfl | exact List.length_set.symm | exact (splT_len (by simp only [List.length_take, List.length_drop]; omega)).symm | omega | (rw [List.length_append, List.length_map]; show _ + 1 = _; omega) | simp)))))); (exact hP); clear hP; intro I μ x1 x2 hP)
    | ((with_reducible refine v_loopat (c := (.seq (.region 14 _ _) _)) ?_); (apply (v_loop3 _ _ _ [3, 7, 45] [3, 7] (fun x1 x2 x3 => [(10, .one (.sl 38 (List.length x1) 1)), (11, .one (.d (.bool x2))), (46, .one (.d (.int .i64 x3)))]) (fun x1 x2 x3 => [(38, .arr 4 1 (List.map brow x1))]) [])); exact rfl; exact rfl; (focus (refine ⟨?_, ?_⟩; rotate_left 1; (focus (repeat' (first | exact .nil | refine .cons ?_ ?_ | exact .d rfl | exact cvl_bcv | refine .blk rfl ?_ | exact .arr rfl (by first | rfl | assumption | simp)))); (focus (repeat' (first | exact .nil | refine .cons ?_ ?_ | exact SVle_pl rfl | refine .one ?_ | exact .ref rfl rfl | exact .sl rfl (by first | rfl | exact List.length_set.symm | exact (splT_len (by simp only [List.length_take, List.length_drop]; omega)).symm | omega | (rw [List.length_append, List.length_map]; show _ + 1 = _; omega) | simp)))))); (exact hP); clear hP; intro I μ x1 x2 x3 hP)
    | ((with_reducible apply (v_nxt3 (a1 := _) (a2 := _) (a3 := _))); rotate_left 1; (focus (repeat' (first | exact .nil | refine .cons ?_ ?_ | exact .d rfl | exact cvl_bcv | refine .blk rfl ?_ | exact .arr rfl (by first | rfl | assumption | simp)))); rotate_right 1; (focus (repeat' (first | exact .nil | refine .cons ?_ ?_ | exact SVle_pl rfl | refine .one ?_ | exact .ref rfl rfl | exact .sl rfl (by first | rfl | exact List.length_set.symm | exact (splT_len (by simp only [List.length_take, List.length_drop]; omega)).symm | omega | (rw [List.length_append, List.length_map]; show _ + 1 = _; omega) | simp)))); (exact hP))
    | ((with_reducible refine v_loopat (c := (.seq (.region 17 _ _) _)) ?_); (apply (v_loop3 _ _ _ [3, 7, 12, 45, 46, 51] [3, 7] (fun x1 x2 x3 => [(10, .one (.sl 38 (List.length x1) 1)), (11, .one (.d (.bool x2))), (52, .one (.d (.int .i64 x3)))]) (fun x1 x2 x3 => [(38, .arr 4 1 (List.map brow x1))]) [])); exact rfl; exact rfl; (focus (refine ⟨?_, ?_⟩; rotate_left 1; (focus (repeat' (first | exact .nil | refine .cons ?_ ?_ | exact .d rfl | exact cvl_bcv | refine .blk rfl ?_ | exact .arr rfl (by first | rfl | assumption | simp)))); (focus (repeat' (first | exact .nil | refine .cons ?_ ?_ | exact SVle_pl rfl | refine .one ?_ | exact .ref rfl rfl | exact .sl rfl (by first | rfl | exact List.length_set.symm | exact (splT_len (by simp only [List.length_take, List.length_drop]; omega)).symm | omega | (rw [List.length_append, List.length_map]; show _ + 1 = _; omega) | simp)))))); (exact hP); clear hP; intro I μ x1 x2 x3 hP)
    | ((with_reducible refine v_rgat (i := 6) ?_); (refine n_start (by kernel_rfl) ?_; ((apply (n_pure 0 (by kernel_rfl) rfl rfl (by kernel_rfl) (by kernel_rfl)); (first | exact p_fa (x := 0) (fo := 0) rfl rfl rfl rfl)); (apply (n_pure 2 (by kernel_rfl) rfl rfl (by kernel_rfl) (by kernel_rfl)); (first | exact p_fa (x := 0) (fo := 0) rfl rfl rfl rfl)); (apply (n_pure 4 (by kernel_rfl) rfl rfl (by kernel_rfl) (by kernel_rfl)); (first | exact p_fa (x := 0) (fo := 0) rfl rfl rfl rfl)); (refine n_quiet (some [7]) #[false, true, false, true, false, true, true, true, true, true] [1, 3, 5, 6, 7, 8, 9] 0 rfl ?_; (repeat' (first | ((fail_if_success (have hTest : Hld False := hP)); (have hq := chk_c hP); (replace hP := chk_p hP)) | ((with_reducible apply (d_e (some []))); exact rfl; exact rfl; kernel_rfl; exact (by decide +kernel); exact rfl; exact rfl; (first | ((with_reducible apply e_v); exact rfl) | ((with_reducible apply e_ia_ar); exact rfl; exact rfl; exact rfl; ((repeat ((fail_if_success (have hTest : Hld False := hP)); (have hq := chk_c hP); (replace hP := chk_p hP))); first | with_reducible assumption | (apply chk_c; exact hP; (first | skip))); ((repeat ((fail_if_success (have hTest : Hld False := hP)); (have hq := chk_c hP); (replace hP := chk_p hP))); first | with_reducible assumption | (apply chk_c; exact hP; (first | skip))); (first | exact rfl)))) | ((with_reducible apply v_dstb2); exact rfl; exact (by decide +kernel); exact rfl; exact rfl; exact rfl; exact rfl; exact rfl; ((repeat ((fail_if_success (have hTest : Hld False := hP)); (have hq := chk_c hP); (replace hP := chk_p hP))); first | with_reducible assumption | (apply chk_c; exact hP; (first | skip)))) | ((with_reducible apply d_leaf); exact (by decide +kernel)))); all_goals ((with_reducible apply n_doneZ); exact rfl; exact (by decide +kernel))))))
    | ((with_reducible apply v_gs); exact rfl; exact rfl; (exact hP); all_goals (clear hP; intro hg hP))
    | ((with_reducible apply v_if); exact rfl; (exact hP); all_goals (clear hP; intro hc hP)))
structure UpJ (d : Dir) (t p : Int) (out : List Bool) : Prop where
  n : out.length = d.kinds.length
  z : gt out p = true
  r : ∀ q : Int, 0 ≤ q → q < (d.kinds.length : Int) → gt out q = true → Rch (atT d t) p q
theorem UpJ.set {d : Dir} {t p a b : Int} {out : List Bool} (h : UpJ d t p out) (hp : 0 ≤ p ∧ p < (d.kinds.length : Int)) (a0 : 0 ≤ a) (a1 : a < (d.kinds.length : Int)) (b0 : 0 ≤ b) (b1 : b < (d.kinds.length : Int)) (ha : gt out a = true) (he : d.edge t a b = true) : UpJ d t p (out.set b.toNat true) := by
  have hn := h.n
  refine ⟨by simp [hn], ?_, fun q q0 q1 hq => ?_⟩
  · rw [gt_sq b0 hp.1 (by omega)]
    split
    · rfl
    · exact h.z
  · rw [gt_sq b0 q0 (by omega)] at hq
    by_cases e : q = b
    · subst e; exact rch_step (h.r a a0 a1 ha) ⟨a0, a1⟩ ⟨b0, b1⟩ he
    · rw [if_neg e] at hq; exact h.r q q0 q1 hq
theorem UpJ.full {d : Dir} {t p : Int} {out : List Bool} (h : UpJ d t p out) (hp : 0 ≤ p ∧ p < (d.kinds.length : Int)) (hc : ∀ a b : Int, 0 ≤ a → a < (d.kinds.length : Int) → 0 ≤ b → b < (d.kinds.length : Int) → gt out a = true → d.edge t a b = true → gt out b = true) : out = upS (atT d t) p := by
  have cl : ∀ q : Int, Rch (atT d t) p q → (0 ≤ q ∧ q < (d.kinds.length : Int)) ∧ gt out q = true := fun q hq => by
    induction hq with
    | refl => exact ⟨hp, h.z⟩
    | @step y g hq g0 g1 hg ih =>
      rw [atT_len] at g1
      rw [atT_cell ih.1.1 ih.1.2 g0 g1] at hg
      exact ⟨⟨g0, g1⟩, hc y g ih.1.1 ih.1.2 g0 g1 ih.2 hg⟩
  have hn := h.n
  refine ext_gt (by rw [upS_len, atT_len, hn]) fun k h1 h2 => ?_
  rw [Bool.eq_iff_iff, upS_iff h1 (by rw [atT_len]; omega)]
  exact ⟨h.r k h1 (by omega), fun hh => (cl _ hh).2⟩
theorem rup_ic (d : Dir) (p t : Int) : ICp (dirB d = true ∧ d.ex p = true) 90 [d.v, iv p, iv t] (fun v => v = .one (.d (.list ((upS (atT d t) p).map brow)))) := fun hd => (rup_V d p t _).2 (by
  obtain ⟨hv, hp⟩ := hd
  have hk : d.kinds.length ≤ 24 := (dirB_iff.1 hv).1
  have hp' := ex_iff.1 hp
  (delta rup_V; dsimp only [mkV])
  (repeat' (first | with_reducible refine brn_nd (fun h => ?_) (fun h => ?_) | with_reducible refine brn_d (fun h => ?_) (fun h => ?_) | with_reducible refine brn_nn (fun h => ?_) (fun h => ?_) | with_reducible refine brn_nb (fun h => ?_) (fun h => ?_) | with_reducible refine Brn.mk (fun h => ?_) (fun h => ?_) | with_reducible refine Chk.mk ?_ ?_ | with_reducible refine Bth.mk ?_ ?_ | with_reducible refine Fct.mk (fun hf => ?_)))
  refine up2 (fun xs z => xs.length = 576 ∧ ∀ a b : Int, 0 ≤ a → a < 24 → 0 ≤ b → b < 24 → gt xs (a * 24 + b) = edgeL (d.evs.take z.toNat) t a b) (by omega) ⟨by simp, fun a b a0 a1 b0 b1 => by rw [gt_eq (by rw [List.length_replicate]; omega), List.getElem_replicate]; rfl⟩ ?_ ?_
  · rintro I μ xs z h0 h1 ⟨hl, hj⟩ nx
    have hev := ev_in hv (gt_mem h0 h1)
    have ets : d.evs.take (z + 1).toNat = d.evs.take z.toNat ++ [gt d.evs z] := by
      have e : (z + 1).toNat = z.toNat + 1 := by omega
      rw [e, take_snoc (by omega), show ((z.toNat : Nat) : Int) = z by omega]
    (repeat' (first | with_reducible refine brn_nd (fun h => ?_) (fun h => ?_) | with_reducible refine brn_d (fun h => ?_) (fun h => ?_) | with_reducible refine brn_nn (fun h => ?_) (fun h => ?_) | with_reducible refine brn_nb (fun h => ?_) (fun h => ?_) | with_reducible refine Brn.mk (fun h => ?_) (fun h => ?_) | with_reducible refine Chk.mk ?_ ?_ | with_reducible refine Bth.mk ?_ ?_ | with_reducible refine Fct.mk (fun hf => ?_)))
    all_goals (try omega)
    · refine nx _ ⟨by simp [hl], fun a b a0 a1 b0 b1 => ?_⟩
      rw [ets, edgeL_snoc, gt_sq (by omega) (by omega) (by omega)]
      by_cases e : a = (gt d.evs z).prin ∧ b = (gt d.evs z).grp
      · rw [if_pos (by rw [e.1, e.2]; rfl), if_pos ⟨by assumption, e.1.symm, e.2.symm⟩]
      · rw [if_neg (by omega), if_neg (by rintro ⟨_, e1, e2⟩; exact e ⟨e1.symm, e2.symm⟩)]
        exact hj a b a0 a1 b0 b1
    · refine nx _ ⟨hl, fun a b a0 a1 b0 b1 => ?_⟩
      rw [ets, edgeL_snoc, if_neg (by rintro ⟨a, _⟩; contradiction)]
      exact hj a b a0 a1 b0 b1
  · rintro I0 μ0 xs ⟨hl, hj⟩
    have hT : ∀ a b : Int, 0 ≤ a → a < (d.kinds.length : Int) → 0 ≤ b → b < (d.kinds.length : Int) → gt xs (a * 24 + b) = d.edge t a b := fun a b a0 a1 b0 b1 => by
      rw [hj a b a0 (by omega) b0 (by omega), List.take_of_length_le (by omega)]; rfl
    (repeat' (first | with_reducible refine brn_nd (fun h => ?_) (fun h => ?_) | with_reducible refine brn_d (fun h => ?_) (fun h => ?_) | with_reducible refine brn_nn (fun h => ?_) (fun h => ?_) | with_reducible refine brn_nb (fun h => ?_) (fun h => ?_) | with_reducible refine Brn.mk (fun h => ?_) (fun h => ?_) | with_reducible refine Chk.mk ?_ ?_ | with_reducible refine Bth.mk ?_ ?_ | with_reducible refine Fct.mk (fun hf => ?_)))
    · omega
    · simp; omega
    rw [show ((d.kinds.length : Int)).toNat = d.kinds.length by omega]
    refine lp2 (fun out more => UpJ d t p out ∧ (more = false → ∀ a b : Int, 0 ≤ a → a < (d.kinds.length : Int) → 0 ≤ b → b < (d.kinds.length : Int) → gt out a = true → d.edge t a b = true → gt out b = true)) (fun out more => 2 * out.count false + (if more = true then 1 else 0)) ⟨⟨by simp, by rw [gt_sq hp'.1 hp'.1 (by simp; omega)]; simp, fun q q0 q1 hq => ?_⟩, fun h => by cases h⟩ ?_
    · rw [gt_sq hp'.1 q0 (by simp; omega)] at hq
      by_cases e : q = p
      · rw [e]; exact .refl
      · rw [if_neg e, gt_eq (by simp; omega)] at hq; simp at hq
    intro I μ nx out more ⟨hu, hcl⟩
    (repeat' (first | with_reducible refine brn_nd (fun h => ?_) (fun h => ?_) | with_reducible refine brn_d (fun h => ?_) (fun h => ?_) | with_reducible refine brn_nn (fun h => ?_) (fun h => ?_) | with_reducible refine brn_nb (fun h => ?_) (fun h => ?_) | with_reducible refine Brn.mk (fun h => ?_) (fun h => ?_) | with_reducible refine Chk.mk ?_ ?_ | with_reducible refine Bth.mk ?_ ?_ | with_reducible refine Fct.mk (fun hf => ?_)))
    · refine lp3 (fun out' more' a => UpJ d t p out' ∧ 0 ≤ a ∧ a ≤ (d.kinds.length : Int) ∧ out'.count false + (if more' = true then 1 else 0) ≤ out.count false ∧ (more' = false → ∀ a' b : Int, 0 ≤ a' → a' < a → 0 ≤ b → b < (d.kinds.length : Int) → gt out' a' = true → d.edge t a' b = true → gt out' b = true)) (fun _ _ a => ((d.kinds.length : Int) - a).toNat) ⟨hu, by omega, by omega, by simp, fun _ a' b h1 h2 => by omega⟩ ?_
      rintro I1 μ1 nx1 out' more' a ⟨hu', a0, a1, hc', hcl'⟩
      (repeat' (first | with_reducible refine brn_nd (fun h => ?_) (fun h => ?_) | with_reducible refine brn_d (fun h => ?_) (fun h => ?_) | with_reducible refine brn_nn (fun h => ?_) (fun h => ?_) | with_reducible refine brn_nb (fun h => ?_) (fun h => ?_) | with_reducible refine Brn.mk (fun h => ?_) (fun h => ?_) | with_reducible refine Chk.mk ?_ ?_ | with_reducible refine Bth.mk ?_ ?_ | with_reducible refine Fct.mk (fun hf => ?_)))
      · refine lp3 (fun o m b => UpJ d t p o ∧ 0 ≤ b ∧ b ≤ (d.kinds.length : Int) ∧ o.count false + (if m = true then 1 else 0) ≤ out.count false ∧ (m = false → (∀ a' b' : Int, 0 ≤ a' → a' < a → 0 ≤ b' → b' < (d.kinds.length : Int) → gt o a' = true → d.edge t a' b' = true → gt o b' = true) ∧ ∀ b' : Int, 0 ≤ b' → b' < b → gt o a = true → d.edge t a b' = true → gt o b' = true)) (fun _ _ b => ((d.kinds.length : Int) - b).toNat) ⟨hu', by omega, by omega, hc', fun hm => ⟨hcl' hm, fun b' h1 h2 => by omega⟩⟩ ?_
        rintro I2 μ2 nx2 o m b ⟨hu2, b0, b1, hc2, hcl2⟩
        have hn2 := hu2.n
        have stay : b < (d.kinds.length : Int) → (gt o a = true → d.edge t a b = true → gt o b = true) → I2 o m (b + 1) ∧ μ2 o m (b + 1) < μ2 o m b := fun hb hh => by
          refine nx2 _ _ _ _ _ _ ⟨hu2, b0, b1, hc2, hcl2⟩ ⟨hu2, by omega, by omega, hc2, fun hm => ⟨(hcl2 hm).1, fun b' h1 h2 h3 h4 => ?_⟩⟩ (by omega)
          by_cases e : b' = b
          · subst e; exact hh h3 h4
          · exact (hcl2 hm).2 b' h1 (by omega) h3 h4
        (repeat' (first | with_reducible refine brn_nd (fun h => ?_) (fun h => ?_) | with_reducible refine brn_d (fun h => ?_) (fun h => ?_) | with_reducible refine brn_nn (fun h => ?_) (fun h => ?_) | with_reducible refine brn_nb (fun h => ?_) (fun h => ?_) | with_reducible refine Brn.mk (fun h => ?_) (fun h => ?_) | with_reducible refine Chk.mk ?_ ?_ | with_reducible refine Bth.mk ?_ ?_ | with_reducible refine Fct.mk (fun hf => ?_)))
        all_goals (try omega)
        · have hbf : gt o b = false := by assumption
          have hcs := cnt_set b0 (by omega) hbf
          refine nx2 _ _ _ _ _ _ ⟨hu2, b0, b1, hc2, hcl2⟩ ⟨hu2.set hp' a0 (by omega) b0 (by omega) (by assumption) ?_, by omega, by omega, ?_, fun h => by cases h⟩ (by omega)
          · rw [← hT a b a0 (by omega) b0 (by omega)]; assumption
          · rw [if_pos rfl]
            have : 0 ≤ (if m = true then 1 else 0 : Nat) := Nat.zero_le _
            omega
        · exact stay (by omega) fun _ _ => by assumption
        · refine stay (by omega) fun _ he => ?_
          rw [← hT a b a0 (by omega) b0 (by omega)] at he
          have h9 : gt xs (a * 24 + b) = false := by assumption
          rw [h9] at he; cases he
        · refine stay (by omega) fun ha _ => ?_
          have h9 : gt o a = false := by assumption
          rw [h9] at ha; cases ha
        · refine nx1 _ _ _ _ _ _ ⟨hu', a0, a1, hc', hcl'⟩ ⟨hu2, by omega, by omega, hc2, fun hm a' b' h1 h2 h3 h4 h5 h6 => ?_⟩ (by omega)
          by_cases e : a' = a
          · subst e; exact (hcl2 hm).2 b' h3 (by omega) h5 h6
          · exact (hcl2 hm).1 a' b' h1 (by omega) h3 h4 h5 h6
      · have hm : more = true := by assumption
        refine nx _ _ _ _ ⟨hu, hcl⟩ ⟨hu', fun hm a b h1 h2 h3 h4 h5 h6 => hcl' hm a b h1 (by omega) h3 h4 h5 h6⟩ ?_
        rw [if_pos hm]
        have : (if more' = true then 1 else 0 : Nat) ≤ 1 := by split <;> omega
        omega
    · rw [hu.full hp' (hcl (by assumption))])
end Go.Proofs.Ytoflahjlnbligaa
