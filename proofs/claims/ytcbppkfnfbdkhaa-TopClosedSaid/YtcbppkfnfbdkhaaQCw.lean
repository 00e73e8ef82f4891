/- Directories: upward. -/
import Derived.Test.YtcbppkfnfbdkhaaQCv
import Derived.Test.YtcbppkfnfbdkhaaLb4
set_option linter.all false
set_option maxRecDepth 20000
set_option maxHeartbeats 4000000
namespace Go.Proofs.Ytcbppkfnfbdkhaa
open Go.RowKit Go.Shelf
noncomputable def upw_V (x : List (List Bool)) (p : Int) (Q : SV → Prop) : Σ' P : Prop, (P → ICt 205 [.one (.d (.list (List.map (lrow brow) x))), .one (.d (.int .i64 p))] Q) := by
  apply mkV; intro hP
  refine ic_wk (K 51) Try.func205 rfl rfl rfl rfl (fun w0 => ?_)
  apply (v_kint (x := 1)); exact rfl; exact hP; clear hP; intro hP
  repeat' (first
    | ((fail_if_success (have hTest : Hld False := hP)); (have hq := chk_c hP); (replace hP := chk_p hP))
    | ((with_reducible apply j_lst); exact rfl)
    | (with_reducible (first | apply c_seq | apply c_rg | apply j_nil | apply q_n | apply g_tt | apply g_ff | apply c_ct | apply c_cf | apply c_bl | apply c_ex | apply c_ret | apply c_sk | apply q_r | apply q_e | apply b_r | apply b_e | apply b_n | apply n_n | apply n_r | apply n_e))
    | ((with_reducible apply v_slh); exact rfl; exact rfl; exact rfl; exact rfl; exact rfl; exact (fun _ => rfl); (first | with_reducible assumption | (apply chk_c; exact hP; (first | (guard_target = Prop; rotate_left 1) | skip))))
    | ((with_reducible apply v_sh); exact rfl; exact rfl; exact rfl; exact rfl; exact (fun _ => rfl); (first | with_reducible assumption | (apply chk_c; exact hP; (first | (guard_target = Prop; rotate_left 1) | skip))))
    | ((with_reducible apply v_sl); exact rfl; exact rfl; exact rfl; exact rfl; exact (fun _ => rfl); (first | with_reducible assumption | (apply chk_c; exact hP; (first | (guard_target = Prop; rotate_left 1) | skip))))
    | ((with_reducible apply v_lenstr); exact rfl; exact rfl; kernel_rfl)
    | ((with_reducible apply v_lenslp); exact rfl; exact rfl; exact rfl; (first | with_reducible assumption | (apply chk_c; exact hP; (first | (guard_target = Prop; rotate_left 1) | skip))))
    | ((with_reducible apply v_iaslp); exact rfl; exact rfl; exact rfl; exact rfl; exact rfl; (first | with_reducible assumption | (apply chk_c; exact hP; (first | (guard_target = Prop; rotate_left 1) | skip))))
    | ((with_reducible apply v_slslp); exact rfl; exact rfl; exact rfl; exact rfl; (first | with_reducible assumption | (apply chk_c; exact hP; (first | (guard_target = Prop; rotate_left 1) | skip))))
    | ((with_reducible apply (v_apq (irow))); exact rfl; exact rfl; exact rfl; exact rfl; exact rfl; exact rfl; exact rfl; (first | (apply src_sl; exact rfl; exact rfl; exact rfl) | (apply src_sl; exact rfl; exact rfl; rw [List.length_map]; omega) | (apply src_sl; exact rfl; exact rfl; exact List.length_map _) | (apply src_nil; exact rfl) | (apply src_d; exact rfl; (intro row hrow; obtain ⟨q, _, rfl⟩ := List.mem_map.1 hrow; rfl))); (first | exact rfl | exact row_one (irow_mk _) | exact row_nil); exact rfl; exact rfl; exact rfl; exact rfl; exact rfl; ((repeat ((fail_if_success (have hTest : Hld False := hP)); (have hq := chk_c hP); (replace hP := chk_p hP))); first | with_reducible assumption | (apply chk_c; exact hP; (first | (guard_target = Prop; rotate_left 1) | skip))); ((repeat ((fail_if_success (have hTest : Hld False := hP)); (have hq := chk_c hP); (replace hP := chk_p hP))); exact hP); clear hP; intro ws o2 hq9 hP)
    | ((with_reducible apply (v_apq (brow))); exact rfl; exact rfl; exact rfl; exact rfl; exact rfl; exact rfl; exact rfl; (first | (apply src_sl; exact rfl; exact rfl; exact rfl) | (apply src_sl; exact rfl; exact rfl; rw [List.length_map]; omega) | (apply src_sl; exact rfl; exact rfl; exact List.length_map _) | (apply src_nil; exact rfl) | (apply src_d; exact rfl; (intro row hrow; obtain ⟨q, _, rfl⟩ := List.mem_map.1 hrow; rfl))); (first | exact rfl | exact row_one (brow_mk _) | exact row_nil); exact rfl; exact rfl; exact rfl; exact rfl; exact rfl; ((repeat ((fail_if_success (have hTest : Hld False := hP)); (have hq := chk_c hP); (replace hP := chk_p hP))); first | with_reducible assumption | (apply chk_c; exact hP; (first | (guard_target = Prop; rotate_left 1) | skip))); ((repeat ((fail_if_success (have hTest : Hld False := hP)); (have hq := chk_c hP); (replace hP := chk_p hP))); exact hP); clear hP; intro ws o2 hq9 hP)
    | ((with_reducible apply v_slsl); exact rfl; exact rfl; exact rfl; exact rfl; (first | with_reducible assumption | (apply chk_c; exact hP; (first | (guard_target = Prop; rotate_left 1) | skip))))
    | ((with_reducible apply v_slsh); exact rfl; exact rfl; exact rfl; exact rfl; (first | with_reducible assumption | (apply chk_c; exact hP; (first | (guard_target = Prop; rotate_left 1) | skip))))
    | ((with_reducible apply (v_make brow (false))); exact rfl; exact rfl; exact rfl; exact rfl; exact rfl; exact rfl; exact rfl; exact rfl; exact rfl; exact rfl; exact rfl; exact rfl; (first | with_reducible assumption | (apply chk_c; exact hP; (first | (guard_target = Prop; rotate_left 1) | skip))))
    | ((with_reducible apply c_l1); exact rfl; exact rfl)
    | ((with_reducible apply c_l2); exact rfl; exact rfl)
    | ((with_reducible apply c_l3); exact rfl)
    | ((with_reducible apply j_v); exact rfl; exact rfl)
    | ((with_reducible apply (v_bsf (d := 46) (irow))); exact rfl; exact rfl; exact (row_cons (irow_mk _) row_nil); exact rfl; exact rfl)
    | ((with_reducible apply (v_bs (irow))); exact rfl; exact rfl; exact (row_cons (irow_mk _) row_nil); exact rfl)
    | ((with_reducible apply j_h); exact rfl; exact rfl)
    | ((with_reducible apply j_s); exact rfl)
    | ((with_reducible apply j_g); exact rfl; exact rfl; (first | with_reducible assumption | with_reducible exact Eq.refl true | with_reducible exact Eq.refl false | (with_reducible refine not_t ?_; with_reducible assumption) | (with_reducible refine not_f ?_; with_reducible assumption) | (refine dec_t ?_; decide) | (refine dec_f ?_; decide)))
    | ((with_reducible apply g_tf); exact rfl)
    | ((with_reducible apply g_ft); exact rfl)
    | ((with_reducible apply j_gz); exact rfl; exact rfl; exact rfl)
    | ((with_reducible apply v_lenm); exact rfl; exact rfl; exact rfl; (exact hP); clear hP; intro hP)
    | ((with_reducible apply v_lens); exact rfl; exact rfl; exact rfl; (exact hP); clear hP; intro hP)
    | ((with_reducible apply j_len); exact rfl; exact rfl; exact rfl)
    | ((with_reducible apply j_len0); exact rfl; exact rfl; exact rfl)
    | ((with_reducible apply j_pk); exact rfl; exact rfl; (first | with_reducible assumption | with_reducible exact Eq.refl true | with_reducible exact Eq.refl false | (with_reducible refine not_t ?_; with_reducible assumption) | (with_reducible refine not_f ?_; with_reducible assumption) | (refine dec_t ?_; decide) | (refine dec_f ?_; decide)); exact rfl)
    | ((with_reducible apply j_ld_el1); exact rfl; exact rfl; exact rfl; exact rfl; (first | with_reducible assumption | exact gt_row (by omega) (by omega) | exact rfl); exact rfl)
    | ((with_reducible apply j_add); exact rfl; exact rfl; exact rfl; (first | (with_reducible apply wr_i64; (first | with_reducible assumption | (apply chk_c; exact hP; (first | (guard_target = Prop; rotate_left 1) | skip)))) | exact rfl))
    | ((with_reducible apply v_ia); exact rfl; exact rfl; exact rfl; exact rfl; (case inst => exact inferInstance); exact rfl; exact rfl; (first | with_reducible assumption | (apply chk_c; exact hP; (first | (guard_target = Prop; rotate_left 1) | skip))))
    | ((with_reducible apply v_iasl); exact rfl; exact rfl; exact rfl; exact rfl; (first | with_reducible assumption | (apply chk_c; exact hP; (first | (guard_target = Prop; rotate_left 1) | skip))))
    | ((with_reducible apply j_ia_ar); exact rfl; exact rfl; exact rfl; exact rfl; ((repeat ((fail_if_success (have hTest : Hld False := hP)); (have hq := chk_c hP); (replace hP := chk_p hP))); first | with_reducible assumption | (apply chk_c; exact hP; (first | (guard_target = Prop; rotate_left 1) | skip))); ((repeat ((fail_if_success (have hTest : Hld False := hP)); (have hq := chk_c hP); (replace hP := chk_p hP))); first | with_reducible assumption | (apply chk_c; exact hP; (first | (guard_target = Prop; rotate_left 1) | skip))); (first | with_reducible exact Int.toNat_natCast _ | exact rfl))
    | ((apply (v_ste (f := irow))); exact rfl; exact rfl; (case inst => exact inferInstance); exact rfl; exact rfl; exact rfl; exact rfl; exact rfl; (first | exact congrArg some (irow_mk _)); (first | with_reducible assumption | (apply chk_c; exact hP; (first | (guard_target = Prop; rotate_left 1) | skip))))
    | ((apply (v_ste (f := brow))); exact rfl; exact rfl; (case inst => exact inferInstance); exact rfl; exact rfl; exact rfl; exact rfl; exact rfl; (first | exact congrArg some (brow_mk _)); (first | with_reducible assumption | (apply chk_c; exact hP; (first | (guard_target = Prop; rotate_left 1) | skip))))
    | ((with_reducible apply (v_ap (irow))); exact rfl; exact rfl; exact rfl; exact rfl; exact rfl; exact rfl; exact rfl; (first | exact rfl | exact row_one (irow_mk _) | exact row_nil); exact rfl; exact rfl; exact rfl; (first | (apply src_sl; exact rfl; exact rfl; exact rfl) | (apply src_sl; exact rfl; exact rfl; rw [List.length_map]; omega) | (apply src_sl; exact rfl; exact rfl; exact List.length_map _) | (apply src_nil; exact rfl) | (apply src_d; exact rfl; (intro row hrow; obtain ⟨q, _, rfl⟩ := List.mem_map.1 hrow; rfl))); (first | exact rfl | exact row_one (irow_mk _) | exact row_nil); exact rfl; exact rfl; exact rfl; (first | with_reducible assumption | (apply chk_c; exact hP; (first | (guard_target = Prop; rotate_left 1) | skip))))
    | ((with_reducible apply (v_ap (brow))); exact rfl; exact rfl; exact rfl; exact rfl; exact rfl; exact rfl; exact rfl; (first | exact rfl | exact row_one (brow_mk _) | exact row_nil); exact rfl; exact rfl; exact rfl; (first | (apply src_sl; exact rfl; exact rfl; exact rfl) | (apply src_sl; exact rfl; exact rfl; rw [List.length_map]; omega) | (apply src_sl; exact rfl; exact rfl; exact List.length_map _) | (apply src_nil; exact rfl) | (apply src_d; exact rfl; (intro row hrow; obtain ⟨q, _, rfl⟩ := List.mem_map.1 hrow; rfl))); (first | exact rfl | exact row_one (brow_mk _) | exact row_nil); exact rfl; exact rfl; exact rfl; (first | with_reducible assumption | (apply chk_c; exact hP; (first | (guard_target = Prop; rotate_left 1) | skip))))
    | ((with_reducible apply (v_ap0 (irow))); exact rfl; exact rfl; exact rfl; exact rfl; exact rfl; exact rfl; (first | (apply src_sl; exact rfl; exact rfl; exact rfl) | (apply src_sl; exact rfl; exact rfl; rw [List.length_map]; omega) | (apply src_sl; exact rfl; exact rfl; exact List.length_map _) | (apply src_nil; exact rfl) | (apply src_d; exact rfl; (intro row hrow; obtain ⟨q, _, rfl⟩ := List.mem_map.1 hrow; rfl))); (first | exact rfl | exact row_one (irow_mk _) | exact row_nil); exact rfl; exact rfl; exact rfl; (first | with_reducible assumption | (apply chk_c; exact hP; (first | (guard_target = Prop; rotate_left 1) | skip))))
    | ((with_reducible apply (v_ap0 (brow))); exact rfl; exact rfl; exact rfl; exact rfl; exact rfl; exact rfl; (first | (apply src_sl; exact rfl; exact rfl; exact rfl) | (apply src_sl; exact rfl; exact rfl; rw [List.length_map]; omega) | (apply src_sl; exact rfl; exact rfl; exact List.length_map _) | (apply src_nil; exact rfl) | (apply src_d; exact rfl; (intro row hrow; obtain ⟨q, _, rfl⟩ := List.mem_map.1 hrow; rfl))); (first | exact rfl | exact row_one (brow_mk _) | exact row_nil); exact rfl; exact rfl; exact rfl; (first | with_reducible assumption | (apply chk_c; exact hP; (first | (guard_target = Prop; rotate_left 1) | skip))))
    | ((with_reducible apply c_c); exact rfl; (first | with_reducible assumption | with_reducible exact Eq.refl true | with_reducible exact Eq.refl false | (with_reducible refine not_t ?_; with_reducible assumption) | (with_reducible refine not_f ?_; with_reducible assumption) | (refine dec_t ?_; decide) | (refine dec_f ?_; decide)))
    | ((with_reducible apply b_o); exact rfl)
    | ((with_reducible apply r_g); exact rfl; (· repeat' (first | exact True.intro | refine And.intro ?_ ?_ | (show (_ : Nat) = _; (first | exact rfl | exact (List.length_map _).symm | omega | (simp only [List.length_set, List.length_map, List.length_append] <;> omega) | (simp; done))))); (exact hP.out))
    | ((with_reducible refine v_loopat (c := (.seq (.seq (.region 4 _ _) _) _)) ?_); (apply (v_loop4 _ _ _ _ [0] [] (fun x1 x2 x3 x4 => [(5, .one (.sl 11 (List.length x1) 1)), (6, .one (.slp 16 x3 x4 1))]) (fun x1 x2 x3 x4 => [(11, .arr 4 1 (List.map brow x1)), (16, .arr 3 1 (List.map irow x2))]) [])); exact rfl; exact rfl; (focus (refine ⟨?_, ?_⟩; rotate_left 1; (focus (repeat' (first | exact .nil | exact .nil _ | refine .cons ?_ ?_ | exact .u _ | exact SVle_pl rfl | refine .one ?_ | refine .agg ?_ | exact .d rfl | exact .ref rfl rfl | exact .sl rfl (by first | rfl | exact List.length_set.symm | exact (splT_len (by simp only [List.length_take, List.length_drop]; omega)).symm | omega | (rw [List.length_append, List.length_map]; show _ + 1 = _; omega) | simp) | exact .fn _ | exact .tape | exact .nils rfl | exact .nild | exact .nildm | exact .nil | exact .rp (by simp) | exact .clo (by simp) | exact .el rfl rfl rfl | exact .d (by first | rfl | (congr 1; omega) | (congr 1; assumption) | simp) | exact .virt rfl | exact .gone _ | refine .blk rfl ?_ | exact .slz rfl rfl | exact .slpe rfl rfl rfl | exact .arr rfl (by first | rfl | assumption | simp)))); (focus (repeat' (first | exact .nil | exact .nil _ | refine .cons ?_ ?_ | exact .u _ | exact SVle_pl rfl | refine .one ?_ | refine .agg ?_ | exact .d rfl | exact .ref rfl rfl | exact .sl rfl (by first | rfl | exact List.length_set.symm | exact (splT_len (by simp only [List.length_take, List.length_drop]; omega)).symm | omega | (rw [List.length_append, List.length_map]; show _ + 1 = _; omega) | simp) | exact .fn _ | exact .tape | exact .nils rfl | exact .nild | exact .nildm | exact .nil | exact .rp (by simp) | exact .clo (by simp) | exact .el rfl rfl rfl | exact .d (by first | rfl | (congr 1; omega) | (congr 1; assumption) | simp) | exact .virt rfl | exact .gone _ | refine .blk rfl ?_ | exact .slz rfl rfl | exact .slpe rfl rfl rfl | exact .arr rfl (by first | rfl | assumption | simp)))))); (exact hP); clear hP; intro I μ x1 x2 x3 x4 hP)
    | ((with_reducible apply (v_nxt4 (a1 := _) (a2 := _) (a3 := _) (a4 := _))); rotate_left 1; (focus (repeat' (first | exact .nil | exact .nil _ | refine .cons ?_ ?_ | exact .u _ | exact SVle_pl rfl | refine .one ?_ | refine .agg ?_ | exact .d rfl | exact .ref rfl rfl | exact .sl rfl (by first | rfl | exact List.length_set.symm | exact (splT_len (by simp only [List.length_take, List.length_drop]; omega)).symm | omega | (rw [List.length_append, List.length_map]; show _ + 1 = _; omega) | simp) | exact .fn _ | exact .tape | exact .nils rfl | exact .nild | exact .nildm | exact .nil | exact .rp (by simp) | exact .clo (by simp) | exact .el rfl rfl rfl | exact .d (by first | rfl | (congr 1; omega) | (congr 1; assumption) | simp) | exact .virt rfl | exact .gone _ | refine .blk rfl ?_ | exact .slz rfl rfl | exact .slpe rfl rfl rfl | exact .arr rfl (by first | rfl | assumption | simp)))); rotate_right 1; (focus (repeat' (first | exact .nil | exact .nil _ | refine .cons ?_ ?_ | exact .u _ | exact SVle_pl rfl | refine .one ?_ | refine .agg ?_ | exact .d rfl | exact .ref rfl rfl | exact .sl rfl (by first | rfl | exact List.length_set.symm | exact (splT_len (by simp only [List.length_take, List.length_drop]; omega)).symm | omega | (rw [List.length_append, List.length_map]; show _ + 1 = _; omega) | simp) | exact .fn _ | exact .tape | exact .nils rfl | exact .nild | exact .nildm | exact .nil | exact .rp (by simp) | exact .clo (by simp) | exact .el rfl rfl rfl | exact .d (by first | rfl | (congr 1; omega) | (congr 1; assumption) | simp) | exact .virt rfl | exact .gone _ | refine .blk rfl ?_ | exact .slz rfl rfl | exact .slpe rfl rfl rfl | exact .arr rfl (by first | rfl | assumption | simp)))); (exact hP))
    | ((with_reducible refine v_loopat (c := (.seq (.region 7 _ _) _)) ?_); (apply (v_loop5 _ _ _ _ _ [0, 27, 28] [] (fun x1 x2 x3 x4 x5 => [(5, .one (.sl 11 (List.length x1) 1)), (6, .one (.slp 16 x3 x4 1)), (29, .one (.d (.int .i64 x5)))]) (fun x1 x2 x3 x4 x5 => [(11, .arr 4 1 (List.map brow x1)), (16, .arr 3 1 (List.map irow x2))]) [])); exact rfl; exact rfl; (focus (refine ⟨?_, ?_⟩; rotate_left 1; (focus (repeat' (first | exact .nil | exact .nil _ | refine .cons ?_ ?_ | exact .u _ | exact SVle_pl rfl | refine .one ?_ | refine .agg ?_ | exact .d rfl | exact .ref rfl rfl | exact .sl rfl (by first | rfl | exact List.length_set.symm | exact (splT_len (by simp only [List.length_take, List.length_drop]; omega)).symm | omega | (rw [List.length_append, List.length_map]; show _ + 1 = _; omega) | simp) | exact .fn _ | exact .tape | exact .nils rfl | exact .nild | exact .nildm | exact .nil | exact .rp (by simp) | exact .clo (by simp) | exact .el rfl rfl rfl | exact .d (by first | rfl | (congr 1; omega) | (congr 1; assumption) | simp) | exact .virt rfl | exact .gone _ | refine .blk rfl ?_ | exact .slz rfl rfl | exact .slpe rfl rfl rfl | exact .arr rfl (by first | rfl | assumption | simp)))); (focus (repeat' (first | exact .nil | exact .nil _ | refine .cons ?_ ?_ | exact .u _ | exact SVle_pl rfl | refine .one ?_ | refine .agg ?_ | exact .d rfl | exact .ref rfl rfl | exact .sl rfl (by first | rfl | exact List.length_set.symm | exact (splT_len (by simp only [List.length_take, List.length_drop]; omega)).symm | omega | (rw [List.length_append, List.length_map]; show _ + 1 = _; omega) | simp) | exact .fn _ | exact .tape | exact .nils rfl | exact .nild | exact .nildm | exact .nil | exact .rp (by simp) | exact .clo (by simp) | exact .el rfl rfl rfl | exact .d (by first | rfl | (congr 1; omega) | (congr 1; assumption) | simp) | exact .virt rfl | exact .gone _ | refine .blk rfl ?_ | exact .slz rfl rfl | exact .slpe rfl rfl rfl | exact .arr rfl (by first | rfl | assumption | simp)))))); (exact hP); clear hP; intro I μ x1 x2 x3 x4 x5 hP)
    | ((with_reducible apply (v_nxt5 (a1 := _) (a2 := _) (a3 := _) (a4 := _) (a5 := _))); rotate_left 1; (focus (repeat' (first | exact .nil | exact .nil _ | refine .cons ?_ ?_ | exact .u _ | exact SVle_pl rfl | refine .one ?_ | refine .agg ?_ | exact .d rfl | exact .ref rfl rfl | exact .sl rfl (by first | rfl | exact List.length_set.symm | exact (splT_len (by simp only [List.length_take, List.length_drop]; omega)).symm | omega | (rw [List.length_append, List.length_map]; show _ + 1 = _; omega) | simp) | exact .fn _ | exact .tape | exact .nils rfl | exact .nild | exact .nildm | exact .nil | exact .rp (by simp) | exact .clo (by simp) | exact .el rfl rfl rfl | exact .d (by first | rfl | (congr 1; omega) | (congr 1; assumption) | simp) | exact .virt rfl | exact .gone _ | refine .blk rfl ?_ | exact .slz rfl rfl | exact .slpe rfl rfl rfl | exact .arr rfl (by first | rfl | assumption | simp)))); rotate_right 1; (focus (repeat' (first | exact .nil | exact .nil _ | refine .cons ?_ ?_ | exact .u _ | exact SVle_pl rfl | refine .one ?_ | refine .agg ?_ | exact .d rfl | exact .ref rfl rfl | exact .sl rfl (by first | rfl | exact List.length_set.symm | exact (splT_len (by simp only [List.length_take, List.length_drop]; omega)).symm | omega | (rw [List.length_append, List.length_map]; show _ + 1 = _; omega) | simp) | exact .fn _ | exact .tape | exact .nils rfl | exact .nild | exact .nildm | exact .nil | exact .rp (by simp) | exact .clo (by simp) | exact .el rfl rfl rfl | exact .d (by first | rfl | (congr 1; omega) | (congr 1; assumption) | simp) | exact .virt rfl | exact .gone _ | refine .blk rfl ?_ | exact .slz rfl rfl | exact .slpe rfl rfl rfl | exact .arr rfl (by first | rfl | assumption | simp)))); (exact hP))
    | ((with_reducible apply v_gs); exact rfl; exact rfl; (exact hP); all_goals (clear hP; intro hg hP))
    | ((with_reducible apply v_if); exact rfl; (exact hP); all_goals (clear hP; intro hc hP)))
inductive Rch (x : List (List Bool)) (p : Int) : Int → Prop
  | refl : Rch x p p
  | step {q g : Int} (h : Rch x p q) (g0 : 0 ≤ g) (g1 : g < (x.length : Int)) (hg : gt (gt x q) g = true) : Rch x p g
noncomputable def upS (x : List (List Bool)) (p : Int) : List Bool := (List.range x.length).map fun (q : Nat) => @decide (Rch x p q) (Classical.propDecidable _)
theorem upS_len (x : List (List Bool)) (p : Int) : (upS x p).length = x.length := by simp [upS]
theorem upS_iff {x : List (List Bool)} {p q : Int} (h0 : 0 ≤ q) (h : q < (x.length : Int)) : gt (upS x p) q = true ↔ Rch x p q := by
  unfold upS
  rw [gt_range h0 h, show ((q.toNat : Nat) : Int) = q by omega]
  exact @decide_eq_true_iff _ (Classical.propDecidable _)
theorem ext_gt {α : Type} [Inhabited α] {a b : List α} (hl : a.length = b.length) (h : ∀ i : Int, 0 ≤ i → i < (a.length : Int) → gt a i = gt b i) : a = b := by
  refine List.ext_getElem hl fun k h1 h2 => ?_
  have := h k (by omega) (by omega)
  rwa [gt_nat h1, gt_nat h2] at this
structure SqT (x : List (List Bool)) : Prop where
  n : x.length ≤ 1000
  r : ∀ r ∈ x, r.length = x.length
theorem SqT.row {x : List (List Bool)} (h : SqT x) {p : Int} (h0 : 0 ≤ p) (h1 : p < (x.length : Int)) : (gt x p).length = x.length := h.r _ (gt_mem h0 h1)
theorem cnt_set {l : List Bool} {i : Int} (h0 : 0 ≤ i) (h : i < (l.length : Int)) (hf : gt l i = false) : (l.set i.toNat true).count false + 1 = l.count false := by
  rw [gt_eq (by omega)] at hf
  rw [List.count_set (by omega), hf]
  have : 0 < l.count false := List.count_pos_iff.2 (by rw [← hf]; exact List.getElem_mem _)
  simp
  omega
theorem drop_hd {ws : List Int} {o : Nat} (h : o < ws.length) : ws.drop o = gt ws (o : Int) :: ws.drop (o + 1) := by
  rw [List.drop_eq_getElem_cons h, gt_nat h]
structure BfJ (x : List (List Bool)) (p : Int) (out : List Bool) (ws : List Int) (o k : Nat) : Prop where
  n : out.length = x.length
  s : o + k = ws.length
  q : ∀ q ∈ ws.drop o, (0 ≤ q ∧ q < (x.length : Int)) ∧ gt out q = true
  z : (0 ≤ p ∧ p < (x.length : Int)) ∧ gt out p = true
  r : ∀ q : Int, 0 ≤ q → q < (x.length : Int) → gt out q = true → Rch x p q
  c : ∀ q : Int, 0 ≤ q → q < (x.length : Int) → gt out q = true → q ∈ ws.drop o ∨ ∀ g : Int, 0 ≤ g → g < (x.length : Int) → gt (gt x q) g = true → gt out g = true
  b : ws.length + out.count false ≤ x.length
theorem BfJ.full {x : List (List Bool)} {p : Int} {out : List Bool} {ws : List Int} {o : Nat} (h : BfJ x p out ws o 0) : out = upS x p := by
  have hd : ws.drop o = [] := List.drop_eq_nil_of_le (by have := h.s; omega)
  have cl : ∀ q : Int, Rch x p q → (0 ≤ q ∧ q < (x.length : Int)) ∧ gt out q = true := fun q hq => by
    induction hq with
    | refl => exact h.z
    | step hq g0 g1 hg ih =>
      refine ⟨⟨g0, g1⟩, ?_⟩
      rcases h.c _ ih.1.1 ih.1.2 ih.2 with hh | hh
      · rw [hd] at hh; cases hh
      · exact hh _ g0 g1 hg
  refine ext_gt (by rw [upS_len, h.n]) fun k h1 h2 => ?_
  have hn := h.n
  rw [Bool.eq_iff_iff, upS_iff h1 (by omega)]
  exact ⟨h.r k (by omega) (by omega), fun hh => (cl _ hh).2⟩
theorem BfJ.init {x : List (List Bool)} {p : Int} (p0 : 0 ≤ p) (p1 : p < (x.length : Int)) : BfJ x p ((List.replicate x.length false).set p.toNat true) [p] 0 1 := by
  have hg : ∀ q : Int, 0 ≤ q → q < (x.length : Int) → (gt ((List.replicate x.length false).set p.toNat true) q = true ↔ q = p) := fun q q0 q1 => by
    rw [gt_sq p0 q0 (by simp; omega)]
    by_cases e : q = p
    · simp [e]
    · rw [if_neg e, gt_eq (by simp; omega)]; simp [e]
  refine ⟨by simp, rfl, fun q hq => ?_, ⟨⟨p0, p1⟩, (hg p p0 p1).2 rfl⟩, fun q q0 q1 hq => ?_, fun q q0 q1 hq => .inl ?_, ?_⟩
  · simp at hq; subst hq; exact ⟨⟨p0, p1⟩, (hg q p0 p1).2 rfl⟩
  · rw [(hg q q0 q1).1 hq]; exact .refl
  · rw [(hg q q0 q1).1 hq]; simp
  · have := @cnt_set (List.replicate x.length false) p p0 (by simp; omega) (by rw [gt_eq (by simp; omega)]; simp)
    simp at this
    simp
    omega
theorem BfJ.push {x : List (List Bool)} {p cur g : Int} {out : List Bool} {ws ws' : List Int} {o o' k : Nat} (h : BfJ x p out ws o k) (hc : cur ∈ ws.drop o) (g0 : 0 ≤ g) (g1 : g < (x.length : Int)) (hg : gt (gt x cur) g = true) (hn : gt out g = false) (hq : QueA ws [g] ws' o k o') : BfJ x p (out.set g.toNat true) ws' o' (k + 1) ∧ ws'.drop o' = ws.drop o ++ [g] := by
  obtain ⟨e1, e2, e3⟩ := hq
  have hnn := h.n
  have hgt : ∀ q : Int, 0 ≤ q → q < (x.length : Int) → (gt (out.set g.toNat true) q = true ↔ q = g ∨ gt out q = true) := fun q q0 q1 => by
    rw [gt_sq g0 q0 (by rw [h.n]; omega)]
    by_cases e : q = g
    · simp [e]
    · rw [if_neg e]; simp [e]
  have hcn := cnt_set g0 (by rw [h.n]; exact g1) hn
  simp only [List.length_singleton] at e2 e3
  have hcur := h.q cur hc
  refine ⟨⟨by simp [h.n], by omega, fun q hq => ?_, ?_, fun q q0 q1 hq => ?_, fun q q0 q1 hq => ?_, ?_⟩, e1⟩
  · rw [e1] at hq
    rcases List.mem_append.1 hq with hq | hq
    · have := h.q q hq
      exact ⟨this.1, (hgt q this.1.1 this.1.2).2 (.inr this.2)⟩
    · simp at hq; subst hq
      exact ⟨⟨g0, g1⟩, (hgt q g0 g1).2 (.inl rfl)⟩
  · exact ⟨h.z.1, (hgt p h.z.1.1 h.z.1.2).2 (.inr h.z.2)⟩
  · rcases (hgt q q0 q1).1 hq with hq | hq
    · subst hq; exact .step (h.r cur hcur.1.1 hcur.1.2 hcur.2) g0 g1 hg
    · exact h.r q q0 q1 hq
  · rw [e1]
    rcases (hgt q q0 q1).1 hq with hq | hq
    · subst hq; left; simp
    · rcases h.c q q0 q1 hq with hh | hh
      · left; exact List.mem_append_left _ hh
      · right; intro a a0 a1 ha; exact (hgt a a0 a1).2 (.inr (hh a a0 a1 ha))
  · have := h.b; omega
theorem BfJ.pop {x : List (List Bool)} {p cur : Int} {out : List Bool} {ws : List Int} {o k : Nat} (h : BfJ x p out ws o k) (hk : 1 ≤ k) (hc : gt ws (o : Int) = cur) (hs : ∀ g : Int, 0 ≤ g → g < (x.length : Int) → gt (gt x cur) g = true → gt out g = true) : BfJ x p out ws (o + 1) (k - 1) := by
  have hd := drop_hd (ws := ws) (o := o) (by have := h.s; omega)
  rw [hc] at hd
  refine ⟨h.n, by have := h.s; omega, fun q hq => h.q q (by rw [hd]; exact List.mem_cons_of_mem _ hq), h.z, h.r, fun q q0 q1 hq => ?_, h.b⟩
  rcases h.c q q0 q1 hq with hh | hh
  · rw [hd] at hh
    rcases List.mem_cons.1 hh with hh | hh
    · subst hh; exact .inr hs
    · exact .inl hh
  · exact .inr hh
theorem upw_ic (x : List (List Bool)) (p : Int) : ICp (SqT x ∧ 0 ≤ p ∧ p < (x.length : Int)) 205 [tbv x, iv p] (fun v => v = .one (.d (.list ((upS x p).map brow)))) := fun hx => (upw_V x p _).2 (by
  obtain ⟨hx, p0, p1⟩ := hx
  have hxn := hx.n
  (delta upw_V; dsimp only [mkV])
  (repeat' (first | with_reducible refine brn_nd (fun h => ?_) (fun h => ?_) | with_reducible refine brn_d (fun h => ?_) (fun h => ?_) | with_reducible refine brn_nn (fun h => ?_) (fun h => ?_) | with_reducible refine brn_nb (fun h => ?_) (fun h => ?_) | with_reducible refine Brn.mk (fun h => ?_) (fun h => ?_) | with_reducible refine Chk.mk ?_ ?_ | with_reducible refine Bth.mk ?_ ?_ | with_reducible refine Fct.mk (fun hf => ?_)))
  · omega
  · simp; omega
  refine lp4 (fun out ws o k => BfJ x p out ws o k) (fun out ws o k => k + out.count false) (by have := BfJ.init p0 p1; simpa using this) ?_
  intro I μ nx out ws o k hj
  have h1 := hj.s
  have h2 := hj.b
  have hm0 : 0 < k → (0 ≤ gt ws (o : Int) ∧ gt ws (o : Int) < (x.length : Int)) ∧ gt out (gt ws (o : Int)) = true := fun hk => hj.q (gt ws (o : Int)) (by rw [drop_hd (show o < ws.length by omega)]; exact List.mem_cons_self ..)
  rw [show (o : Int) + 0 = (o : Int) by omega]
  (repeat' (first | with_reducible refine brn_nd (fun h => ?_) (fun h => ?_) | with_reducible refine brn_d (fun h => ?_) (fun h => ?_) | with_reducible refine brn_nn (fun h => ?_) (fun h => ?_) | with_reducible refine brn_nb (fun h => ?_) (fun h => ?_) | with_reducible refine Brn.mk (fun h => ?_) (fun h => ?_) | with_reducible refine Chk.mk ?_ ?_ | with_reducible refine Bth.mk ?_ ?_ | with_reducible refine Fct.mk (fun hf => ?_)))
  · omega
  · omega
  · exact (hm0 (by omega)).1
  · have hm := hm0 (by omega)
    rw [hx.row hm.1.1 hm.1.2]
    refine lp5 (fun out' ws' o' k' z => BfJ x p out' ws' o' k' ∧ 1 ≤ k' ∧ gt ws' (o' : Int) = gt ws (o : Int) ∧ 0 ≤ z ∧ z ≤ (x.length : Int) ∧ k' + out'.count false = k + out.count false ∧ ∀ g : Int, 0 ≤ g → g < z → gt (gt x (gt ws (o : Int))) g = true → gt out' g = true) (fun _ _ _ _ z => ((x.length : Int) - z).toNat) ⟨hj, by omega, rfl, by omega, by omega, rfl, fun g g0 g1 => by omega⟩ ?_
    rintro I1 μ1 nx1 out' ws' o' k' z ⟨hj', hk', hc', z0, z1, hcn, hs⟩
    have h1' := hj'.s
    have h2' := hj'.b
    have hn' := hj'.n
    have hcm : gt ws (o : Int) ∈ ws'.drop o' := by rw [drop_hd (show o' < ws'.length by omega), hc']; exact List.mem_cons_self ..
    have stay : gt out' z = true ∨ ¬ gt (gt x (gt ws (o : Int))) z = true → z < (x.length : Int) → ∀ g : Int, 0 ≤ g → g < z + 1 → gt (gt x (gt ws (o : Int))) g = true → gt out' g = true := fun hh hz g g0 g1 hg => by
      by_cases e : g = z
      · subst e
        rcases hh with hh | hh
        · exact hh
        · exact absurd hg hh
      · exact hs g g0 (by omega) hg
    (repeat' (first | with_reducible refine brn_nd (fun h => ?_) (fun h => ?_) | with_reducible refine brn_d (fun h => ?_) (fun h => ?_) | with_reducible refine brn_nn (fun h => ?_) (fun h => ?_) | with_reducible refine brn_nb (fun h => ?_) (fun h => ?_) | with_reducible refine Brn.mk (fun h => ?_) (fun h => ?_) | with_reducible refine Chk.mk ?_ ?_ | with_reducible refine Bth.mk ?_ ?_ | with_reducible refine Fct.mk (fun hf => ?_)))
    all_goals (try omega)
    · simp; omega
    · intro ws2 o2 hq
      have hzf : gt out' z = false := by assumption
      obtain ⟨hp, hpd⟩ := hj'.push hcm z0 (by omega) (by assumption) hzf hq
      have hcs := cnt_set z0 (by omega) hzf
      (repeat' (first | with_reducible refine brn_nd (fun h => ?_) (fun h => ?_) | with_reducible refine brn_d (fun h => ?_) (fun h => ?_) | with_reducible refine brn_nn (fun h => ?_) (fun h => ?_) | with_reducible refine brn_nb (fun h => ?_) (fun h => ?_) | with_reducible refine Brn.mk (fun h => ?_) (fun h => ?_) | with_reducible refine Chk.mk ?_ ?_ | with_reducible refine Bth.mk ?_ ?_ | with_reducible refine Fct.mk (fun hf => ?_)))
      · omega
      · refine nx1 _ _ _ _ _ _ _ _ _ _ ⟨hj', hk', hc', z0, z1, hcn, hs⟩ ⟨hp, by omega, ?_, by omega, by omega, by simp only [List.length_singleton]; omega, fun g g0 g1 hg => ?_⟩ (by omega)
        · have hps := hp.s
          have ho2 : o2 < ws2.length := by omega
          have e1 := drop_hd (ws := ws2) ho2
          have e2 := drop_hd (ws := ws') (o := o') (by omega)
          rw [hpd, e2] at e1
          have := (List.cons.inj e1).1
          rw [← this, hc']
        · rw [gt_sq z0 g0 (by omega)]
          by_cases e : g = z
          · rw [if_pos e]
          · rw [if_neg e]; exact hs g g0 (by omega) hg
    · have hzt : gt out' z = true := by assumption
      exact nx1 _ _ _ _ _ _ _ _ _ _ ⟨hj', hk', hc', z0, z1, hcn, hs⟩ ⟨hj', hk', hc', by omega, by omega, hcn, stay (.inl hzt) (by omega)⟩ (by omega)
    · exact nx1 _ _ _ _ _ _ _ _ _ _ ⟨hj', hk', hc', z0, z1, hcn, hs⟩ ⟨hj', hk', hc', by omega, by omega, hcn, stay (.inr (by simpa using (by assumption : gt (gt x (gt ws (o : Int))) z = false))) (by omega)⟩ (by omega)
    · refine nx _ _ _ _ _ _ _ _ hj (hj'.pop hk' hc' fun g g0 g1 hg => hs g g0 (by omega) hg) ?_
      simp only [show Int.toNat 1 = 1 from rfl]
      omega
  · have hk0 : k = 0 := by omega
    subst hk0
    rw [hj.full])
end Go.Proofs.Ytcbppkfnfbdkhaa
