/- The reference's Parse. -/
import Derived.Test.YtbnmcdnkeipdhaaDj
import Derived.Test.YtbnmcdnkeipdhaaLb3
set_option linter.all false
set_option maxRecDepth 20000
set_option maxHeartbeats 8000000
namespace Go.Proofs.Ytbnmcdnkeipdhaa
open Go.RowKit Go.Shelf
noncomputable def rParse_V (b : List Int) (Q : SV → Prop) : Σ' P : Prop, (P → ICt 27 [.one (.d (.list (List.map irow_u8 b)))] Q) := by
  apply mkV; intro hP
  refine ic_wk (K 138) Try.func27 rfl rfl rfl rfl (fun w0 => ?_)
  apply (v_klist (x := 0)); exact rfl; exact hP; clear hP; intro hP
  repeat' (first
    | ((apply (v_fza 115 106)); exact rfl; exact rfl; exact rfl; exact rfl; (· repeat' (first | exact True.intro | refine And.intro ?_ ?_ | (show (_ : Nat) = _; (first | exact rfl | exact (List.length_map _).symm | omega | (simp only [List.length_set, List.length_map, List.length_append] <;> omega) | (simp; done))))))
    | ((apply (v_fzl (o := ⟨some 125, _, _, _, _, _⟩) 204)); exact rfl; exact rfl; exact rfl; (· repeat' (first | exact True.intro | refine And.intro ?_ ?_ | (show (_ : Nat) = _; (first | exact rfl | exact (List.length_map _).symm | omega | (simp only [List.length_set, List.length_map, List.length_append] <;> omega) | (simp; done))))))
    | ((fail_if_success (have hTest : Hld False := hP)); (have hq := chk_c hP); (replace hP := chk_p hP))
    | ((with_reducible apply j_lst); exact rfl)
    | (with_reducible (first | apply c_seq | apply c_rg | apply j_nil | apply q_n | apply g_tt | apply g_ff | apply c_ct | apply c_cf | apply c_bl | apply c_ex | apply c_ret | apply c_sk | apply q_r | apply q_e | apply b_r | apply b_e | apply b_n | apply n_n | apply n_r | apply n_e))
    | ((with_reducible apply v_slh); exact rfl; exact rfl; exact rfl; exact rfl; exact rfl; exact (fun _ => rfl); (first | with_reducible assumption | (apply chk_c; exact hP; (first | (guard_target = Prop; rotate_left 1) | skip))))
    | ((with_reducible apply v_sh); exact rfl; exact rfl; exact rfl; exact rfl; exact (fun _ => rfl); (first | with_reducible assumption | (apply chk_c; exact hP; (first | (guard_target = Prop; rotate_left 1) | skip))))
    | ((with_reducible apply v_sl); exact rfl; exact rfl; exact rfl; exact rfl; exact (fun _ => rfl); (first | with_reducible assumption | (apply chk_c; exact hP; (first | (guard_target = Prop; rotate_left 1) | skip))))
    | ((with_reducible apply (v_conv (t := 5) (t' := 3) .i64)); exact rfl; kernel_rfl; exact rfl; (with_reducible apply wr_i64; (first | with_reducible assumption | (apply chk_c; exact hP; (first | (guard_target = Prop; rotate_left 1) | skip)))))
    | ((with_reducible apply (v_bstr (t := 23) (t' := 9))); exact rfl; kernel_rfl; (first | exact .d _ | (refine .sl rfl ?_; (first | exact rfl | exact (List.length_map _).symm | omega | (simp only [List.length_set, List.length_map, List.length_append] <;> omega) | (simp; done))) | (refine .slp rfl ?_; (first | omega | (first | with_reducible assumption | (apply chk_c; exact hP; (first | (guard_target = Prop; rotate_left 1) | skip)))))))
    | ((with_reducible apply (v_bstr0 (t := 23) (t' := 9))); exact rfl; kernel_rfl; exact rfl)
    | ((with_reducible apply v_lenstr); exact rfl; exact rfl; kernel_rfl)
    | ((with_reducible apply v_shl); exact rfl; exact rfl; exact rfl; (first | decide | (first | with_reducible assumption | (apply chk_c; exact hP; (first | (guard_target = Prop; rotate_left 1) | skip)))); exact rfl)
    | ((with_reducible apply v_slsl); exact rfl; exact rfl; exact rfl; exact rfl; (first | with_reducible assumption | (apply chk_c; exact hP; (first | (guard_target = Prop; rotate_left 1) | skip))))
    | ((with_reducible apply v_slsh); exact rfl; exact rfl; exact rfl; exact rfl; (first | with_reducible assumption | (apply chk_c; exact hP; (first | (guard_target = Prop; rotate_left 1) | skip))))
    | ((with_reducible apply (v_bs0 (irow_u8))); exact rfl; exact rfl; exact rfl; exact rfl)
    | ((with_reducible apply c_l1); exact rfl; exact rfl)
    | ((with_reducible apply c_l2); exact rfl; exact rfl)
    | ((with_reducible apply c_l3); exact rfl)
    | ((with_reducible apply j_v); exact rfl; exact rfl)
    | ((with_reducible apply (v_bsf (d := 117) (Opn.row))); exact rfl; exact rfl; (focus (repeat' (first | exact row_nil | apply row_cons | exact Opn.row_mk _ _ _ | exact Opn.row_mk _ _ []))); exact rfl; exact rfl)
    | ((with_reducible apply (v_bs (Opn.row))); exact rfl; exact rfl; (focus (repeat' (first | exact row_nil | apply row_cons | exact Opn.row_mk _ _ _ | exact Opn.row_mk _ _ []))); exact rfl)
    | ((with_reducible apply j_h); exact rfl; exact rfl)
    | ((with_reducible apply j_g); exact rfl; exact rfl; (first | with_reducible assumption | with_reducible exact Eq.refl true | with_reducible exact Eq.refl false | (with_reducible refine not_t ?_; with_reducible assumption) | (with_reducible refine not_f ?_; with_reducible assumption) | (refine dec_t ?_; decide) | (refine dec_f ?_; decide)))
    | ((with_reducible apply g_tf); exact rfl)
    | ((with_reducible apply g_ft); exact rfl)
    | ((with_reducible apply j_gz); exact rfl; exact rfl; exact rfl)
    | ((with_reducible apply v_lenm); exact rfl; exact rfl; exact rfl; (exact hP); clear hP; intro hP)
    | ((with_reducible apply v_lens); exact rfl; exact rfl; exact rfl; (exact hP); clear hP; intro hP)
    | ((with_reducible apply j_len); exact rfl; exact rfl; exact rfl)
    | ((with_reducible apply j_len0); exact rfl; exact rfl; exact rfl)
    | ((with_reducible apply j_pk); exact rfl; exact rfl; (first | with_reducible assumption | with_reducible exact Eq.refl true | with_reducible exact Eq.refl false | (with_reducible refine not_t ?_; with_reducible assumption) | (with_reducible refine not_f ?_; with_reducible assumption) | (refine dec_t ?_; decide) | (refine dec_f ?_; decide)); exact rfl)
    | ((with_reducible apply j_ld_el1); exact rfl; exact rfl; exact rfl; exact rfl; (first | with_reducible assumption | exact gt_row (by omega) (by omega) | exact rfl); exact rfl)
    | ((with_reducible apply j_add); exact rfl; exact rfl; exact rfl; (first | (with_reducible apply wr_i64; (first | with_reducible assumption | (apply chk_c; exact hP; (first | (guard_target = Prop; rotate_left 1) | skip)))) | exact rfl))
    | ((with_reducible apply v_ia); exact rfl; exact rfl; exact rfl; exact rfl; (case inst => exact inferInstance); exact rfl; exact rfl; (first | with_reducible assumption | (apply chk_c; exact hP; (first | (guard_target = Prop; rotate_left 1) | skip))))
    | ((with_reducible apply v_iasl); exact rfl; exact rfl; exact rfl; exact rfl; (first | with_reducible assumption | (apply chk_c; exact hP; (first | (guard_target = Prop; rotate_left 1) | skip))))
    | ((with_reducible apply j_ia_ar); exact rfl; exact rfl; exact rfl; exact rfl; ((repeat ((fail_if_success (have hTest : Hld False := hP)); (have hq := chk_c hP); (replace hP := chk_p hP))); first | with_reducible assumption | (apply chk_c; exact hP; (first | (guard_target = Prop; rotate_left 1) | skip))); ((repeat ((fail_if_success (have hTest : Hld False := hP)); (have hq := chk_c hP); (replace hP := chk_p hP))); first | with_reducible assumption | (apply chk_c; exact hP; (first | (guard_target = Prop; rotate_left 1) | skip))); (first | with_reducible exact Int.toNat_natCast _ | exact rfl))
    | ((with_reducible apply (v_ap (irow_u8))); exact rfl; exact rfl; exact rfl; exact rfl; exact rfl; exact rfl; exact rfl; (first | exact rfl | exact row_one (irow_u8_mk _) | exact row_nil); exact rfl; exact rfl; exact rfl; (first | (apply src_sl; exact rfl; exact rfl; exact rfl) | (apply src_sl; exact rfl; exact rfl; rw [List.length_map]; omega) | (apply src_nil; exact rfl) | (apply src_d; exact rfl; (intro row hrow; obtain ⟨q, _, rfl⟩ := List.mem_map.1 hrow; rfl))); (first | exact rfl | exact row_one (irow_u8_mk _) | exact row_nil); exact rfl; exact rfl; exact rfl; (first | with_reducible assumption | (apply chk_c; exact hP; (first | (guard_target = Prop; rotate_left 1) | skip))))
    | ((with_reducible apply (v_ap (Opn.row))); exact rfl; exact rfl; exact rfl; exact rfl; exact rfl; exact rfl; exact rfl; (first | exact rfl | exact row_one (Opn.row_mk _ _ _) | exact row_nil); exact rfl; exact rfl; exact rfl; (first | (apply src_sl; exact rfl; exact rfl; exact rfl) | (apply src_sl; exact rfl; exact rfl; rw [List.length_map]; omega) | (apply src_nil; exact rfl) | (apply src_d; exact rfl; (intro row hrow; obtain ⟨q, _, rfl⟩ := List.mem_map.1 hrow; rfl))); (first | exact rfl | exact row_one (Opn.row_mk _ _ _) | exact row_nil); exact rfl; exact rfl; exact rfl; (first | with_reducible assumption | (apply chk_c; exact hP; (first | (guard_target = Prop; rotate_left 1) | skip))))
    | ((with_reducible apply (v_ap0 (irow_u8))); exact rfl; exact rfl; exact rfl; exact rfl; exact rfl; exact rfl; (first | (apply src_sl; exact rfl; exact rfl; exact rfl) | (apply src_sl; exact rfl; exact rfl; rw [List.length_map]; omega) | (apply src_nil; exact rfl) | (apply src_d; exact rfl; (intro row hrow; obtain ⟨q, _, rfl⟩ := List.mem_map.1 hrow; rfl))); (first | exact rfl | exact row_one (irow_u8_mk _) | exact row_nil); exact rfl; exact rfl; exact rfl; (first | with_reducible assumption | (apply chk_c; exact hP; (first | (guard_target = Prop; rotate_left 1) | skip))))
    | ((with_reducible apply (v_ap0 (Opn.row))); exact rfl; exact rfl; exact rfl; exact rfl; exact rfl; exact rfl; (first | (apply src_sl; exact rfl; exact rfl; exact rfl) | (apply src_sl; exact rfl; exact rfl; rw [List.length_map]; omega) | (apply src_nil; exact rfl) | (apply src_d; exact rfl; (intro row hrow; obtain ⟨q, _, rfl⟩ := List.mem_map.1 hrow; rfl))); (first | exact rfl | exact row_one (Opn.row_mk _ _ _) | exact row_nil); exact rfl; exact rfl; exact rfl; (first | with_reducible assumption | (apply chk_c; exact hP; (first | (guard_target = Prop; rotate_left 1) | skip))))
    | ((with_reducible apply c_c); exact rfl; (first | with_reducible assumption | with_reducible exact Eq.refl true | with_reducible exact Eq.refl false | (with_reducible refine not_t ?_; with_reducible assumption) | (with_reducible refine not_f ?_; with_reducible assumption) | (refine dec_t ?_; decide) | (refine dec_f ?_; decide)))
    | ((with_reducible apply b_o); exact rfl)
    | ((with_reducible apply v_strne); exact rfl; kernel_rfl; exact rfl; exact rfl)
    | ((with_reducible apply r_g); exact rfl; (· repeat' (first | exact True.intro | refine And.intro ?_ ?_ | (show (_ : Nat) = _; (first | exact rfl | exact (List.length_map _).symm | omega | (simp only [List.length_set, List.length_map, List.length_append] <;> omega) | (simp; done))))); (exact hP.out))
    | ((with_reducible apply j_call (pu := true)); exact rfl; apply (rFormat_ic _); rotate_left 1; (focus ((repeat' (first | exact .nil _ | refine PsL.cons ?_ ?_ | refine PsSL.cons ?_ ?_ | exact .one (.d _ _) | exact .one psc_nilm | exact psc_nilm | exact .one (.nil _) | exact .one (.nn _) | exact .one (.tape _) | exact .one (.fn _ _) | exact .agg (.same _ _) | refine .agg ?_ | exact .d _ _ | exact .one (.sl rfl rfl) | exact .one (.sl rfl (List.length_map _).symm) | exact .sl rfl rfl | exact .sl rfl (List.length_map _).symm | exact .same _ _)) <;> fail)); exact .inl rfl)
    | ((with_reducible refine v_loopat (c := (.seq (.seq (.region 5 _ _) _) _)) ?_); (apply (v_loop2 [] _ [0] [] (fun x1 x2 => [(4, .one (.sl 204 (List.length x1) 3)), (5, .one (.d (.int .i64 x2)))]) (fun x1 x2 => [(204, .arr 72 3 (List.map Opn.row x1))]) [204])); exact rfl; exact rfl; (focus (refine ⟨?_, ?_⟩; rotate_left 1; (focus (repeat' (first | exact .nil | exact .nil _ | refine .cons ?_ ?_ | exact .u _ | exact SVle_pl rfl | refine .one ?_ | refine .agg ?_ | exact .d rfl | exact .ref rfl rfl | exact .sl rfl (by first | rfl | exact List.length_set.symm | exact (splT_len (by simp only [List.length_take, List.length_drop]; omega)).symm | omega | (rw [List.length_append, List.length_map]; show _ + 1 = _; omega) | simp) | exact .fn _ | exact .tape | exact .nils rfl | exact .nild | exact .nildm | exact .nil | exact .rp (by simp) | exact .clo (by simp) | exact .el rfl rfl rfl | exact .d (by first | rfl | (congr 1; omega) | (congr 1; assumption) | simp) | exact .virt rfl | exact .gone _ | refine .blk rfl ?_ | exact .arr rfl (by first | rfl | assumption | simp)))); (focus (repeat' (first | exact .nil | exact .nil _ | refine .cons ?_ ?_ | exact .u _ | exact SVle_pl rfl | refine .one ?_ | refine .agg ?_ | exact .d rfl | exact .ref rfl rfl | exact .sl rfl (by first | rfl | exact List.length_set.symm | exact (splT_len (by simp only [List.length_take, List.length_drop]; omega)).symm | omega | (rw [List.length_append, List.length_map]; show _ + 1 = _; omega) | simp) | exact .fn _ | exact .tape | exact .nils rfl | exact .nild | exact .nildm | exact .nil | exact .rp (by simp) | exact .clo (by simp) | exact .el rfl rfl rfl | exact .d (by first | rfl | (congr 1; omega) | (congr 1; assumption) | simp) | exact .virt rfl | exact .gone _ | refine .blk rfl ?_ | exact .arr rfl (by first | rfl | assumption | simp)))))); (exact hP); clear hP; intro I μ x1 x2 hP)
    | ((with_reducible apply (v_nxt2 (a1 := _) (a2 := _))); rotate_left 1; (focus (repeat' (first | exact .nil | exact .nil _ | refine .cons ?_ ?_ | exact .u _ | exact SVle_pl rfl | refine .one ?_ | refine .agg ?_ | exact .d rfl | exact .ref rfl rfl | exact .sl rfl (by first | rfl | exact List.length_set.symm | exact (splT_len (by simp only [List.length_take, List.length_drop]; omega)).symm | omega | (rw [List.length_append, List.length_map]; show _ + 1 = _; omega) | simp) | exact .fn _ | exact .tape | exact .nils rfl | exact .nild | exact .nildm | exact .nil | exact .rp (by simp) | exact .clo (by simp) | exact .el rfl rfl rfl | exact .d (by first | rfl | (congr 1; omega) | (congr 1; assumption) | simp) | exact .virt rfl | exact .gone _ | refine .blk rfl ?_ | exact .arr rfl (by first | rfl | assumption | simp)))); rotate_right 1; (focus (repeat' (first | exact .nil | exact .nil _ | refine .cons ?_ ?_ | exact .u _ | exact SVle_pl rfl | refine .one ?_ | refine .agg ?_ | exact .d rfl | exact .ref rfl rfl | exact .sl rfl (by first | rfl | exact List.length_set.symm | exact (splT_len (by simp only [List.length_take, List.length_drop]; omega)).symm | omega | (rw [List.length_append, List.length_map]; show _ + 1 = _; omega) | simp) | exact .fn _ | exact .tape | exact .nils rfl | exact .nild | exact .nildm | exact .nil | exact .rp (by simp) | exact .clo (by simp) | exact .el rfl rfl rfl | exact .d (by first | rfl | (congr 1; omega) | (congr 1; assumption) | simp) | exact .virt rfl | exact .gone _ | refine .blk rfl ?_ | exact .arr rfl (by first | rfl | assumption | simp)))); (exact hP))
    | ((with_reducible refine v_rgat (i := 8) ?_); (refine n_start (by kernel_rfl) ?_; (refine n_quiet none #[true, true, true, true, true, true, true, true, true, true, true, true, true, true, true, true, true, true, true, true, true, true, true] [0, 1, 2, 3, 4, 5, 6, 7, 8, 9, 10, 11, 12, 13, 14, 15, 16, 17, 18, 19, 20, 21, 22] 0 rfl ?_; (repeat' (first | ((fail_if_success (have hTest : Hld False := hP)); (have hq := chk_c hP); (replace hP := chk_p hP)) | ((with_reducible apply (d_e (some []))); exact rfl; exact rfl; kernel_rfl; kernel_rfl; exact rfl; exact rfl; (first | ((with_reducible apply e_v); exact rfl) | ((with_reducible apply e_ld_el1); exact rfl; exact rfl; exact rfl; (first | with_reducible assumption | exact gt_row (by omega) (by omega) | exact rfl); exact rfl) | ((with_reducible apply e_ld_eln); exact rfl; exact rfl; exact rfl; (first | with_reducible assumption | exact gt_row (by omega) (by omega) | exact rfl); exact Nat.le_of_ble_eq_true rfl) | ((with_reducible apply e_add); exact rfl; exact rfl; (first | (with_reducible apply wr_i64; (first | with_reducible assumption | (apply chk_c; exact hP; (first | (guard_target = Prop; rotate_left 1) | skip)))) | exact rfl)) | ((with_reducible apply f_ia); exact rfl; exact rfl; exact rfl; (case inst => exact inferInstance); exact rfl; exact rfl; (first | with_reducible assumption | (apply chk_c; exact hP; (first | (guard_target = Prop; rotate_left 1) | skip)))) | ((with_reducible apply f_iasl); exact rfl; exact rfl; exact rfl; (first | with_reducible assumption | (apply chk_c; exact hP; (first | (guard_target = Prop; rotate_left 1) | skip)))) | ((with_reducible apply e_ia_ar); exact rfl; exact rfl; exact rfl; ((repeat ((fail_if_success (have hTest : Hld False := hP)); (have hq := chk_c hP); (replace hP := chk_p hP))); first | with_reducible assumption | (apply chk_c; exact hP; (first | (guard_target = Prop; rotate_left 1) | skip))); ((repeat ((fail_if_success (have hTest : Hld False := hP)); (have hq := chk_c hP); (replace hP := chk_p hP))); first | with_reducible assumption | (apply chk_c; exact hP; (first | (guard_target = Prop; rotate_left 1) | skip))); (first | with_reducible exact Int.toNat_natCast _ | exact rfl)) | ((with_reducible apply (f_conv (t := 5) (t' := 3) .i64)); kernel_rfl; exact rfl; (with_reducible apply wr_i64; (first | with_reducible assumption | (apply chk_c; exact hP; (first | (guard_target = Prop; rotate_left 1) | skip))))) | ((with_reducible apply (f_bstr (t := 23) (t' := 9))); kernel_rfl; (first | exact .d _ | (refine .sl rfl ?_; (first | exact rfl | exact (List.length_map _).symm | omega | (simp only [List.length_set, List.length_map, List.length_append] <;> omega) | (simp; done))) | (refine .slp rfl ?_; (first | omega | (first | with_reducible assumption | (apply chk_c; exact hP; (first | (guard_target = Prop; rotate_left 1) | skip))))))) | ((with_reducible apply (f_bstr0 (t := 23) (t' := 9))); kernel_rfl; exact rfl) | ((with_reducible apply f_shl); exact rfl; exact rfl; (first | decide | (first | with_reducible assumption | (apply chk_c; exact hP; (first | (guard_target = Prop; rotate_left 1) | skip)))); exact rfl))) | ((with_reducible apply d_leaf); exact (by decide +kernel)) | ((fail_if_success (have hTest : Hld False := hP)); (replace hP := bth_b hP)))); all_goals (first | ((with_reducible apply n_doneZ); exact rfl; exact (by decide +kernel)) | skip))))
    | ((with_reducible refine v_rgat (i := 10) ?_); (refine n_start (by kernel_rfl) ?_; (refine n_quiet none #[true, true, true, true, true, true, true, true, true, true, true, true, true, true, true, true, true, true, true, true, true, true, true, true, true, true, false, false] [0, 1, 2, 3, 4, 5, 6, 7, 8, 9, 10, 11, 12, 13, 14, 15, 16, 17, 18, 19, 20, 21, 22, 23, 24, 25] 2 rfl ?_; (repeat' (first | ((fail_if_success (have hTest : Hld False := hP)); (have hq := chk_c hP); (replace hP := chk_p hP)) | ((with_reducible apply (d_e (some []))); exact rfl; exact rfl; kernel_rfl; kernel_rfl; exact rfl; exact rfl; (first | ((with_reducible apply e_v); exact rfl) | ((with_reducible apply e_ld_el1); exact rfl; exact rfl; exact rfl; (first | with_reducible assumption | exact gt_row (by omega) (by omega) | exact rfl); exact rfl) | ((with_reducible apply e_ld_eln); exact rfl; exact rfl; exact rfl; (first | with_reducible assumption | exact gt_row (by omega) (by omega) | exact rfl); exact Nat.le_of_ble_eq_true rfl) | ((with_reducible apply e_add); exact rfl; exact rfl; (first | (with_reducible apply wr_i64; (first | with_reducible assumption | (apply chk_c; exact hP; (first | (guard_target = Prop; rotate_left 1) | skip)))) | exact rfl)) | ((with_reducible apply f_ia); exact rfl; exact rfl; exact rfl; (case inst => exact inferInstance); exact rfl; exact rfl; (first | with_reducible assumption | (apply chk_c; exact hP; (first | (guard_target = Prop; rotate_left 1) | skip)))) | ((with_reducible apply f_iasl); exact rfl; exact rfl; exact rfl; (first | with_reducible assumption | (apply chk_c; exact hP; (first | (guard_target = Prop; rotate_left 1) | skip)))) | ((with_reducible apply e_ia_ar); exact rfl; exact rfl; exact rfl; ((repeat ((fail_if_success (have hTest : Hld False := hP)); (have hq := chk_c hP); (replace hP := chk_p hP))); first | with_reducible assumption | (apply chk_c; exact hP; (first | (guard_target = Prop; rotate_left 1) | skip))); ((repeat ((fail_if_success (have hTest : Hld False := hP)); (have hq := chk_c hP); (replace hP := chk_p hP))); first | with_reducible assumption | (apply chk_c; exact hP; (first | (guard_target = Prop; rotate_left 1) | skip))); (first | with_reducible exact Int.toNat_natCast _ | exact rfl)) | ((with_reducible apply (f_conv (t := 5) (t' := 3) .i64)); kernel_rfl; exact rfl; (with_reducible apply wr_i64; (first | with_reducible assumption | (apply chk_c; exact hP; (first | (guard_target = Prop; rotate_left 1) | skip))))) | ((with_reducible apply (f_bstr (t := 23) (t' := 9))); kernel_rfl; (first | exact .d _ | (refine .sl rfl ?_; (first | exact rfl | exact (List.length_map _).symm | omega | (simp only [List.length_set, List.length_map, List.length_append] <;> omega) | (simp; done))) | (refine .slp rfl ?_; (first | omega | (first | with_reducible assumption | (apply chk_c; exact hP; (first | (guard_target = Prop; rotate_left 1) | skip))))))) | ((with_reducible apply (f_bstr0 (t := 23) (t' := 9))); kernel_rfl; exact rfl) | ((with_reducible apply f_shl); exact rfl; exact rfl; (first | decide | (first | with_reducible assumption | (apply chk_c; exact hP; (first | (guard_target = Prop; rotate_left 1) | skip)))); exact rfl))) | ((with_reducible apply (v_dbsf (d := 94) (Opn.row))); exact rfl; exact rfl; exact (by decide +kernel); exact rfl; exact rfl; exact rfl; exact rfl; exact rfl; exact rfl; exact rfl; exact rfl; exact rfl; (focus (repeat' (first | exact row_nil | apply row_cons | exact Opn.row_mk _ _ _ | exact Opn.row_mk _ _ []))); exact rfl) | ((with_reducible apply (v_dbs (Opn.row))); exact rfl; exact rfl; exact (by decide +kernel); exact rfl; exact rfl; exact rfl; exact rfl; exact rfl; exact rfl; exact rfl; exact rfl; exact rfl; (focus (repeat' (first | exact row_nil | apply row_cons | exact Opn.row_mk _ _ _ | exact Opn.row_mk _ _ []))); exact rfl) | ((with_reducible apply d_leaf); exact (by decide +kernel)) | ((fail_if_success (have hTest : Hld False := hP)); (replace hP := bth_b hP)))); all_goals (first | (refine n_one 26 (by decide +kernel) rfl ?_; (repeat' (first | ((apply (v_fza 115 106)); exact rfl; exact rfl; exact rfl; exact rfl; (· repeat' (first | exact True.intro | refine And.intro ?_ ?_ | (show (_ : Nat) = _; (first | exact rfl | exact (List.length_map _).symm | omega | (simp only [List.length_set, List.length_map, List.length_append] <;> omega) | (simp; done)))))) | ((fail_if_success (have hTest : Hld False := hP)); (have hq := chk_c hP); (replace hP := chk_p hP)) | ((with_reducible apply j_lst); exact rfl) | (with_reducible (first | apply c_seq | apply c_rg | apply j_nil | apply q_n | apply c_bl | apply c_ex | apply c_ret | apply c_sk | apply q_r | apply q_e | apply b_r | apply b_e | apply b_n | apply n_n | apply n_r | apply n_e)) | ((with_reducible apply (v_conv (t := 5) (t' := 3) .i64)); exact rfl; kernel_rfl; exact rfl; (with_reducible apply wr_i64; (first | with_reducible assumption | (apply chk_c; exact hP; (first | (guard_target = Prop; rotate_left 1) | skip))))) | ((with_reducible apply (v_bstr (t := 23) (t' := 9))); exact rfl; kernel_rfl; (first | exact .d _ | (refine .sl rfl ?_; (first | exact rfl | exact (List.length_map _).symm | omega | (simp only [List.length_set, List.length_map, List.length_append] <;> omega) | (simp; done))) | (refine .slp rfl ?_; (first | omega | (first | with_reducible assumption | (apply chk_c; exact hP; (first | (guard_target = Prop; rotate_left 1) | skip))))))) | ((with_reducible apply (v_bstr0 (t := 23) (t' := 9))); exact rfl; kernel_rfl; exact rfl) | ((with_reducible apply v_shl); exact rfl; exact rfl; exact rfl; (first | decide | (first | with_reducible assumption | (apply chk_c; exact hP; (first | (guard_target = Prop; rotate_left 1) | skip)))); exact rfl) | ((with_reducible apply (v_bs0 (irow_u8))); exact rfl; exact rfl; exact rfl; exact rfl) | ((with_reducible apply c_l1); exact rfl; exact rfl) | ((with_reducible apply c_l2); exact rfl; exact rfl) | ((with_reducible apply c_l3); exact rfl) | ((with_reducible apply j_v); exact rfl; exact rfl) | ((with_reducible apply (v_bsf (d := 117) (Opn.row))); exact rfl; exact rfl; (focus (repeat' (first | exact row_nil | apply row_cons | exact Opn.row_mk _ _ _ | exact Opn.row_mk _ _ []))); exact rfl; exact rfl) | ((with_reducible apply (v_bs (Opn.row))); exact rfl; exact rfl; (focus (repeat' (first | exact row_nil | apply row_cons | exact Opn.row_mk _ _ _ | exact Opn.row_mk _ _ []))); exact rfl) | ((with_reducible apply j_h); exact rfl; exact rfl) | ((with_reducible apply j_ld_el1); exact rfl; exact rfl; exact rfl; exact rfl; (first | with_reducible assumption | exact gt_row (by omega) (by omega) | exact rfl); exact rfl) | ((with_reducible apply j_add); exact rfl; exact rfl; exact rfl; (first | (with_reducible apply wr_i64; (first | with_reducible assumption | (apply chk_c; exact hP; (first | (guard_target = Prop; rotate_left 1) | skip)))) | exact rfl)) | ((with_reducible apply v_ia); exact rfl; exact rfl; exact rfl; exact rfl; (case inst => exact inferInstance); exact rfl; exact rfl; (first | with_reducible assumption | (apply chk_c; exact hP; (first | (guard_target = Prop; rotate_left 1) | skip)))) | ((with_reducible apply v_iasl); exact rfl; exact rfl; exact rfl; exact rfl; (first | with_reducible assumption | (apply chk_c; exact hP; (first | (guard_target = Prop; rotate_left 1) | skip)))) | ((with_reducible apply j_ia_ar); exact rfl; exact rfl; exact rfl; exact rfl; ((repeat ((fail_if_success (have hTest : Hld False := hP)); (have hq := chk_c hP); (replace hP := chk_p hP))); first | with_reducible assumption | (apply chk_c; exact hP; (first | (guard_target = Prop; rotate_left 1) | skip))); ((repeat ((fail_if_success (have hTest : Hld False := hP)); (have hq := chk_c hP); (replace hP := chk_p hP))); first | with_reducible assumption | (apply chk_c; exact hP; (first | (guard_target = Prop; rotate_left 1) | skip))); (first | with_reducible exact Int.toNat_natCast _ | exact rfl)) | ((with_reducible apply (v_ap (irow_u8))); exact rfl; exact rfl; exact rfl; exact rfl; exact rfl; exact rfl; exact rfl; (first | exact rfl | exact row_one (irow_u8_mk _) | exact row_nil); exact rfl; exact rfl; exact rfl; (first | (apply src_sl; exact rfl; exact rfl; exact rfl) | (apply src_sl; exact rfl; exact rfl; rw [List.length_map]; omega) | (apply src_nil; exact rfl) | (apply src_d; exact rfl; (intro row hrow; obtain ⟨q, _, rfl⟩ := List.mem_map.1 hrow; rfl))); (first | exact rfl | exact row_one (irow_u8_mk _) | exact row_nil); exact rfl; exact rfl; exact rfl; (first | with_reducible assumption | (apply chk_c; exact hP; (first | (guard_target = Prop; rotate_left 1) | skip)))) | ((with_reducible apply (v_ap (Opn.row))); exact rfl; exact rfl; exact rfl; exact rfl; exact rfl; exact rfl; exact rfl; (first | exact rfl | exact row_one (Opn.row_mk _ _ _) | exact row_nil); exact rfl; exact rfl; exact rfl; (first | (apply src_sl; exact rfl; exact rfl; exact rfl) | (apply src_sl; exact rfl; exact rfl; rw [List.length_map]; omega) | (apply src_nil; exact rfl) | (apply src_d; exact rfl; (intro row hrow; obtain ⟨q, _, rfl⟩ := List.mem_map.1 hrow; rfl))); (first | exact rfl | exact row_one (Opn.row_mk _ _ _) | exact row_nil); exact rfl; exact rfl; exact rfl; (first | with_reducible assumption | (apply chk_c; exact hP; (first | (guard_target = Prop; rotate_left 1) | skip)))) | ((with_reducible apply (v_ap0 (irow_u8))); exact rfl; exact rfl; exact rfl; exact rfl; exact rfl; exact rfl; (first | (apply src_sl; exact rfl; exact rfl; exact rfl) | (apply src_sl; exact rfl; exact rfl; rw [List.length_map]; omega) | (apply src_nil; exact rfl) | (apply src_d; exact rfl; (intro row hrow; obtain ⟨q, _, rfl⟩ := List.mem_map.1 hrow; rfl))); (first | exact rfl | exact row_one (irow_u8_mk _) | exact row_nil); exact rfl; exact rfl; exact rfl; (first | with_reducible assumption | (apply chk_c; exact hP; (first | (guard_target = Prop; rotate_left 1) | skip)))) | ((with_reducible apply (v_ap0 (Opn.row))); exact rfl; exact rfl; exact rfl; exact rfl; exact rfl; exact rfl; (first | (apply src_sl; exact rfl; exact rfl; exact rfl) | (apply src_sl; exact rfl; exact rfl; rw [List.length_map]; omega) | (apply src_nil; exact rfl) | (apply src_d; exact rfl; (intro row hrow; obtain ⟨q, _, rfl⟩ := List.mem_map.1 hrow; rfl))); (first | exact rfl | exact row_one (Opn.row_mk _ _ _) | exact row_nil); exact rfl; exact rfl; exact rfl; (first | with_reducible assumption | (apply chk_c; exact hP; (first | (guard_target = Prop; rotate_left 1) | skip)))) | ((with_reducible apply b_o); exact rfl) | ((with_reducible apply v_strne); exact rfl; kernel_rfl; exact rfl; exact rfl) | ((with_reducible apply j_call (pu := true)); exact rfl; apply (rFormat_ic _); rotate_left 1; (focus ((repeat' (first | exact .nil _ | refine PsL.cons ?_ ?_ | refine PsSL.cons ?_ ?_ | exact .one (.d _ _) | exact .one psc_nilm | exact psc_nilm | exact .one (.nil _) | exact .one (.nn _) | exact .one (.tape _) | exact .one (.fn _ _) | exact .agg (.same _ _) | refine .agg ?_ | exact .d _ _ | exact .one (.sl rfl rfl) | exact .one (.sl rfl (List.length_map _).symm) | exact .sl rfl rfl | exact .sl rfl (List.length_map _).symm | exact .same _ _)) <;> fail)); exact .inl rfl))); all_goals (refine n_quiet none #[false, false, false, false, false, false, false, false, false, false, false, false, false, false, false, false, false, false, false, false, false, false, false, false, false, false, false, true] [27] 0 rfl ?_; (repeat' (first | ((fail_if_success (have hTest : Hld False := hP)); (have hq := chk_c hP); (replace hP := chk_p hP)) | ((with_reducible apply (d_e (some []))); exact rfl; exact rfl; kernel_rfl; kernel_rfl; exact rfl; exact rfl; (first | ((with_reducible apply e_v); exact rfl) | ((with_reducible apply e_ld_el1); exact rfl; exact rfl; exact rfl; (first | with_reducible assumption | exact gt_row (by omega) (by omega) | exact rfl); exact rfl) | ((with_reducible apply e_ld_eln); exact rfl; exact rfl; exact rfl; (first | with_reducible assumption | exact gt_row (by omega) (by omega) | exact rfl); exact Nat.le_of_ble_eq_true rfl) | ((with_reducible apply e_add); exact rfl; exact rfl; (first | (with_reducible apply wr_i64; (first | with_reducible assumption | (apply chk_c; exact hP; (first | (guard_target = Prop; rotate_left 1) | skip)))) | exact rfl)) | ((with_reducible apply f_ia); exact rfl; exact rfl; exact rfl; (case inst => exact inferInstance); exact rfl; exact rfl; (first | with_reducible assumption | (apply chk_c; exact hP; (first | (guard_target = Prop; rotate_left 1) | skip)))) | ((with_reducible apply f_iasl); exact rfl; exact rfl; exact rfl; (first | with_reducible assumption | (apply chk_c; exact hP; (first | (guard_target = Prop; rotate_left 1) | skip)))) | ((with_reducible apply e_ia_ar); exact rfl; exact rfl; exact rfl; ((repeat ((fail_if_success (have hTest : Hld False := hP)); (have hq := chk_c hP); (replace hP := chk_p hP))); first | with_reducible assumption | (apply chk_c; exact hP; (first | (guard_target = Prop; rotate_left 1) | skip))); ((repeat ((fail_if_success (have hTest : Hld False := hP)); (have hq := chk_c hP); (replace hP := chk_p hP))); first | with_reducible assumption | (apply chk_c; exact hP; (first | (guard_target = Prop; rotate_left 1) | skip))); (first | with_reducible exact Int.toNat_natCast _ | exact rfl)) | ((with_reducible apply (f_conv (t := 5) (t' := 3) .i64)); kernel_rfl; exact rfl; (with_reducible apply wr_i64; (first | with_reducible assumption | (apply chk_c; exact hP; (first | (guard_target = Prop; rotate_left 1) | skip))))) | ((with_reducible apply (f_bstr (t := 23) (t' := 9))); kernel_rfl; (first | exact .d _ | (refine .sl rfl ?_; (first | exact rfl | exact (List.length_map _).symm | omega | (simp only [List.length_set, List.length_map, List.length_append] <;> omega) | (simp; done))) | (refine .slp rfl ?_; (first | omega | (first | with_reducible assumption | (apply chk_c; exact hP; (first | (guard_target = Prop; rotate_left 1) | skip))))))) | ((with_reducible apply (f_bstr0 (t := 23) (t' := 9))); kernel_rfl; exact rfl) | ((with_reducible apply f_shl); exact rfl; exact rfl; (first | decide | (first | with_reducible assumption | (apply chk_c; exact hP; (first | (guard_target = Prop; rotate_left 1) | skip)))); exact rfl))) | ((with_reducible apply d_leaf); exact (by decide +kernel)) | ((fail_if_success (have hTest : Hld False := hP)); (replace hP := bth_b hP)))); all_goals (first | ((with_reducible apply n_doneZ); exact rfl; exact (by decide +kernel)) | skip))) | skip))))
    | ((with_reducible apply v_gs); exact rfl; exact rfl; (exact hP); all_goals (clear hP; intro hg hP))
    | ((with_reducible apply v_if); exact rfl; (exact hP); all_goals (clear hP; intro hc hP)))
theorem list3 {l : List Int} (h : 3 ≤ l.length) : l = gt l 0 :: gt l 1 :: gt l 2 :: l.drop 3 := by
  match l, h with
  | a :: b :: c :: r, _ => rfl
theorem three_num {a b c : Int} (ha : 0 ≤ a ∧ a ≤ 255) (hb : 0 ≤ b ∧ b ≤ 255) (hc : 0 ≤ c ∧ c ≤ 255) : threeS (num3 a b c) = [a, b, c] := by
  unfold threeS num3
  rw [show (a * 65536 + b * 256 + c) / 65536 % 256 = a by omega, show (a * 65536 + b * 256 + c) / 256 % 256 = b by omega, show (a * 65536 + b * 256 + c) % 256 = c by omega]
theorem numS_inv {l : List Int} (hl : InB l) (h : (numS l).2.2 = true) : l = threeS (numS l).1 ++ (numS l).2.1 ∧ 0 ≤ (numS l).1 ∧ (numS l).1 ≤ 65536 := by
  obtain ⟨h1, h2, h3⟩ := numS_ok h
  have h4 := numS_pos hl
  rw [h2] at h4 ⊢
  refine ⟨?_, h4, h3⟩
  dsimp only
  rw [three_num (InB_gt hl (by omega) (by omega)) (InB_gt hl (by omega) (by omega)) (InB_gt hl (by omega) (by omega))]
  exact list3 h1
theorem rb1 {a b : Int} (h : 0 < b) (ha : 0 ≤ a) : rightB a b 0 = true := by unfold rightB; rw [if_neg (by omega)]; simp; omega
theorem rb0 {n : Nat} (h : 0 < n) : rightB 0 0 n = true := by unfold rightB; simp [h]
theorem lb0 {a b : Int} {n : Nat} (ha : a ≤ 65536) (hb : b ≤ 65536) (hn : (n : Int) ≤ 65536) : largeB a b n = false := by unfold largeB; simp; omega
theorem read_inv {b : List Int} (hb : InB b) (h0 : 0 < b.length) (h : (readS b).2.2 = true) : b = opB (readS b).1 ++ (readS b).2.1 ∧ rightO (readS b).1 = true ∧ largeO (readS b).1 = false := by
  have hf := InB_gt hb (i := 0) (by omega) (by omega)
  have hb1 : b = gt b 0 :: b.drop 1 := by
    match b, h0 with
    | a :: r, _ => rfl
  have hd := InB_drop 1 hb
  unfold readS at h ⊢
  split at h
  · cases h
  · rename_i c
    rw [if_neg c]
    have c1 : (numS (b.drop 1)).2.2 = true := by simpa using (not_or.1 c).1
    have c2 := (not_or.1 c).2
    obtain ⟨q1, q2, q3⟩ := numS_inv hd c1
    split at h
    · rename_i c3
      rw [if_pos c3]
      rw [Bool.and_eq_true, decide_eq_true_eq] at h
      have hd2 : InB (numS (b.drop 1)).2.1 := by
        obtain ⟨_, e, _⟩ := numS_ok c1
        rw [e]; exact InB_drop 3 hd
      obtain ⟨r1, r2, r3⟩ := numS_inv hd2 h.1
      refine ⟨?_, ?_, ?_⟩
      · conv => lhs; rw [hb1, q1, r1, c3]
        unfold opB; rw [if_pos h.2]; simp
      · exact rb1 h.2 q2
      · exact lb0 q3 r3 (by simp)
    · rename_i c3
      rw [if_neg c3]
      split at h
      · cases h
      · rename_i c4
        rw [if_neg c4]
        have c5 := (not_or.1 c4).1
        have c6 := (not_or.1 c4).2
        have hl : ((List.take (numS (b.drop 1)).1.toNat (numS (b.drop 1)).2.1).length : Int) = (numS (b.drop 1)).1 := by rw [List.length_take]; omega
        refine ⟨?_, ?_, ?_⟩
        · conv => lhs; rw [hb1, q1, show gt b 0 = 0 by omega]
          unfold opB; rw [if_neg (by simp)]
          dsimp only
          rw [hl]; simp
        · exact rb0 (by dsimp only; omega)
        · exact lb0 (by dsimp only; omega) (by dsimp only; omega) (by dsimp only; omega)
theorem fmt_parse : ∀ (n : Nat) (b : List Int) (out l : List Opn), b.length ≤ n → InB b → out.length ≤ 200 → parseR b out = some l → ∃ m, l = out ++ m ∧ b = m.flatMap opB ∧ (∀ o ∈ m, rightO o = true ∧ largeO o = false) ∧ l.length ≤ 200 := by
  intro n
  induction n with
  | zero =>
    intro b out l hn hb ho h
    have : b = [] := List.eq_nil_of_length_eq_zero (by omega)
    subst this
    rw [parseR, if_pos rfl] at h
    injection h with h
    subst h
    exact ⟨[], by simp, by simp, by simp, ho⟩
  | succ n ih =>
    intro b out l hn hb ho h
    rw [parseR] at h
    split at h
    · rename_i e
      injection h with h
      subst h e
      exact ⟨[], by simp, by simp, by simp, ho⟩
    · rename_i hne
      split at h
      · cases h
      · rename_i c
        have c1 : (readS b).2.2 = true := by simpa using (not_or.1 c).1
        have h0 : 0 < b.length := List.length_pos_iff.2 hne
        obtain ⟨r1, r2, r3⟩ := read_inv hb h0 c1
        rw [dif_pos (readS_lt c1)] at h
        have hlt := readS_lt c1
        have hb2 : InB (readS b).2.1 := fun z hz => hb z (by rw [r1]; simp [hz])
        obtain ⟨m, e1, e2, e3, e4⟩ := ih (readS b).2.1 _ l (by omega) hb2 (by simp; have := (not_or.1 c).2; omega) h
        refine ⟨(readS b).1 :: m, by rw [e1]; simp, ?_, fun o ho => ?_, e4⟩
        · conv => lhs; rw [r1]
          rw [List.flatMap_cons, ← e2]
        · rcases List.mem_cons.1 ho with rfl | ho
          · exact ⟨r2, r3⟩
          · exact e3 o ho
theorem gt_drop {l : List Int} {x k : Int} (hx : 0 ≤ x) (hk : 0 ≤ k) (h : x + k < l.length) : gt l (x + k) = gt (l.drop x.toNat) k := by
  rw [gt_eq (by omega), gt_eq (by rw [List.length_drop]; omega), List.getElem_drop]
  congr 1; omega
theorem part_drop {l : List Int} {x n : Int} (hx : 0 ≤ x) (hn : 0 ≤ n) : part l (x + 4) (x + 4 + n) = ((l.drop x.toNat).drop 4).take n.toNat := by
  unfold part
  rw [List.drop_take, List.drop_drop, show (x + 4 + n).toNat - (x + 4).toNat = n.toNat by omega, show (x + 4).toNat = x.toNat + 4 by omega]
theorem InB_fmt {l : List Opn} (h : ∀ o ∈ l, InB o.dat) : InB (fmtB l) := by
  unfold fmtB
  split
  · intro z hz
    obtain ⟨o, ho, hz⟩ := List.mem_flatMap.1 hz
    have hd := h o ho
    unfold opB at hz
    split at hz
    · simp [threeS] at hz; omega
    · simp only [List.mem_append] at hz
      rcases hz with (hz | hz) | hz
      · simp at hz; omega
      · simp [threeS] at hz; omega
      · exact hd z hz
  · intro z hz; simp at hz
theorem fmtE_0 {l : List Opn} (h : fmtE l = 0) : l.length ≤ 200 ∧ (∀ o ∈ l, rightO o = true ∧ largeO o = false) := by
  unfold fmtE at h
  split at h
  · omega
  · rename_i c
    split at h
    · rename_i c2
      obtain ⟨c3, c4⟩ := not_or.1 c
      refine ⟨by omega, fun o ho => ⟨List.all_eq_true.1 c2 o ho, ?_⟩⟩
      cases e : largeO o with
      | false => rfl
      | true => exact absurd (List.any_eq_true.2 ⟨o, ho, e⟩) c4
    · omega
theorem fmtE_1 {l : List Opn} (h1 : l.length ≤ 200) (h2 : ∀ o ∈ l, rightO o = true ∧ largeO o = false) : fmtE l = 0 := by
  unfold fmtE
  rw [if_neg, if_pos (List.all_eq_true.2 fun o ho => (h2 o ho).1)]
  rintro (h | h)
  · omega
  · obtain ⟨o, ho, e⟩ := List.any_eq_true.1 h
    rw [(h2 o ho).2] at e; cases e
structure PJ (b : List Int) (out : List Opn) (x : Int) : Prop where
  r : 0 ≤ x ∧ x ≤ b.length ∧ (out.length : Int) ≤ x
  d : ∀ o ∈ out, InB o.dat
  m : ∀ l, parseR b [] = some l → ∃ m, l = out ++ m ∧ b.drop x.toNat = m.flatMap opB
theorem op_cases {o : Opn} (h : rightO o = true) : (∃ d : List Int, 0 < d.length ∧ o = ⟨0, 0, d⟩) ∨ (∃ f z : Int, 0 < z ∧ 0 ≤ f ∧ o = ⟨f, z, []⟩) := by
  obtain ⟨f, z, d⟩ := o
  rcases right_spec h with ⟨h1, h2, h3⟩ | ⟨h1, h2, h3⟩
  · dsimp only at h1 h2 h3; subst h1 h2; exact .inl ⟨d, h3, rfl⟩
  · dsimp only at h1 h2 h3; subst h3; exact .inr ⟨f, z, h1, h2, rfl⟩
theorem num3_three {n : Int} (h0 : 0 ≤ n) (h1 : n ≤ 65536) : num3 (n / 65536 % 256) (n / 256 % 256) (n % 256) = n := by unfold num3; omega
theorem rParse_ic (b : List Int) : ICt 27 [by_ b] (fun v => v = .tup [ov (parseS b).1, iv (parseS b).2]) := (rParse_V b _).2 (by
  (delta rParse_V; dsimp only [mkV])
  (repeat' (first | with_reducible refine brn_nd (fun h => ?_) (fun h => ?_) | with_reducible refine brn_d (fun h => ?_) (fun h => ?_) | with_reducible refine brn_nn (fun h => ?_) (fun h => ?_) | with_reducible refine brn_nb (fun h => ?_) (fun h => ?_) | with_reducible refine Brn.mk (fun h => ?_) (fun h => ?_) | with_reducible refine Chk.mk ?_ ?_ | with_reducible refine Bth.mk ?_ ?_ | with_reducible refine Fct.mk (fun hf => ?_)))
  · have e : parseS b = ([], 3) := if_pos (by omega)
    rw [e]; rfl
  have hlb : ¬ 131072 < b.length := by omega
  have hin : InB b := InB_ok (by assumption : b.length ≤ _ ∧ _).2
  have hfp := fun l h => fmt_parse b.length b [] l (Nat.le_refl _) hin (by simp) h
  refine lp2 (fun out x => PJ b out x) (fun _ x => ((b.length : Int) - x).toNat) ⟨by simp, by simp, fun l h => by obtain ⟨m, h1, h2, _⟩ := hfp l h; exact ⟨m, by simpa using h1, by simpa using h2⟩⟩ ?_
  rintro I μ nx out x hj
  obtain ⟨hx0, hx1, hxo⟩ := hj.r
  have nx' := fun out' x' h1 h2 => nx out' x' out x hj h1 h2
  clear nx
  have hbt : ∀ k : Int, 0 ≤ k → x + k < b.length → 0 ≤ gt b (x + k) ∧ gt b (x + k) ≤ 255 := fun k h0 h1 => InB_gt hin (by omega) h1
  have hbx : x < b.length → 0 ≤ gt b x ∧ gt b x ≤ 255 := fun h => InB_gt hin (by omega) h
  by_cases hlast : ¬ x < b.length
  · clear nx'
    have hin2 := InB_fmt hj.d
    cases hpr : parseR b [] with
    | none =>
      have no : ¬ (fmtE out = 0 ∧ bsI (fmtB out) = bsI b) := fun ⟨h1, h2⟩ => by
        have h3 := bsI_inj hin2 hin h2
        obtain ⟨g1, g2⟩ := fmtE_0 h1
        have h4 : out.flatMap opB = b := by rw [← h3]; unfold fmtB; rw [if_pos h1]
        have h5 := parse_back g1 g2 (by rw [h4]; omega)
        rw [h4] at h5
        unfold parseS at h5
        rw [if_neg hlb, hpr] at h5
        cases h5
      have e := pr_none hlb hpr
      (repeat' (first | with_reducible refine brn_nd (fun h => ?_) (fun h => ?_) | with_reducible refine brn_d (fun h => ?_) (fun h => ?_) | with_reducible refine brn_nn (fun h => ?_) (fun h => ?_) | with_reducible refine brn_nb (fun h => ?_) (fun h => ?_) | with_reducible refine Brn.mk (fun h => ?_) (fun h => ?_) | with_reducible refine Chk.mk ?_ ?_ | with_reducible refine Bth.mk ?_ ?_ | with_reducible refine Fct.mk (fun hf => ?_)))
      all_goals first | exact e | (exfalso; omega) | exact absurd ⟨by assumption, by assumption⟩ no
    | some l =>
      obtain ⟨m, e1, e2⟩ := hj.m l hpr
      obtain ⟨m2, f1, f2, f3, f4⟩ := hfp l hpr
      rw [List.drop_eq_nil_of_le (by omega)] at e2
      have hm : m = [] := by
        cases m with
        | nil => rfl
        | cons o m => rw [List.flatMap_cons] at e2; have := opB_pos o; rw [List.nil_eq, List.append_eq_nil_iff] at e2; rw [e2.1] at this; cases this
      subst hm
      rw [List.append_nil] at e1
      subst e1
      rw [List.nil_append] at f1
      subst f1
      have g1 := fmtE_1 f4 f3
      have g2 : fmtB l = b := by unfold fmtB; rw [if_pos g1]; exact f2.symm
      have e := pr_some hlb hpr
      rw [g1, g2]
      (repeat' (first | with_reducible refine brn_nd (fun h => ?_) (fun h => ?_) | with_reducible refine brn_d (fun h => ?_) (fun h => ?_) | with_reducible refine brn_nn (fun h => ?_) (fun h => ?_) | with_reducible refine brn_nb (fun h => ?_) (fun h => ?_) | with_reducible refine Brn.mk (fun h => ?_) (fun h => ?_) | with_reducible refine Chk.mk ?_ ?_ | with_reducible refine Bth.mk ?_ ?_ | with_reducible refine Fct.mk (fun hf => ?_)))
      all_goals first | exact e | (exfalso; omega) | (exfalso; simp_all; done)
  have hlt : x < b.length := by omega
  cases hpr : parseR b [] with
  | none =>
    have e := pr_none hlb hpr
    have step : ∀ (o : Opn) (y : Int), InB o.dat → x + 1 ≤ y → y ≤ b.length → I (out ++ [o]) y ∧ μ (out ++ [o]) y < μ out x := fun o y h1 h2 h3 => nx' _ _ ⟨by simp; omega, fun q hq => by
      rcases List.mem_append.1 hq with hq | hq
      · exact hj.d q hq
      · simp at hq; subst hq; exact h1, fun l h => by rw [hpr] at h; cases h⟩ (by omega)
    clear nx'
    have hpt : ∀ m n : Int, InB (part b m n) := fun m n z hz => hin z (by unfold part at hz; exact List.mem_of_mem_take (List.mem_of_mem_drop hz))
    by_cases h4 : x + 4 ≤ b.length
    · have b1 := hbt 1 (by omega) (by omega)
      have b2 := hbt 2 (by omega) (by omega)
      have b3 := hbt 3 (by omega) (by omega)
      rw [or3 b1 b2 b3]
      have hn : 0 ≤ num3 (gt b (x + 1)) (gt b (x + 2)) (gt b (x + 3)) ∧ num3 (gt b (x + 1)) (gt b (x + 2)) (gt b (x + 3)) ≤ 16777215 := by unfold num3; omega
      have hn7 : x + 7 ≤ b.length → ∃ z, bits .or .i64 (bits .or .i64 (IntKind.i64.wrap (gt b (x + 4) * 2 ^ min (Int.toNat 16) IntKind.i64.bits)) (IntKind.i64.wrap (gt b (x + 5) * 2 ^ min (Int.toNat 8) IntKind.i64.bits))) (gt b (x + 6)) = z := fun h7 => ⟨_, rfl⟩
      generalize num3 (gt b (x + 1)) (gt b (x + 2)) (gt b (x + 3)) = n at *
      (repeat' (first | with_reducible refine brn_nd (fun h => ?_) (fun h => ?_) | with_reducible refine brn_d (fun h => ?_) (fun h => ?_) | with_reducible refine brn_nn (fun h => ?_) (fun h => ?_) | with_reducible refine brn_nb (fun h => ?_) (fun h => ?_) | with_reducible refine Brn.mk (fun h => ?_) (fun h => ?_) | with_reducible refine Chk.mk ?_ ?_ | with_reducible refine Bth.mk ?_ ?_ | with_reducible refine Fct.mk (fun hf => ?_)))
      all_goals first | exact e | omega | (unfold InI; omega) | (exact step _ _ (by rw [List.nil_append]; exact hpt _ _) (by omega) (by omega)) | (exact step _ _ (fun z hz => by cases hz) (by omega) (by omega)) | (have := InB_gt hin (i := x + 4) (by omega) (by omega); have := InB_gt hin (i := x + 5) (by omega) (by omega); have := InB_gt hin (i := x + 6) (by omega) (by omega); unfold InI; omega) | (simp; omega) | (have : (part b (x + 4) (x + 4 + n)).length ≤ b.length := (by unfold part; simp; omega); simp; omega) | skip
    · (repeat' (first | with_reducible refine brn_nd (fun h => ?_) (fun h => ?_) | with_reducible refine brn_d (fun h => ?_) (fun h => ?_) | with_reducible refine brn_nn (fun h => ?_) (fun h => ?_) | with_reducible refine brn_nb (fun h => ?_) (fun h => ?_) | with_reducible refine Brn.mk (fun h => ?_) (fun h => ?_) | with_reducible refine Chk.mk ?_ ?_ | with_reducible refine Bth.mk ?_ ?_ | with_reducible refine Fct.mk (fun hf => ?_)))
      all_goals first | exact e | omega | (unfold InI; omega) | skip
  | some l =>
    obtain ⟨m, e1, e2⟩ := hj.m l hpr
    obtain ⟨m2, f1, f2, f3, f4⟩ := hfp l hpr
    have hne : m ≠ [] := fun h => by
      subst h
      have := congrArg List.length e2
      simp at this; omega
    obtain ⟨o, m', rfl⟩ := List.exists_cons_of_ne_nil hne
    clear hne
    have ho : o ∈ m2 := by
      have : l = m2 := by simpa using f1
      rw [← this, e1]; simp
    obtain ⟨ho1, ho2⟩ := f3 o ho
    obtain ⟨l1, l2, l3⟩ := large_spec ho2
    rw [List.flatMap_cons] at e2
    have hdl : ((b.drop x.toNat).length : Int) = b.length - x := by rw [List.length_drop]; omega
    have g0 : gt b x = gt (b.drop x.toNat) 0 := by have := gt_drop (l := b) (x := x) (k := 0) hx0 (by omega) (by omega); rwa [Int.add_zero] at this
    have gk : ∀ k : Int, 0 ≤ k → x + k < b.length → gt b (x + k) = gt (b.drop x.toNat) k := fun k h0 h1 => gt_drop hx0 h0 h1
    have step : ∀ (y : Int), x + 1 ≤ y → y ≤ b.length → InB o.dat → b.drop y.toNat = m'.flatMap opB → I (out ++ [o]) y ∧ μ (out ++ [o]) y < μ out x := fun y h2 h3 h1 h4 => nx' _ _ ⟨by simp; omega, fun q hq => by
      rcases List.mem_append.1 hq with hq | hq
      · exact hj.d q hq
      · simp at hq; subst hq; exact h1, fun l9 h => by
        rw [hpr] at h; injection h with h; subst h
        exact ⟨m', by rw [e1]; simp, h4⟩⟩ (by omega)
    clear nx' hj hfp f3
    rcases op_cases ho1 with ⟨d, hd, rfl⟩ | ⟨f, z, hz, hf0, rfl⟩
    · dsimp only at l3
      have hb : b.drop x.toNat = 0 :: (d.length : Int) / 65536 % 256 :: (d.length : Int) / 256 % 256 :: (d.length : Int) % 256 :: (d ++ m'.flatMap opB) := by
        rw [e2]; unfold opB; rw [if_neg (by simp)]; simp [threeS]
      rw [hb] at g0 gk hdl
      have q0 : gt b x = 0 := g0
      simp only [List.length_cons, List.length_append] at hdl
      have q1 := gk 1 (by omega) (by omega)
      have q2 := gk 2 (by omega) (by omega)
      have q3 := gk 3 (by omega) (by omega)
      have b1 := hbt 1 (by omega) (by omega)
      have b2 := hbt 2 (by omega) (by omega)
      have b3 := hbt 3 (by omega) (by omega)
      have hn : num3 (gt b (x + 1)) (gt b (x + 2)) (gt b (x + 3)) = d.length := by
        rw [q1, q2, q3]; exact num3_three (by omega) (by omega)
      rw [or3 b1 b2 b3, hn, q0]
      have hp : part b (x + 4) (x + 4 + (d.length : Int)) = d := by
        rw [part_drop hx0 (by omega), hb]; simp
      have hdr : b.drop (x + (4 + (d.length : Int))).toNat = m'.flatMap opB := by
        rw [show (x + (4 + (d.length : Int))).toNat = x.toNat + (4 + d.length) by omega, ← List.drop_drop, hb]
        rw [show 4 + d.length = d.length + 4 by omega]
        simp
      have hind : InB d := fun q hq => hin q (List.mem_of_mem_drop (i := x.toNat) (by rw [hb]; simp [hq]))
      have st := step (x + (4 + (d.length : Int))) (by omega) (by omega) hind hdr
      rw [hp]
      (repeat' (first | with_reducible refine brn_nd (fun h => ?_) (fun h => ?_) | with_reducible refine brn_d (fun h => ?_) (fun h => ?_) | with_reducible refine brn_nn (fun h => ?_) (fun h => ?_) | with_reducible refine brn_nb (fun h => ?_) (fun h => ?_) | with_reducible refine Brn.mk (fun h => ?_) (fun h => ?_) | with_reducible refine Chk.mk ?_ ?_ | with_reducible refine Bth.mk ?_ ?_ | with_reducible refine Fct.mk (fun hf => ?_)))
      all_goals first | omega | (unfold InI; omega) | (exfalso; omega) | exact st | (simp; omega) | skip
    · have hb : b.drop x.toNat = 1 :: f / 65536 % 256 :: f / 256 % 256 :: f % 256 :: z / 65536 % 256 :: z / 256 % 256 :: z % 256 :: m'.flatMap opB := by
        rw [e2]; unfold opB; rw [if_pos hz]; simp [threeS]
      rw [hb] at g0 gk hdl
      have q0 : gt b x = 1 := g0
      simp only [List.length_cons] at hdl
      have q1 := gk 1 (by omega) (by omega)
      have q2 := gk 2 (by omega) (by omega)
      have q3 := gk 3 (by omega) (by omega)
      have q4 := gk 4 (by omega) (by omega)
      have q5 := gk 5 (by omega) (by omega)
      have q6 := gk 6 (by omega) (by omega)
      have hn : num3 (gt b (x + 1)) (gt b (x + 2)) (gt b (x + 3)) = f := by
        rw [q1, q2, q3]; exact num3_three hf0 l1
      have hn2 : num3 (gt b (x + 4)) (gt b (x + 5)) (gt b (x + 6)) = z := by
        rw [q4, q5, q6]; exact num3_three (by omega) l2
      rw [or3 (hbt 1 (by omega) (by omega)) (hbt 2 (by omega) (by omega)) (hbt 3 (by omega) (by omega)), or3 (hbt 4 (by omega) (by omega)) (hbt 5 (by omega) (by omega)) (hbt 6 (by omega) (by omega)), hn, hn2, q0]
      have b4 := hbt 4 (by omega) (by omega)
      have b5 := hbt 5 (by omega) (by omega)
      have b6 := hbt 6 (by omega) (by omega)
      have b1 := hbt 1 (by omega) (by omega)
      have b2 := hbt 2 (by omega) (by omega)
      have b3 := hbt 3 (by omega) (by omega)
      have hdr : b.drop (x + 7).toNat = m'.flatMap opB := by
        rw [show (x + 7).toNat = x.toNat + 7 by omega, ← List.drop_drop, hb]
        simp
      have st := step (x + 7) (by omega) (by omega) (fun z hz => by cases hz) hdr
      (repeat' (first | with_reducible refine brn_nd (fun h => ?_) (fun h => ?_) | with_reducible refine brn_d (fun h => ?_) (fun h => ?_) | with_reducible refine brn_nn (fun h => ?_) (fun h => ?_) | with_reducible refine brn_nb (fun h => ?_) (fun h => ?_) | with_reducible refine Brn.mk (fun h => ?_) (fun h => ?_) | with_reducible refine Chk.mk ?_ ?_ | with_reducible refine Bth.mk ?_ ?_ | with_reducible refine Fct.mk (fun hf => ?_)))
      all_goals first | omega | (unfold InI; omega) | (exfalso; omega) | exact st | (simp; omega) | skip)
end Go.Proofs.Ytbnmcdnkeipdhaa
