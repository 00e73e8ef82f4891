/- Archives: the law ArchiveShort, walked. -/
import Derived.Test.YtbnmcdnkeipdhaaFu
set_option linter.all false
set_option maxRecDepth 20000
set_option maxHeartbeats 4000000
namespace Go.Proofs.Ytbnmcdnkeipdhaa
open Go.RowKit Go.Shelf
noncomputable def lawShort_V (n : Int) : Σ' P : Prop, (P → ILt 10 [iv n]) := by
  apply mkV; intro hP
  refine il_wk (K 67) Try.func10 rfl rfl rfl rfl (fun w0 hw0 => ?_)
  repeat' (first
    | ((apply (v_fzl (o := ⟨some 18, _, _, _, _, _⟩) 13)); exact rfl; exact rfl; exact rfl; (· repeat' (first | exact True.intro | refine And.intro ?_ ?_ | (show (_ : Nat) = _; (first | exact rfl | exact (List.length_map _).symm | omega | (simp only [List.length_set, List.length_map, List.length_append] <;> omega) | (simp; done))))))
    | ((apply (v_fzl (o := ⟨some 19, _, _, _, _, _⟩) 18)); exact rfl; exact rfl; exact rfl; (· repeat' (first | exact True.intro | refine And.intro ?_ ?_ | (show (_ : Nat) = _; (first | exact rfl | exact (List.length_map _).symm | omega | (simp only [List.length_set, List.length_map, List.length_append] <;> omega) | (simp; done))))))
    | ((fail_if_success (have hTest : Hld False := hP)); (have hq := chk_c hP); (replace hP := chk_p hP))
    | ((with_reducible apply j_lst); exact rfl)
    | (with_reducible (first | apply c_seq | apply c_rg | apply j_nil | apply q_n | apply g_tt | apply g_ff | apply c_ct | apply c_cf | apply c_bl | apply c_ex | apply c_ret | apply c_sk | apply q_r | apply q_e | apply b_r | apply b_e | apply b_n | apply n_n | apply n_r | apply n_e))
    | ((with_reducible apply v_lenstr); exact rfl; exact rfl; kernel_rfl)
    | ((with_reducible apply (v_make irow_u8 ((0 : Int)))); exact rfl; exact rfl; exact rfl; exact rfl; exact rfl; exact rfl; exact rfl; exact rfl; exact rfl; exact rfl; exact rfl; exact rfl; (first | with_reducible assumption | (apply chk_c; exact hP; (first | (guard_target = Prop; rotate_left 1) | skip))))
    | ((with_reducible apply c_l1); exact rfl; exact rfl)
    | ((with_reducible apply c_l2); exact rfl; exact rfl)
    | ((with_reducible apply c_l3); exact rfl)
    | ((with_reducible apply j_tpa); exact hw0; exact rfl; exact rfl; exact rfl; exact rfl; exact rfl; exact rfl)
    | ((with_reducible apply j_v); exact rfl; exact rfl)
    | ((with_reducible apply (v_bsf (d := 18) (Ent.row))); exact rfl; exact rfl; (focus (repeat' (first | exact row_nil | apply row_cons | exact Ent.row_mk _ _ | exact Ent.row_mk _ []))); exact rfl; exact rfl)
    | ((with_reducible apply (v_bs (Ent.row))); exact rfl; exact rfl; (focus (repeat' (first | exact row_nil | apply row_cons | exact Ent.row_mk _ _ | exact Ent.row_mk _ []))); exact rfl)
    | ((with_reducible apply j_h); exact rfl; exact rfl)
    | ((with_reducible apply j_g); exact rfl; exact rfl; (first | with_reducible assumption | with_reducible exact Eq.refl true | with_reducible exact Eq.refl false | (with_reducible refine not_t ?_; with_reducible assumption) | (with_reducible refine not_f ?_; with_reducible assumption) | (refine dec_t ?_; decide) | (refine dec_f ?_; decide)))
    | ((with_reducible apply g_tf); exact rfl)
    | ((with_reducible apply g_ft); exact rfl)
    | ((with_reducible apply j_gz); exact rfl; exact rfl; exact rfl)
    | ((with_reducible apply v_lenm); exact rfl; exact rfl; exact rfl; (exact hP); clear hP; intro hP)
    | ((with_reducible apply v_lens); exact rfl; exact rfl; exact rfl; (exact hP); clear hP; intro hP)
    | ((with_reducible apply j_len); exact rfl; exact rfl; exact rfl)
    | ((with_reducible apply j_len0); exact rfl; exact rfl; exact rfl)
    | ((with_reducible apply j_pk); exact rfl; exact rfl; (first | with_reducible assumption | with_reducible exact Eq.refl true | with_reducible exact Eq.refl false | (with_reducible refine not_t ?_; with_reducible assumption) | (with_reducible refine not_f ?_; with_reducible assumption) | (refine dec_t ?_; decide) | (refine dec_f ?_; decide)); exact rfl)
    | ((with_reducible apply j_rem); exact rfl; exact rfl; exact rfl; (first | with_reducible assumption | (apply chk_c; exact hP; (first | (guard_target = Prop; rotate_left 1) | skip))); exact rfl)
    | ((with_reducible apply j_quo); exact rfl; exact rfl; exact rfl; ((repeat ((fail_if_success (have hTest : Hld False := hP)); (have hq := chk_c hP); (replace hP := chk_p hP))); first | with_reducible assumption | (apply chk_c; exact hP; (first | (guard_target = Prop; rotate_left 1) | skip))); (first | (with_reducible apply wr_i64; ((repeat ((fail_if_success (have hTest : Hld False := hP)); (have hq := chk_c hP); (replace hP := chk_p hP))); first | with_reducible assumption | (apply chk_c; exact hP; (first | (guard_target = Prop; rotate_left 1) | skip)))) | exact rfl))
    | ((with_reducible apply j_add); exact rfl; exact rfl; exact rfl; (first | (with_reducible apply wr_i64; (first | with_reducible assumption | (apply chk_c; exact hP; (first | (guard_target = Prop; rotate_left 1) | skip)))) | exact rfl))
    | ((with_reducible apply j_mul); exact rfl; exact rfl; exact rfl; (first | (with_reducible apply wr_i64; (first | with_reducible assumption | (apply chk_c; exact hP; (first | (guard_target = Prop; rotate_left 1) | skip)))) | exact rfl))
    | ((with_reducible apply c_c); exact rfl; (first | with_reducible assumption | with_reducible exact Eq.refl true | with_reducible exact Eq.refl false | (with_reducible refine not_t ?_; with_reducible assumption) | (with_reducible refine not_f ?_; with_reducible assumption) | (refine dec_t ?_; decide) | (refine dec_f ?_; decide)))
    | ((with_reducible apply b_o); exact rfl)
    | ((with_reducible apply r_g); exact rfl; (· repeat' (first | exact True.intro | refine And.intro ?_ ?_ | (show (_ : Nat) = _; (first | exact rfl | exact (List.length_map _).symm | omega | (simp only [List.length_set, List.length_map, List.length_append] <;> omega) | (simp; done))))); (exact hP.out))
    | ((with_reducible apply v_call (pu := true)); exact rfl; exact ⟨rfl, rfl⟩; (first | (apply (fmt_ic _); rotate_left 1)); (focus ((repeat' (first | exact .nil _ | refine PsL.cons ?_ ?_ | refine PsSL.cons ?_ ?_ | exact .one (.d _ _) | exact .one psc_nilm | exact psc_nilm | exact .one (.nil _) | exact .one (.nn _) | exact .one (.tape _) | exact .one (.fn _ _) | exact .agg (.same _ _) | refine .agg ?_ | exact .d _ _ | exact .one (.sl rfl rfl) | exact .one (.sl rfl (List.length_map _).symm) | exact .sl rfl rfl | exact .sl rfl (List.length_map _).symm | exact .same _ _)) <;> fail)); exact .inl rfl; (first | with_reducible assumption | (apply chk_c; exact hP; (first | (guard_target = Prop; rotate_left 1) | skip))))
    | ((with_reducible apply j_call (pu := false)); exact rfl; (first | (exact awk_ic)); (focus ((repeat' (first | exact .nil _ | refine PsL.cons ?_ ?_ | refine PsSL.cons ?_ ?_ | exact .one (.d _ _) | exact .one psc_nilm | exact psc_nilm | exact .one (.nil _) | exact .one (.nn _) | exact .one (.tape _) | exact .one (.fn _ _) | exact .agg (.same _ _) | refine .agg ?_ | exact .d _ _ | exact .one (.sl rfl rfl) | exact .one (.sl rfl (List.length_map _).symm) | exact .sl rfl rfl | exact .sl rfl (List.length_map _).symm | exact .same _ _)) <;> fail)); exact .inr rfl)
    | ((with_reducible apply v_call (pu := false)); exact rfl; exact ⟨rfl, rfl⟩; (first | (apply (arSize_ic _); rotate_left 1)); (focus ((repeat' (first | exact .nil _ | refine PsL.cons ?_ ?_ | refine PsSL.cons ?_ ?_ | exact .one (.d _ _) | exact .one psc_nilm | exact psc_nilm | exact .one (.nil _) | exact .one (.nn _) | exact .one (.tape _) | exact .one (.fn _ _) | exact .agg (.same _ _) | refine .agg ?_ | exact .d _ _ | exact .one (.sl rfl rfl) | exact .one (.sl rfl (List.length_map _).symm) | exact .sl rfl rfl | exact .sl rfl (List.length_map _).symm | exact .same _ _)) <;> fail)); exact .inr rfl; (first | with_reducible assumption | (apply chk_c; exact hP; (first | (guard_target = Prop; rotate_left 1) | skip))))
    | ((with_reducible apply v_gs); exact rfl; exact rfl; (exact hP); all_goals (clear hP; intro hg hP))
    | ((with_reducible apply v_if); exact rfl; (exact hP); all_goals (clear hP; intro hc hP)))
end Go.Proofs.Ytbnmcdnkeipdhaa
