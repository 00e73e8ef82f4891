/- The law TopBroken, walked. -/
import Derived.Test.YtcbppkfnfbdkhaaPv
set_option linter.all false
set_option maxRecDepth 20000
set_option maxHeartbeats 16000000
namespace Go.Proofs.Ytcbppkfnfbdkhaa
open Go.RowKit Go.Shelf
noncomputable def lawBroken_V (tape : List Int) : Σ' P : Prop, (P → ILt 8 [lv tape]) := by
  apply mkV; intro hP
  refine il_wk (K 104) Try.func8 rfl rfl rfl rfl (fun w0 hw0 => ?_)
  repeat' (first
    | ((fail_if_success (have hTest : Hld False := hP)); (have hq := chk_c hP); (replace hP := chk_p hP))
    | (with_reducible (first | apply c_seq | apply c_rg | apply j_nil | apply q_n | apply g_tt | apply g_ff | apply c_ct | apply c_bl | apply c_ex | apply c_ret | apply c_sk | apply q_r | apply q_e | apply b_r | apply b_e | apply b_n | apply n_n | apply n_r | apply n_e))
    | ((with_reducible apply c_l1); exact rfl; exact rfl)
    | ((with_reducible apply j_tpa); exact hw0; exact rfl; exact rfl; exact rfl; exact rfl; exact rfl; exact rfl)
    | ((with_reducible apply j_v); exact rfl; exact rfl)
    | ((with_reducible apply j_h); exact rfl; exact rfl)
    | ((with_reducible apply j_s); exact rfl)
    | ((with_reducible apply j_g); exact rfl; exact rfl; (first | with_reducible assumption | with_reducible exact Eq.refl false | (refine dec_f ?_; decide)))
    | ((with_reducible apply g_tf); exact rfl)
    | ((with_reducible apply g_ft); exact rfl)
    | ((with_reducible apply v_lenm); exact rfl; exact rfl; exact rfl; (exact hP); clear hP; intro hP)
    | ((with_reducible apply j_pk); exact rfl; exact rfl; (first | with_reducible assumption | with_reducible exact Eq.refl false | (refine dec_f ?_; decide)); exact rfl)
    | ((with_reducible apply j_add); exact rfl; exact rfl; exact rfl; (with_reducible apply wr_i64; (apply chk_c; exact hP; (first | skip))))
    | ((with_reducible apply v_ia); exact rfl; exact rfl; exact rfl; exact rfl; (case inst => exact inferInstance); exact rfl; exact rfl; (apply chk_c; exact hP; (first | skip)))
    | ((with_reducible apply c_c); exact rfl; (first | with_reducible exact Eq.refl true))
    | ((with_reducible apply r_g); exact rfl; (· repeat' (first | exact True.intro | refine And.intro ?_ ?_)); (exact hP.out))
    | ((with_reducible apply j_call (pu := false)); exact rfl; (first | (exact awk39_ic) | (apply (fhold_ic _ _); rotate_left 2) | (apply (rRight_ic _ _); rotate_left 2) | (apply (fended_ic _ _); rotate_left 2)); (focus ((repeat' (first | exact .nil _ | refine PsL.cons ?_ ?_ | refine PsSL.cons ?_ ?_ | refine .agg ?_ | exact .d _ _)) <;> fail)); exact .inr rfl)
    | ((with_reducible apply v_ndp (pu := true)); exact rfl; exact ⟨rfl, rfl⟩; (first | (apply (mfit_nd _); rotate_left 1) | (apply (mheld_nd _); rotate_left 1)); (focus ((repeat' (first | exact .nil _ | refine PsL.cons ?_ ?_ | refine PsSL.cons ?_ ?_ | exact .one (.d _ _) | exact .one (.tape _) | refine .agg ?_ | exact .d _ _)) <;> fail)); exact .inl rfl; (exact hP); clear hP; intro x hx hP)
    | ((with_reducible apply j_call (pu := false)); exact rfl; (apply (fended_ic ⟨_, _⟩ ⟨_, _, _⟩); rotate_left 5; dsimp only [Flt.v_mk, Rot.v_mk]); (focus ((repeat' (first | exact .nil _ | refine PsL.cons ?_ ?_ | refine PsSL.cons ?_ ?_ | refine .agg ?_ | exact .d _ _)) <;> fail)); exact .inr rfl)
    | ((with_reducible apply v_call (pu := true)); exact rfl; exact ⟨rfl, rfl⟩; (first | (apply (fmake_ic _ _); rotate_left 2) | (apply (run33_ic _ _ _); rotate_left 3)); (focus ((repeat' (first | exact .nil _ | refine PsL.cons ?_ ?_ | refine PsSL.cons ?_ ?_ | exact .one (.d _ _) | refine .agg ?_ | exact .d _ _)) <;> fail)); exact .inl rfl; (apply chk_c; exact hP; (first | skip)))
    | ((with_reducible apply v_call (pu := false)); exact rfl; exact ⟨rfl, rfl⟩; (apply (fault33_ic _ _ _); rotate_left 3); (focus ((repeat' (first | exact .nil _ | refine PsL.cons ?_ ?_ | refine PsSL.cons ?_ ?_ | exact .one (.d _ _) | refine .agg ?_ | exact .d _ _)) <;> fail)); exact .inr rfl; (first | with_reducible assumption))
    | ((with_reducible refine v_loopat (c := (.seq (.region 16 _ _) _)) ?_); (apply (v_loop5 _ _ _ _ _ [4, 13, 73, 74] [4] (fun x1 x3 x4 x5 x2 => [(12, .one (.d (.bool x1))), (75, .one (.d (.int .i64 x2)))]) (fun x1 x3 x4 x5 x2 => [(13, .blk 96 [.d (.int .i64 x3), .d (.int .i64 x4), .d (.list (List.map Unt.row x5))])]) [])); exact rfl; exact rfl; exact ⟨(by repeat' (first | exact .nil | refine .cons ?_ ?_ | exact SVle_pl rfl | refine .one ?_ | exact .ref rfl rfl)), (by repeat' (first | exact .nil | refine .cons ?_ ?_ | exact .d rfl | refine .blk rfl ?_))⟩; (exact hP); clear hP; intro I μ x1 x3 x4 x5 x2 hP)
    | ((with_reducible apply (v_nxt5 (a1 := _) (a2 := _) (a3 := _) (a4 := _) (a5 := _))); (repeat' (first | exact .nil | refine .cons ?_ ?_ | exact SVle_pl rfl | refine .one ?_ | exact .d rfl | exact .ref rfl rfl | refine .blk rfl ?_)); (repeat' (first | exact .nil | exact .nil _ | refine .cons ?_ ?_ | exact .u _ | exact SVle_pl rfl | refine .one ?_ | refine .agg ?_ | exact .d rfl | exact .ref rfl rfl | exact .sl rfl (by first | rfl | exact List.length_set.symm | exact (splT_len (by simp only [List.length_take, List.length_drop]; omega)).symm | omega | (rw [List.length_append, List.length_map]; show _ + 1 = _; omega) | simp) | exact .fn _ | exact .tape | exact .nils rfl | exact .nild | exact .nildm | exact .nil | exact .rp (by simp) | exact .clo (by simp) | exact .el rfl rfl rfl | exact .d (by first | rfl | (congr 1; omega) | (congr 1; assumption) | simp) | exact .virt rfl | exact .gone _ | refine .blk rfl ?_ | exact .arr rfl (by first | rfl | assumption | simp))); (exact hP))
    | ((with_reducible apply v_gs); exact rfl; exact rfl; (exact hP); all_goals (clear hP; intro hg hP))
    | ((with_reducible apply v_if); exact rfl; (exact hP); all_goals (clear hP; intro hc hP)))
end Go.Proofs.Ytcbppkfnfbdkhaa
