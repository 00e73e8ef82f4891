/- Who may read; exposures. -/
import Derived.Test.YtcbppkfnfbdkhaaMc
set_option linter.all false
set_option maxRecDepth 20000
set_option maxHeartbeats 4000000
namespace Go.Proofs.Ytcbppkfnfbdkhaa
open Go.RowKit Go.Shelf
def graB (d : Dir) (a : Est) (p place t : Int) : Prop := ∃ q, (estP a place = true ∧ q ∈ grS t place a.evs) ∧ q ∈ upwS d p t
noncomputable def rgrant_V (d : Dir) (a : Est) (p : Int) (place : Int) (t : Int) (Q : SV → Prop) : Σ' P : Prop, (P → ICt 160 [.agg (List.map .d (Dir.row d)), .agg (List.map .d (Est.row a)), .one (.d (.int .i64 p)), .one (.d (.int .i64 place)), .one (.d (.int .i64 t))] Q) := by
  apply mkV; intro hP
  refine ic_wk (K 33) Try.func160 rfl rfl rfl rfl (fun w0 => ?_)
  apply (v_kint (x := 2)); exact rfl; exact hP; clear hP; intro hP
  apply (v_kint (x := 3)); exact rfl; exact hP; clear hP; intro hP
  apply (v_kint (x := 4)); exact rfl; exact hP; clear hP; intro hP
  repeat' (first
    | ((fail_if_success (have hTest : Hld False := hP)); (have hq := chk_c hP); (replace hP := chk_p hP))
    | ((with_reducible apply j_lst); exact rfl)
    | (with_reducible (first | apply c_seq | apply c_rg | apply j_nil | apply q_n | apply c_ct | apply c_cf | apply c_bl | apply c_ex | apply c_ret | apply c_sk | apply q_r | apply q_e | apply b_r | apply b_e | apply b_n | apply n_n | apply n_r | apply n_e))
    | ((with_reducible apply v_lenstr); exact rfl; exact rfl; kernel_rfl)
    | ((with_reducible apply c_l1); exact rfl; exact rfl)
    | ((with_reducible apply c_l2); exact rfl; exact rfl)
    | ((with_reducible apply c_l3); exact rfl)
    | ((with_reducible apply j_v); exact rfl; exact rfl)
    | ((with_reducible apply j_h); exact rfl; exact rfl)
    | ((with_reducible apply v_lenm); exact rfl; exact rfl; exact rfl; (exact hP); clear hP; intro hP)
    | ((with_reducible apply v_lens); exact rfl; exact rfl; exact rfl; (exact hP); clear hP; intro hP)
    | ((with_reducible apply j_len); exact rfl; exact rfl; exact rfl)
    | ((with_reducible apply j_len0); exact rfl; exact rfl; exact rfl)
    | ((with_reducible apply j_ld_el1); exact rfl; exact rfl; exact rfl; exact rfl; (first | with_reducible assumption | exact gt_row (by omega) (by omega) | exact rfl); exact rfl)
    | ((with_reducible apply j_add); exact rfl; exact rfl; exact rfl; (first | (with_reducible apply wr_i64; (first | with_reducible assumption | (apply chk_c; exact hP; (first | (guard_target = Prop; rotate_left 1) | skip)))) | exact rfl))
    | ((with_reducible apply v_ia); exact rfl; exact rfl; exact rfl; exact rfl; (case inst => exact inferInstance); exact rfl; exact rfl; (first | with_reducible assumption | (apply chk_c; exact hP; (first | (guard_target = Prop; rotate_left 1) | skip))))
    | ((with_reducible apply v_iasl); exact rfl; exact rfl; exact rfl; exact rfl; (first | with_reducible assumption | (apply chk_c; exact hP; (first | (guard_target = Prop; rotate_left 1) | skip))))
    | ((with_reducible apply j_ia_ar); exact rfl; exact rfl; exact rfl; exact rfl; ((repeat ((fail_if_success (have hTest : Hld False := hP)); (have hq := chk_c hP); (replace hP := chk_p hP))); first | with_reducible assumption | (apply chk_c; exact hP; (first | (guard_target = Prop; rotate_left 1) | skip))); ((repeat ((fail_if_success (have hTest : Hld False := hP)); (have hq := chk_c hP); (replace hP := chk_p hP))); first | with_reducible assumption | (apply chk_c; exact hP; (first | (guard_target = Prop; rotate_left 1) | skip))); (first | with_reducible exact Int.toNat_natCast _ | exact rfl))
    | ((with_reducible apply c_c); exact rfl; (first | with_reducible assumption | with_reducible exact Eq.refl true | with_reducible exact Eq.refl false | (with_reducible refine not_t ?_; with_reducible assumption) | (with_reducible refine not_f ?_; with_reducible assumption) | (refine dec_t ?_; decide) | (refine dec_f ?_; decide)))
    | ((with_reducible apply b_o); exact rfl)
    | ((with_reducible apply r_g); exact rfl; (· repeat' (first | exact True.intro | refine And.intro ?_ ?_ | (show (_ : Nat) = _; (first | exact rfl | exact (List.length_map _).symm | omega | (simp only [List.length_set, List.length_map, List.length_append] <;> omega) | (simp; done))))); (exact hP.out))
    | ((with_reducible apply j_call (pu := false)); exact rfl; (first | (apply (sContains_ic _ _); rotate_left 2)); (focus ((repeat' (first | exact .nil _ | refine PsL.cons ?_ ?_ | refine PsSL.cons ?_ ?_ | exact .one (.d _ _) | exact .one psc_nilm | exact psc_nilm | exact .one (.nil _) | exact .one (.nn _) | exact .one (.tape _) | exact .one (.fn _ _) | exact .agg (.same _ _) | refine .agg ?_ | exact .d _ _ | exact .one (.sl rfl rfl) | exact .one (.sl rfl (List.length_map _).symm) | exact .sl rfl rfl | exact .sl rfl (List.length_map _).symm | exact .same _ _)) <;> fail)); exact .inr rfl)
    | ((with_reducible apply v_colp); exact rfl; exact ⟨rfl, rfl⟩; (first | (apply (Upward_ico _ _ _); rotate_left 3)); (focus ((repeat' (first | exact .nil _ | refine PsL.cons ?_ ?_ | refine PsSL.cons ?_ ?_ | exact .one (.d _ _) | exact .one psc_nilm | exact psc_nilm | exact .one (.nil _) | exact .one (.nn _) | exact .one (.tape _) | exact .one (.fn _ _) | exact .agg (.same _ _) | refine .agg ?_ | exact .d _ _ | exact .one (.sl rfl rfl) | exact .one (.sl rfl (List.length_map _).symm) | exact .sl rfl rfl | exact .sl rfl (List.length_map _).symm | exact .same _ _)) <;> fail)); exact (fun _ => rfl); exact rfl; (first | with_reducible assumption | (apply chk_c; exact hP; (first | (guard_target = Prop; rotate_left 1) | skip))))
    | ((with_reducible apply v_colp); exact rfl; exact ⟨rfl, rfl⟩; (first | (apply (Upward_ico ⟨_, _⟩ _ _); rotate_left 4; dsimp only [Dir.v_mk])); (focus ((repeat' (first | exact .nil _ | refine PsL.cons ?_ ?_ | refine PsSL.cons ?_ ?_ | exact .one (.d _ _) | exact .one psc_nilm | exact psc_nilm | exact .one (.nil _) | exact .one (.nn _) | exact .one (.tape _) | exact .one (.fn _ _) | exact .agg (.same _ _) | refine .agg ?_ | exact .d _ _ | exact .one (.sl rfl rfl) | exact .one (.sl rfl (List.length_map _).symm) | exact .sl rfl rfl | exact .sl rfl (List.length_map _).symm | exact .same _ _)) <;> fail)); exact (fun _ => rfl); exact rfl; (first | with_reducible assumption | (apply chk_c; exact hP; (first | (guard_target = Prop; rotate_left 1) | skip))))
    | ((with_reducible apply v_nd (pu := false)); exact rfl; (first | (apply (Granted_nd _ _ _); rotate_left 3)); (focus ((repeat' (first | exact .nil _ | refine PsL.cons ?_ ?_ | refine PsSL.cons ?_ ?_ | exact .one (.d _ _) | exact .one psc_nilm | exact psc_nilm | exact .one (.nil _) | exact .one (.nn _) | exact .one (.tape _) | exact .one (.fn _ _) | exact .agg (.same _ _) | refine .agg ?_ | exact .d _ _ | exact .one (.sl rfl rfl) | exact .one (.sl rfl (List.length_map _).symm) | exact .sl rfl rfl | exact .sl rfl (List.length_map _).symm | exact .same _ _)) <;> fail)); exact .inr (fun _ => rfl); (exact hP); clear hP; intro x hx hP)
    | ((with_reducible apply v_nd (pu := true)); exact rfl; (first | (apply (Granted_nd _ _ _); rotate_left 3)); (focus ((repeat' (first | exact .nil _ | refine PsL.cons ?_ ?_ | refine PsSL.cons ?_ ?_ | exact .one (.d _ _) | exact .one psc_nilm | exact psc_nilm | exact .one (.nil _) | exact .one (.nn _) | exact .one (.tape _) | exact .one (.fn _ _) | exact .agg (.same _ _) | refine .agg ?_ | exact .d _ _ | exact .one (.sl rfl rfl) | exact .one (.sl rfl (List.length_map _).symm) | exact .sl rfl rfl | exact .sl rfl (List.length_map _).symm | exact .same _ _)) <;> fail)); exact .inl rfl; (exact hP); clear hP; intro x hx hP)
    | ((with_reducible apply v_nd (pu := false)); exact rfl; (first | (apply (Granted_nd ⟨_, _⟩ _ _); rotate_left 4; dsimp only [Est.v_mk])); (focus ((repeat' (first | exact .nil _ | refine PsL.cons ?_ ?_ | refine PsSL.cons ?_ ?_ | exact .one (.d _ _) | exact .one psc_nilm | exact psc_nilm | exact .one (.nil _) | exact .one (.nn _) | exact .one (.tape _) | exact .one (.fn _ _) | exact .agg (.same _ _) | refine .agg ?_ | exact .d _ _ | exact .one (.sl rfl rfl) | exact .one (.sl rfl (List.length_map _).symm) | exact .sl rfl rfl | exact .sl rfl (List.length_map _).symm | exact .same _ _)) <;> fail)); exact .inr (fun _ => rfl); (exact hP); clear hP; intro x hx hP)
    | ((with_reducible apply v_nd (pu := true)); exact rfl; (first | (apply (Granted_nd ⟨_, _⟩ _ _); rotate_left 4; dsimp only [Est.v_mk])); (focus ((repeat' (first | exact .nil _ | refine PsL.cons ?_ ?_ | refine PsSL.cons ?_ ?_ | exact .one (.d _ _) | exact .one psc_nilm | exact psc_nilm | exact .one (.nil _) | exact .one (.nn _) | exact .one (.tape _) | exact .one (.fn _ _) | exact .agg (.same _ _) | refine .agg ?_ | exact .d _ _ | exact .one (.sl rfl rfl) | exact .one (.sl rfl (List.length_map _).symm) | exact .sl rfl rfl | exact .sl rfl (List.length_map _).symm | exact .same _ _)) <;> fail)); exact .inl rfl; (exact hP); clear hP; intro x hx hP)
    | ((with_reducible refine v_loopat (c := (.seq (.region 3 _ _) _)) ?_); (apply (v_loop1 _ [12, 22, 23] [18] (fun x1 => [(24, .one (.d (.int .i64 x1)))]) (fun x1 => []) [])); exact rfl; exact rfl; exact ⟨(by repeat' (first | exact .nil | exact .nil _ | refine .cons ?_ ?_ | exact .u _ | exact SVle_pl rfl | refine .one ?_ | refine .agg ?_ | exact .d rfl | exact .ref rfl rfl | exact .sl rfl (by first | rfl | omega | (rw [List.length_append, List.length_map]; show _ + 1 = _; omega) | simp) | exact .fn _ | exact .tape | exact .nils rfl | exact .nild | exact .nildm | exact .nil | exact .rp (by simp) | exact .clo (by simp) | exact .el rfl rfl rfl | exact .d (by first | rfl | (congr 1; omega) | (congr 1; assumption) | simp) | exact .virt rfl | exact .gone _ | refine .blk rfl ?_ | exact .arr rfl (by first | rfl | assumption | simp))), (by repeat' (first | exact .nil | exact .nil _ | refine .cons ?_ ?_ | exact .u _ | exact SVle_pl rfl | refine .one ?_ | refine .agg ?_ | exact .d rfl | exact .ref rfl rfl | exact .sl rfl (by first | rfl | omega | (rw [List.length_append, List.length_map]; show _ + 1 = _; omega) | simp) | exact .fn _ | exact .tape | exact .nils rfl | exact .nild | exact .nildm | exact .nil | exact .rp (by simp) | exact .clo (by simp) | exact .el rfl rfl rfl | exact .d (by first | rfl | (congr 1; omega) | (congr 1; assumption) | simp) | exact .virt rfl | exact .gone _ | refine .blk rfl ?_ | exact .arr rfl (by first | rfl | assumption | simp)))⟩; (exact hP); clear hP; intro I μ x1 hP)
    | ((with_reducible apply (v_nxt1 (a1 := _))); (repeat' (first | exact .nil | exact .nil _ | refine .cons ?_ ?_ | exact .u _ | exact SVle_pl rfl | refine .one ?_ | refine .agg ?_ | exact .d rfl | exact .ref rfl rfl | exact .sl rfl (by first | rfl | exact List.length_set.symm | exact (splT_len (by simp only [List.length_take, List.length_drop]; omega)).symm | omega | (rw [List.length_append, List.length_map]; show _ + 1 = _; omega) | simp) | exact .fn _ | exact .tape | exact .nils rfl | exact .nild | exact .nildm | exact .nil | exact .rp (by simp) | exact .clo (by simp) | exact .el rfl rfl rfl | exact .d (by first | rfl | (congr 1; omega) | (congr 1; assumption) | simp) | exact .virt rfl | exact .gone _ | refine .blk rfl ?_ | exact .arr rfl (by first | rfl | assumption | simp))); (repeat' (first | exact .nil | exact .nil _ | refine .cons ?_ ?_ | exact .u _ | exact SVle_pl rfl | refine .one ?_ | refine .agg ?_ | exact .d rfl | exact .ref rfl rfl | exact .sl rfl (by first | rfl | exact List.length_set.symm | exact (splT_len (by simp only [List.length_take, List.length_drop]; omega)).symm | omega | (rw [List.length_append, List.length_map]; show _ + 1 = _; omega) | simp) | exact .fn _ | exact .tape | exact .nils rfl | exact .nild | exact .nildm | exact .nil | exact .rp (by simp) | exact .clo (by simp) | exact .el rfl rfl rfl | exact .d (by first | rfl | (congr 1; omega) | (congr 1; assumption) | simp) | exact .virt rfl | exact .gone _ | refine .blk rfl ?_ | exact .arr rfl (by first | rfl | assumption | simp))); (exact hP))
    | ((with_reducible apply v_gs); exact rfl; exact rfl; (exact hP); all_goals (clear hP; intro hg hP))
    | ((with_reducible apply v_if); exact rfl; (exact hP); all_goals (clear hP; intro hc hP)))
open Classical in
theorem rgrant_nd (d : Dir) (a : Est) (p place t : Int) : ICt 160 [d.v, a.v, iv p, iv place, iv t] (ND (fun x : Int × Bool => x.2 = decide (graB d a p place t)) (fun x => .tup [iv x.1, bv x.2])) := (rgrant_V d a p place t _).2 (by
  (delta rgrant_V; dsimp only [mkV])
  (repeat' (first | with_reducible refine brn_nd (fun h => ?_) (fun h => ?_) | with_reducible refine brn_d (fun h => ?_) (fun h => ?_) | with_reducible refine brn_nn (fun h => ?_) (fun h => ?_) | with_reducible refine brn_nb (fun h => ?_) (fun h => ?_) | with_reducible refine Brn.mk (fun h => ?_) (fun h => ?_) | with_reducible refine Chk.mk ?_ ?_ | with_reducible refine Bth.mk ?_ ?_ | with_reducible refine Fct.mk (fun hf => ?_)))
  · exact True.intro
  intro x hx
  refine Fct.mk fun hl => ?_
  refine up1 (fun z => ∀ k : Nat, (k : Int) < z → gt x (k : Int) ∉ upwS d p t) (by omega) (fun k hk => by omega) (fun I μ z h0 h1 hj nx => ?_) (fun I μ hj => ?_)
  · (repeat' (first | with_reducible refine brn_nd (fun h => ?_) (fun h => ?_) | with_reducible refine brn_d (fun h => ?_) (fun h => ?_) | with_reducible refine brn_nn (fun h => ?_) (fun h => ?_) | with_reducible refine brn_nb (fun h => ?_) (fun h => ?_) | with_reducible refine Brn.mk (fun h => ?_) (fun h => ?_) | with_reducible refine Chk.mk ?_ ?_ | with_reducible refine Bth.mk ?_ ?_ | with_reducible refine Fct.mk (fun hf => ?_)))
    · exact ⟨h0, h1⟩
    · refine ⟨(gt x z, true), ?_, rfl⟩
      have hm : gt x z ∈ upwS d p t := by have : hasB (upwS d p t) (gt x z) = true := by assumption
                                          simpa [hasB] using this
      exact (decide_eq_true ⟨_, (hx _).1 (gt_mem h0 h1), hm⟩).symm
    · unfold InI; omega
    · refine nx fun k hk => ?_
      by_cases e : (k : Int) < z
      · exact hj k e
      · have : (k : Int) = z := by omega
        rw [this]
        have : hasB (upwS d p t) (gt x z) = false := by assumption
        simpa [hasB] using this
  · refine ⟨(0, false), ?_, rfl⟩
    refine (decide_eq_false ?_).symm
    rintro ⟨q, hq, hu⟩
    obtain ⟨k, hk, e⟩ := mem_gt ((hx q).2 hq)
    subst e
    exact hj k (by omega) hu)
open Classical in
noncomputable def mayS (d : Dir) (a : Est) (p place t : Int) : Bool := fineB d a p place && ((linkS a place t).2 || decide (graB d a p place t))
noncomputable def rmay_V (d : Dir) (a : Est) (p : Int) (place : Int) (t : Int) (Q : SV → Prop) : Σ' P : Prop, (P → ICt 120 [.agg (List.map .d (Dir.row d)), .agg (List.map .d (Est.row a)), .one (.d (.int .i64 p)), .one (.d (.int .i64 place)), .one (.d (.int .i64 t))] Q) := by
  apply mkV; intro hP
  refine ic_wk (K 41) Try.func120 rfl rfl rfl rfl (fun w0 => ?_)
  apply (v_kint (x := 2)); exact rfl; exact hP; clear hP; intro hP
  apply (v_kint (x := 3)); exact rfl; exact hP; clear hP; intro hP
  apply (v_kint (x := 4)); exact rfl; exact hP; clear hP; intro hP
  repeat' (first
    | ((fail_if_success (have hTest : Hld False := hP)); (have hq := chk_c hP); (replace hP := chk_p hP))
    | ((with_reducible apply j_lst); exact rfl)
    | (with_reducible (first | apply c_seq | apply c_rg | apply j_nil | apply q_n | apply g_tt | apply g_ff | apply c_ct | apply c_cf | apply c_bl | apply c_ex | apply c_ret | apply c_sk | apply q_r | apply q_e | apply b_r | apply b_e | apply b_n | apply n_n | apply n_r | apply n_e))
    | ((with_reducible apply c_l1); exact rfl; exact rfl)
    | ((with_reducible apply c_l2); exact rfl; exact rfl)
    | ((with_reducible apply c_l3); exact rfl)
    | ((with_reducible apply j_v); exact rfl; exact rfl)
    | ((with_reducible apply j_h); exact rfl; exact rfl)
    | ((with_reducible apply j_g); exact rfl; exact rfl; (first | with_reducible assumption | with_reducible exact Eq.refl true | with_reducible exact Eq.refl false | (with_reducible refine not_t ?_; with_reducible assumption) | (with_reducible refine not_f ?_; with_reducible assumption) | (refine dec_t ?_; decide) | (refine dec_f ?_; decide)))
    | ((with_reducible apply g_tf); exact rfl)
    | ((with_reducible apply g_ft); exact rfl)
    | ((with_reducible apply j_gz); exact rfl; exact rfl; exact rfl)
    | ((with_reducible apply j_pk); exact rfl; exact rfl; (first | with_reducible assumption | with_reducible exact Eq.refl true | with_reducible exact Eq.refl false | (with_reducible refine not_t ?_; with_reducible assumption) | (with_reducible refine not_f ?_; with_reducible assumption) | (refine dec_t ?_; decide) | (refine dec_f ?_; decide)); exact rfl)
    | ((with_reducible apply c_c); exact rfl; (first | with_reducible assumption | with_reducible exact Eq.refl true | with_reducible exact Eq.refl false | (with_reducible refine not_t ?_; with_reducible assumption) | (with_reducible refine not_f ?_; with_reducible assumption) | (refine dec_t ?_; decide) | (refine dec_f ?_; decide)))
    | ((with_reducible apply b_o); exact rfl)
    | ((with_reducible apply r_g); exact rfl; (· repeat' (first | exact True.intro | refine And.intro ?_ ?_ | (show (_ : Nat) = _; (first | exact rfl | exact (List.length_map _).symm | omega | (simp only [List.length_set, List.length_map, List.length_append] <;> omega) | (simp; done))))); (exact hP.out))
    | ((with_reducible apply j_call (pu := false)); exact rfl; (first | (apply (Linked_ic _ _ _); rotate_left 3) | (apply (rfine_ic _ _ _ _); rotate_left 4)); (focus ((repeat' (first | exact .nil _ | refine PsL.cons ?_ ?_ | refine PsSL.cons ?_ ?_ | exact .one (.d _ _) | exact .one psc_nilm | exact psc_nilm | exact .one (.nil _) | exact .one (.nn _) | exact .one (.tape _) | exact .one (.fn _ _) | exact .agg (.same _ _) | refine .agg ?_ | exact .d _ _ | exact .one (.sl rfl rfl) | exact .one (.sl rfl (List.length_map _).symm) | exact .sl rfl rfl | exact .sl rfl (List.length_map _).symm | exact .same _ _)) <;> fail)); exact .inr rfl)
    | ((with_reducible apply j_call (pu := false)); exact rfl; (first | (apply (Linked_ic ⟨_, _⟩ _ _); rotate_left 4; dsimp only [Est.v_mk]) | (apply (rfine_ic ⟨_, _⟩ ⟨_, _⟩ _ _); rotate_left 6; dsimp only [Dir.v_mk, Est.v_mk])); (focus ((repeat' (first | exact .nil _ | refine PsL.cons ?_ ?_ | refine PsSL.cons ?_ ?_ | exact .one (.d _ _) | exact .one psc_nilm | exact psc_nilm | exact .one (.nil _) | exact .one (.nn _) | exact .one (.tape _) | exact .one (.fn _ _) | exact .agg (.same _ _) | refine .agg ?_ | exact .d _ _ | exact .one (.sl rfl rfl) | exact .one (.sl rfl (List.length_map _).symm) | exact .sl rfl rfl | exact .sl rfl (List.length_map _).symm | exact .same _ _)) <;> fail)); exact .inr rfl)
    | ((with_reducible apply v_nd (pu := false)); exact rfl; (first | (apply (rgrant_nd _ _ _ _ _); rotate_left 5)); (focus ((repeat' (first | exact .nil _ | refine PsL.cons ?_ ?_ | refine PsSL.cons ?_ ?_ | exact .one (.d _ _) | exact .one psc_nilm | exact psc_nilm | exact .one (.nil _) | exact .one (.nn _) | exact .one (.tape _) | exact .one (.fn _ _) | exact .agg (.same _ _) | refine .agg ?_ | exact .d _ _ | exact .one (.sl rfl rfl) | exact .one (.sl rfl (List.length_map _).symm) | exact .sl rfl rfl | exact .sl rfl (List.length_map _).symm | exact .same _ _)) <;> fail)); exact .inr (fun _ => rfl); (exact hP); clear hP; intro x hx hP)
    | ((with_reducible apply v_nd (pu := true)); exact rfl; (first | (apply (rgrant_nd _ _ _ _ _); rotate_left 5)); (focus ((repeat' (first | exact .nil _ | refine PsL.cons ?_ ?_ | refine PsSL.cons ?_ ?_ | exact .one (.d _ _) | exact .one psc_nilm | exact psc_nilm | exact .one (.nil _) | exact .one (.nn _) | exact .one (.tape _) | exact .one (.fn _ _) | exact .agg (.same _ _) | refine .agg ?_ | exact .d _ _ | exact .one (.sl rfl rfl) | exact .one (.sl rfl (List.length_map _).symm) | exact .sl rfl rfl | exact .sl rfl (List.length_map _).symm | exact .same _ _)) <;> fail)); exact .inl rfl; (exact hP); clear hP; intro x hx hP)
    | ((with_reducible apply v_nd (pu := false)); exact rfl; (first | (apply (rgrant_nd ⟨_, _⟩ ⟨_, _⟩ _ _ _); rotate_left 7; dsimp only [Dir.v_mk, Est.v_mk])); (focus ((repeat' (first | exact .nil _ | refine PsL.cons ?_ ?_ | refine PsSL.cons ?_ ?_ | exact .one (.d _ _) | exact .one psc_nilm | exact psc_nilm | exact .one (.nil _) | exact .one (.nn _) | exact .one (.tape _) | exact .one (.fn _ _) | exact .agg (.same _ _) | refine .agg ?_ | exact .d _ _ | exact .one (.sl rfl rfl) | exact .one (.sl rfl (List.length_map _).symm) | exact .sl rfl rfl | exact .sl rfl (List.length_map _).symm | exact .same _ _)) <;> fail)); exact .inr (fun _ => rfl); (exact hP); clear hP; intro x hx hP)
    | ((with_reducible apply v_nd (pu := true)); exact rfl; (first | (apply (rgrant_nd ⟨_, _⟩ ⟨_, _⟩ _ _ _); rotate_left 7; dsimp only [Dir.v_mk, Est.v_mk])); (focus ((repeat' (first | exact .nil _ | refine PsL.cons ?_ ?_ | refine PsSL.cons ?_ ?_ | exact .one (.d _ _) | exact .one psc_nilm | exact psc_nilm | exact .one (.nil _) | exact .one (.nn _) | exact .one (.tape _) | exact .one (.fn _ _) | exact .agg (.same _ _) | refine .agg ?_ | exact .d _ _ | exact .one (.sl rfl rfl) | exact .one (.sl rfl (List.length_map _).symm) | exact .sl rfl rfl | exact .sl rfl (List.length_map _).symm | exact .same _ _)) <;> fail)); exact .inl rfl; (exact hP); clear hP; intro x hx hP)
    | ((with_reducible apply v_gs); exact rfl; exact rfl; (exact hP); all_goals (clear hP; intro hg hP))
    | ((with_reducible apply v_if); exact rfl; (exact hP); all_goals (clear hP; intro hc hP)))
theorem rmay_ic (d : Dir) (a : Est) (p place t : Int) : ICt 120 [d.v, a.v, iv p, iv place, iv t] (fun v => v = bv (mayS d a p place t)) := (rmay_V d a p place t _).2 (by
  (delta rmay_V; dsimp only [mkV])
  (repeat' (first | with_reducible refine brn_nd (fun h => ?_) (fun h => ?_) | with_reducible refine brn_d (fun h => ?_) (fun h => ?_) | with_reducible refine brn_nn (fun h => ?_) (fun h => ?_) | with_reducible refine brn_nb (fun h => ?_) (fun h => ?_) | with_reducible refine Brn.mk (fun h => ?_) (fun h => ?_) | with_reducible refine Chk.mk ?_ ?_ | with_reducible refine Bth.mk ?_ ?_ | with_reducible refine Fct.mk (fun hf => ?_)))
  · rw [mayS, (by assumption : fineB d a p place = false)]; rfl
  · have hf : fineB d a p place = true := by assumption
    intro x hx
    rw [mayS, hf]
    refine ⟨fun h => ?_, fun h => ?_⟩
    · rw [h]; rfl
    · rw [h, hx]; rfl)
theorem find_at {α : Type} [Inhabited α] {l : List α} {q : α → Bool} {z : Int} (h0 : 0 ≤ z) (h1 : z < l.length) (h : l.find? q = (l.drop z.toNat).find? q) : (q (gt l z) = true → l.find? q = some (gt l z)) ∧ (q (gt l z) = false → l.find? q = (l.drop (z + 1).toNat).find? q) := by
  rw [show (z + 1).toNat = z.toNat + 1 by omega, gt_eq (xs := l) (by omega)]
  rw [List.drop_eq_getElem_cons (by omega)] at h
  exact ⟨fun hc => by rw [h, List.find?_cons_of_pos hc], fun hc => by rw [h, List.find?_cons_of_neg (by simp [hc])]⟩
theorem find_end {α : Type} {l : List α} {q : α → Bool} (h : l.find? q = (l.drop ((l.length : Nat) : Int).toNat).find? q) : l.find? q = none := by
  rw [h, show ((l.length : Nat) : Int).toNat = l.length from rfl, List.drop_length]; rfl
def xckS (d : Dir) (a : Est) (c : Int) : Int := if rckS d a = 0 then (if inB c 0 63 = true then 0 else 2) else rckS d a
noncomputable def xcheck_V (d : Dir) (a : Est) (c : Int) (Q : SV → Prop) : Σ' P : Prop, (P → ICt 58 [.agg (List.map .d (Dir.row d)), .agg (List.map .d (Est.row a)), .one (.d (.int .i64 c))] Q) := by
  apply mkV; intro hP
  refine ic_wk (K 17) Try.func58 rfl rfl rfl rfl (fun w0 => ?_)
  apply (v_kint (x := 2)); exact rfl; exact hP; clear hP; intro hP
  repeat' (first
    | ((fail_if_success (have hTest : Hld False := hP)); (have hq := chk_c hP); (replace hP := chk_p hP))
    | ((with_reducible apply j_lst); exact rfl)
    | (with_reducible (first | apply c_seq | apply c_rg | apply j_nil | apply q_n | apply c_ct | apply c_cf | apply c_bl | apply c_ex | apply c_ret | apply c_sk | apply q_r | apply q_e | apply b_r | apply b_e | apply b_n | apply n_n | apply n_r | apply n_e))
    | ((with_reducible apply c_l1); exact rfl; exact rfl)
    | ((with_reducible apply c_l2); exact rfl; exact rfl)
    | ((with_reducible apply c_l3); exact rfl)
    | ((with_reducible apply j_v); exact rfl; exact rfl)
    | ((with_reducible apply j_h); exact rfl; exact rfl)
    | ((with_reducible apply c_c); exact rfl; (first | with_reducible assumption | with_reducible exact Eq.refl true | with_reducible exact Eq.refl false | (with_reducible refine not_t ?_; with_reducible assumption) | (with_reducible refine not_f ?_; with_reducible assumption) | (refine dec_t ?_; decide) | (refine dec_f ?_; decide)))
    | ((with_reducible apply b_o); exact rfl)
    | ((with_reducible apply r_g); exact rfl; (· repeat' (first | exact True.intro | refine And.intro ?_ ?_ | (show (_ : Nat) = _; (first | exact rfl | exact (List.length_map _).symm | omega | (simp only [List.length_set, List.length_map, List.length_append] <;> omega) | (simp; done))))); (exact hP.out))
    | ((with_reducible apply j_call (pu := false)); exact rfl; (first | (apply (acont_ic _); rotate_left 1) | (apply (rCheck_ic _ _); rotate_left 2)); (focus ((repeat' (first | exact .nil _ | refine PsL.cons ?_ ?_ | refine PsSL.cons ?_ ?_ | exact .one (.d _ _) | exact .one psc_nilm | exact psc_nilm | exact .one (.nil _) | exact .one (.nn _) | exact .one (.tape _) | exact .one (.fn _ _) | exact .agg (.same _ _) | refine .agg ?_ | exact .d _ _ | exact .one (.sl rfl rfl) | exact .one (.sl rfl (List.length_map _).symm) | exact .sl rfl rfl | exact .sl rfl (List.length_map _).symm | exact .same _ _)) <;> fail)); exact .inr rfl)
    | ((with_reducible apply j_call (pu := false)); exact rfl; (first | (apply (rCheck_ic ⟨_, _⟩ ⟨_, _⟩); rotate_left 4; dsimp only [Dir.v_mk, Est.v_mk])); (focus ((repeat' (first | exact .nil _ | refine PsL.cons ?_ ?_ | refine PsSL.cons ?_ ?_ | exact .one (.d _ _) | exact .one psc_nilm | exact psc_nilm | exact .one (.nil _) | exact .one (.nn _) | exact .one (.tape _) | exact .one (.fn _ _) | exact .agg (.same _ _) | refine .agg ?_ | exact .d _ _ | exact .one (.sl rfl rfl) | exact .one (.sl rfl (List.length_map _).symm) | exact .sl rfl rfl | exact .sl rfl (List.length_map _).symm | exact .same _ _)) <;> fail)); exact .inr rfl)
    | ((with_reducible apply v_gs); exact rfl; exact rfl; (exact hP); all_goals (clear hP; intro hg hP))
    | ((with_reducible apply v_if); exact rfl; (exact hP); all_goals (clear hP; intro hc hP)))
theorem xcheck_ic (d : Dir) (a : Est) (c : Int) : ICt 58 [d.v, a.v, iv c] (fun v => v = iv (xckS d a c)) := (xcheck_V d a c _).2 (by
  (delta xcheck_V; dsimp only [mkV])
  (repeat' (first | with_reducible refine brn_nd (fun h => ?_) (fun h => ?_) | with_reducible refine brn_d (fun h => ?_) (fun h => ?_) | with_reducible refine brn_nn (fun h => ?_) (fun h => ?_) | with_reducible refine brn_nb (fun h => ?_) (fun h => ?_) | with_reducible refine Brn.mk (fun h => ?_) (fun h => ?_) | with_reducible refine Chk.mk ?_ ?_ | with_reducible refine Bth.mk ?_ ?_ | with_reducible refine Fct.mk (fun hf => ?_)))
  all_goals first | (unfold xckS; simp_all; done) | trace_state)
noncomputable def canB (d : Dir) (a : Est) (p t x : Int) : Bool := if p = -1 then (linkS a x t).2 else mayS d a p x t
noncomputable def plS (d : Dir) (a : Est) (c p t : Int) : Int × Bool := match (whereS a c t).find? (canB d a p t) with | some x => (x, true) | none => (0, false)
noncomputable def xplace_V (d : Dir) (a : Est) (c : Int) (p : Int) (t : Int) (Q : SV → Prop) : Σ' P : Prop, (P → ICt 64 [.agg (List.map .d (Dir.row d)), .agg (List.map .d (Est.row a)), .one (.d (.int .i64 c)), .one (.d (.int .i64 p)), .one (.d (.int .i64 t))] Q) := by
  apply mkV; intro hP
  refine ic_wk (K 51) Try.func64 rfl rfl rfl rfl (fun w0 => ?_)
  apply (v_kint (x := 2)); exact rfl; exact hP; clear hP; intro hP
  apply (v_kint (x := 3)); exact rfl; exact hP; clear hP; intro hP
  apply (v_kint (x := 4)); exact rfl; exact hP; clear hP; intro hP
  repeat' (first
    | ((fail_if_success (have hTest : Hld False := hP)); (have hq := chk_c hP); (replace hP := chk_p hP))
    | ((with_reducible apply j_lst); exact rfl)
    | (with_reducible (first | apply c_seq | apply c_rg | apply j_nil | apply q_n | apply g_tt | apply g_ff | apply c_ct | apply c_cf | apply c_bl | apply c_ex | apply c_ret | apply c_sk | apply q_r | apply q_e | apply b_r | apply b_e | apply b_n | apply n_n | apply n_r | apply n_e))
    | ((with_reducible apply v_lenstr); exact rfl; exact rfl; kernel_rfl)
    | ((with_reducible apply c_l1); exact rfl; exact rfl)
    | ((with_reducible apply c_l2); exact rfl; exact rfl)
    | ((with_reducible apply c_l3); exact rfl)
    | ((with_reducible apply j_v); exact rfl; exact rfl)
    | ((with_reducible apply j_h); exact rfl; exact rfl)
    | ((with_reducible apply j_g); exact rfl; exact rfl; (first | with_reducible assumption | with_reducible exact Eq.refl true | with_reducible exact Eq.refl false | (with_reducible refine not_t ?_; with_reducible assumption) | (with_reducible refine not_f ?_; with_reducible assumption) | (refine dec_t ?_; decide) | (refine dec_f ?_; decide)))
    | ((with_reducible apply g_tf); exact rfl)
    | ((with_reducible apply g_ft); exact rfl)
    | ((with_reducible apply j_gz); exact rfl; exact rfl; exact rfl)
    | ((with_reducible apply v_lenm); exact rfl; exact rfl; exact rfl; (exact hP); clear hP; intro hP)
    | ((with_reducible apply v_lens); exact rfl; exact rfl; exact rfl; (exact hP); clear hP; intro hP)
    | ((with_reducible apply j_len); exact rfl; exact rfl; exact rfl)
    | ((with_reducible apply j_len0); exact rfl; exact rfl; exact rfl)
    | ((with_reducible apply j_pk); exact rfl; exact rfl; (first | with_reducible assumption | with_reducible exact Eq.refl true | with_reducible exact Eq.refl false | (with_reducible refine not_t ?_; with_reducible assumption) | (with_reducible refine not_f ?_; with_reducible assumption) | (refine dec_t ?_; decide) | (refine dec_f ?_; decide)); exact rfl)
    | ((with_reducible apply j_ld_el1); exact rfl; exact rfl; exact rfl; exact rfl; (first | with_reducible assumption | exact gt_row (by omega) (by omega) | exact rfl); exact rfl)
    | ((with_reducible apply j_add); exact rfl; exact rfl; exact rfl; (first | (with_reducible apply wr_i64; (first | with_reducible assumption | (apply chk_c; exact hP; (first | (guard_target = Prop; rotate_left 1) | skip)))) | exact rfl))
    | ((with_reducible apply v_ia); exact rfl; exact rfl; exact rfl; exact rfl; (case inst => exact inferInstance); exact rfl; exact rfl; (first | with_reducible assumption | (apply chk_c; exact hP; (first | (guard_target = Prop; rotate_left 1) | skip))))
    | ((with_reducible apply v_iasl); exact rfl; exact rfl; exact rfl; exact rfl; (first | with_reducible assumption | (apply chk_c; exact hP; (first | (guard_target = Prop; rotate_left 1) | skip))))
    | ((with_reducible apply j_ia_ar); exact rfl; exact rfl; exact rfl; exact rfl; ((repeat ((fail_if_success (have hTest : Hld False := hP)); (have hq := chk_c hP); (replace hP := chk_p hP))); first | with_reducible assumption | (apply chk_c; exact hP; (first | (guard_target = Prop; rotate_left 1) | skip))); ((repeat ((fail_if_success (have hTest : Hld False := hP)); (have hq := chk_c hP); (replace hP := chk_p hP))); first | with_reducible assumption | (apply chk_c; exact hP; (first | (guard_target = Prop; rotate_left 1) | skip))); (first | with_reducible exact Int.toNat_natCast _ | exact rfl))
    | ((with_reducible apply c_c); exact rfl; (first | with_reducible assumption | with_reducible exact Eq.refl true | with_reducible exact Eq.refl false | (with_reducible refine not_t ?_; with_reducible assumption) | (with_reducible refine not_f ?_; with_reducible assumption) | (refine dec_t ?_; decide) | (refine dec_f ?_; decide)))
    | ((with_reducible apply b_o); exact rfl)
    | ((with_reducible apply r_g); exact rfl; (· repeat' (first | exact True.intro | refine And.intro ?_ ?_ | (show (_ : Nat) = _; (first | exact rfl | exact (List.length_map _).symm | omega | (simp only [List.length_set, List.length_map, List.length_append] <;> omega) | (simp; done))))); (exact hP.out))
    | ((with_reducible apply j_call (pu := true)); exact rfl; (first | (apply (Where_ic _ _ _); rotate_left 3)); (focus ((repeat' (first | exact .nil _ | refine PsL.cons ?_ ?_ | refine PsSL.cons ?_ ?_ | exact .one (.d _ _) | exact .one psc_nilm | exact psc_nilm | exact .one (.nil _) | exact .one (.nn _) | exact .one (.tape _) | exact .one (.fn _ _) | exact .agg (.same _ _) | refine .agg ?_ | exact .d _ _ | exact .one (.sl rfl rfl) | exact .one (.sl rfl (List.length_map _).symm) | exact .sl rfl rfl | exact .sl rfl (List.length_map _).symm | exact .same _ _)) <;> fail)); exact .inl rfl)
    | ((with_reducible apply j_call (pu := true)); exact rfl; (first | (apply (Where_ic ⟨_, _⟩ _ _); rotate_left 4; dsimp only [Est.v_mk])); (focus ((repeat' (first | exact .nil _ | refine PsL.cons ?_ ?_ | refine PsSL.cons ?_ ?_ | exact .one (.d _ _) | exact .one psc_nilm | exact psc_nilm | exact .one (.nil _) | exact .one (.nn _) | exact .one (.tape _) | exact .one (.fn _ _) | exact .agg (.same _ _) | refine .agg ?_ | exact .d _ _ | exact .one (.sl rfl rfl) | exact .one (.sl rfl (List.length_map _).symm) | exact .sl rfl rfl | exact .sl rfl (List.length_map _).symm | exact .same _ _)) <;> fail)); exact .inl rfl)
    | ((with_reducible apply j_call (pu := false)); exact rfl; (first | (apply (Linked_ic _ _ _); rotate_left 3) | (apply (rmay_ic _ _ _ _ _); rotate_left 5)); (focus ((repeat' (first | exact .nil _ | refine PsL.cons ?_ ?_ | refine PsSL.cons ?_ ?_ | exact .one (.d _ _) | exact .one psc_nilm | exact psc_nilm | exact .one (.nil _) | exact .one (.nn _) | exact .one (.tape _) | exact .one (.fn _ _) | exact .agg (.same _ _) | refine .agg ?_ | exact .d _ _ | exact .one (.sl rfl rfl) | exact .one (.sl rfl (List.length_map _).symm) | exact .sl rfl rfl | exact .sl rfl (List.length_map _).symm | exact .same _ _)) <;> fail)); exact .inr rfl)
    | ((with_reducible apply j_call (pu := false)); exact rfl; (first | (apply (Linked_ic ⟨_, _⟩ _ _); rotate_left 4; dsimp only [Est.v_mk]) | (apply (rmay_ic ⟨_, _⟩ ⟨_, _⟩ _ _ _); rotate_left 7; dsimp only [Dir.v_mk, Est.v_mk])); (focus ((repeat' (first | exact .nil _ | refine PsL.cons ?_ ?_ | refine PsSL.cons ?_ ?_ | exact .one (.d _ _) | exact .one psc_nilm | exact psc_nilm | exact .one (.nil _) | exact .one (.nn _) | exact .one (.tape _) | exact .one (.fn _ _) | exact .agg (.same _ _) | refine .agg ?_ | exact .d _ _ | exact .one (.sl rfl rfl) | exact .one (.sl rfl (List.length_map _).symm) | exact .sl rfl rfl | exact .sl rfl (List.length_map _).symm | exact .same _ _)) <;> fail)); exact .inr rfl)
    | ((with_reducible refine v_loopat (c := (.seq (.region 2 _ _) _)) ?_); (apply (v_loop1 _ [3, 4, 5, 6, 19, 20] [5, 6] (fun x1 => [(21, .one (.d (.int .i64 x1)))]) (fun x1 => []) [])); exact rfl; exact rfl; exact ⟨(by repeat' (first | exact .nil | exact .nil _ | refine .cons ?_ ?_ | exact .u _ | exact SVle_pl rfl | refine .one ?_ | refine .agg ?_ | exact .d rfl | exact .ref rfl rfl | exact .sl rfl (by first | rfl | omega | (rw [List.length_append, List.length_map]; show _ + 1 = _; omega) | simp) | exact .fn _ | exact .tape | exact .nils rfl | exact .nild | exact .nildm | exact .nil | exact .rp (by simp) | exact .clo (by simp) | exact .el rfl rfl rfl | exact .d (by first | rfl | (congr 1; omega) | (congr 1; assumption) | simp) | exact .virt rfl | exact .gone _ | refine .blk rfl ?_ | exact .arr rfl (by first | rfl | assumption | simp))), (by repeat' (first | exact .nil | exact .nil _ | refine .cons ?_ ?_ | exact .u _ | exact SVle_pl rfl | refine .one ?_ | refine .agg ?_ | exact .d rfl | exact .ref rfl rfl | exact .sl rfl (by first | rfl | omega | (rw [List.length_append, List.length_map]; show _ + 1 = _; omega) | simp) | exact .fn _ | exact .tape | exact .nils rfl | exact .nild | exact .nildm | exact .nil | exact .rp (by simp) | exact .clo (by simp) | exact .el rfl rfl rfl | exact .d (by first | rfl | (congr 1; omega) | (congr 1; assumption) | simp) | exact .virt rfl | exact .gone _ | refine .blk rfl ?_ | exact .arr rfl (by first | rfl | assumption | simp)))⟩; (exact hP); clear hP; intro I μ x1 hP)
    | ((with_reducible apply (v_nxt1 (a1 := _))); (repeat' (first | exact .nil | exact .nil _ | refine .cons ?_ ?_ | exact .u _ | exact SVle_pl rfl | refine .one ?_ | refine .agg ?_ | exact .d rfl | exact .ref rfl rfl | exact .sl rfl (by first | rfl | exact List.length_set.symm | exact (splT_len (by simp only [List.length_take, List.length_drop]; omega)).symm | omega | (rw [List.length_append, List.length_map]; show _ + 1 = _; omega) | simp) | exact .fn _ | exact .tape | exact .nils rfl | exact .nild | exact .nildm | exact .nil | exact .rp (by simp) | exact .clo (by simp) | exact .el rfl rfl rfl | exact .d (by first | rfl | (congr 1; omega) | (congr 1; assumption) | simp) | exact .virt rfl | exact .gone _ | refine .blk rfl ?_ | exact .arr rfl (by first | rfl | assumption | simp))); (repeat' (first | exact .nil | exact .nil _ | refine .cons ?_ ?_ | exact .u _ | exact SVle_pl rfl | refine .one ?_ | refine .agg ?_ | exact .d rfl | exact .ref rfl rfl | exact .sl rfl (by first | rfl | exact List.length_set.symm | exact (splT_len (by simp only [List.length_take, List.length_drop]; omega)).symm | omega | (rw [List.length_append, List.length_map]; show _ + 1 = _; omega) | simp) | exact .fn _ | exact .tape | exact .nils rfl | exact .nild | exact .nildm | exact .nil | exact .rp (by simp) | exact .clo (by simp) | exact .el rfl rfl rfl | exact .d (by first | rfl | (congr 1; omega) | (congr 1; assumption) | simp) | exact .virt rfl | exact .gone _ | refine .blk rfl ?_ | exact .arr rfl (by first | rfl | assumption | simp))); (exact hP))
    | ((with_reducible apply v_gs); exact rfl; exact rfl; (exact hP); all_goals (clear hP; intro hg hP))
    | ((with_reducible apply v_if); exact rfl; (exact hP); all_goals (clear hP; intro hc hP)))
theorem xplace_ic (d : Dir) (a : Est) (c p t : Int) : ICt 64 [d.v, a.v, iv c, iv p, iv t] (fun v => v = .tup [iv (plS d a c p t).1, bv (plS d a c p t).2]) := (xplace_V d a c p t _).2 (by
  (delta xplace_V; dsimp only [mkV])
  (repeat' (first | with_reducible refine brn_nd (fun h => ?_) (fun h => ?_) | with_reducible refine brn_d (fun h => ?_) (fun h => ?_) | with_reducible refine brn_nn (fun h => ?_) (fun h => ?_) | with_reducible refine brn_nb (fun h => ?_) (fun h => ?_) | with_reducible refine Brn.mk (fun h => ?_) (fun h => ?_) | with_reducible refine Chk.mk ?_ ?_ | with_reducible refine Bth.mk ?_ ?_ | with_reducible refine Fct.mk (fun hf => ?_)))
  have hgo : ∀ z : Int, 0 ≤ z → z < (whereS a c t).length → (whereS a c t).find? (canB d a p t) = ((whereS a c t).drop z.toNat).find? (canB d a p t) → (canB d a p t (gt (whereS a c t) z) = true → plS d a c p t = (gt (whereS a c t) z, true)) ∧ (canB d a p t (gt (whereS a c t) z) = false → (whereS a c t).find? (canB d a p t) = ((whereS a c t).drop (z + 1).toNat).find? (canB d a p t)) := fun z h0 h1 h => by
    rw [show (z + 1).toNat = z.toNat + 1 by omega, gt_eq (xs := whereS a c t) (by omega)]
    rw [List.drop_eq_getElem_cons (by omega)] at h
    refine ⟨fun hc => ?_, fun hc => ?_⟩
    · rw [List.find?_cons_of_pos hc] at h
      unfold plS; rw [h]
    · rw [List.find?_cons_of_neg (by simp [hc])] at h
      exact h
  refine up1 (fun z => (whereS a c t).find? (canB d a p t) = ((whereS a c t).drop z.toNat).find? (canB d a p t)) (by omega) rfl (fun I μ z h0 h1 hj nx => ?_) (fun I μ hj => ?_)
  · obtain ⟨q1, q2⟩ := hgo z h0 h1 hj
    (repeat' (first | with_reducible refine brn_nd (fun h => ?_) (fun h => ?_) | with_reducible refine brn_d (fun h => ?_) (fun h => ?_) | with_reducible refine brn_nn (fun h => ?_) (fun h => ?_) | with_reducible refine brn_nb (fun h => ?_) (fun h => ?_) | with_reducible refine Brn.mk (fun h => ?_) (fun h => ?_) | with_reducible refine Chk.mk ?_ ?_ | with_reducible refine Bth.mk ?_ ?_ | with_reducible refine Fct.mk (fun hf => ?_)))
    · exact ⟨h0, h1⟩
    all_goals first | (unfold InI; omega) | skip
    · rw [q1 (by unfold canB; rw [if_pos (by assumption)]; assumption)]
    · exact nx (q2 (by unfold canB; rw [if_pos (by assumption)]; assumption))
    · rw [q1 (by unfold canB; rw [if_neg (by assumption)]; assumption)]
    · exact nx (q2 (by unfold canB; rw [if_neg (by assumption)]; assumption))
  · rw [show (((whereS a c t).length : Nat) : Int).toNat = (whereS a c t).length from rfl, List.drop_length] at hj
    unfold plS; rw [hj]; rfl)
noncomputable def alltS (d : Dir) (a : Est) : List Int := Lib.compact (srt (timesS a ++ d.evs.map Mb.time))
noncomputable def xtimes_V (d : Dir) (a : Est) (x0 : List Int) : Σ' P : Prop, (P → ICl 115 [.agg (List.map .d (Dir.row d)), .agg (List.map .d (Est.row a))] 3 1 (List.map irow x0)) := by
  apply mkV; intro hP
  refine ico_wk (K 27) Try.func115 rfl rfl rfl rfl (fun w0 => ?_)
  repeat' (first
    | ((fail_if_success (have hTest : Hld False := hP)); (have hq := chk_c hP); (replace hP := chk_p hP))
    | ((with_reducible apply j_lst); exact rfl)
    | (with_reducible (first | apply c_seq | apply c_rg | apply j_nil | apply q_n | apply c_ct | apply c_cf | apply c_bl | apply c_ex | apply c_ret | apply c_sk | apply q_r | apply q_e | apply b_r | apply b_e | apply b_n | apply n_n | apply n_r | apply n_e))
    | ((with_reducible apply v_lenstr); exact rfl; exact rfl; kernel_rfl)
    | ((with_reducible apply c_l1); exact rfl; exact rfl)
    | ((with_reducible apply c_l2); exact rfl; exact rfl)
    | ((with_reducible apply c_l3); exact rfl)
    | ((with_reducible apply j_v); exact rfl; exact rfl)
    | ((with_reducible apply (v_bsf (d := 20) (irow))); exact rfl; exact rfl; exact (row_cons (irow_mk _) row_nil); exact rfl; exact rfl)
    | ((with_reducible apply (v_bs (irow))); exact rfl; exact rfl; exact (row_cons (irow_mk _) row_nil); exact rfl)
    | ((with_reducible apply j_h); exact rfl; exact rfl)
    | ((with_reducible apply j_s); exact rfl)
    | ((with_reducible apply v_lenm); exact rfl; exact rfl; exact rfl; (exact hP); clear hP; intro hP)
    | ((with_reducible apply v_lens); exact rfl; exact rfl; exact rfl; (exact hP); clear hP; intro hP)
    | ((with_reducible apply j_len); exact rfl; exact rfl; exact rfl)
    | ((with_reducible apply j_len0); exact rfl; exact rfl; exact rfl)
    | ((with_reducible apply j_ld_el1); exact rfl; exact rfl; exact rfl; exact rfl; (first | with_reducible assumption | exact gt_row (by omega) (by omega) | exact rfl); exact rfl)
    | ((with_reducible apply j_add); exact rfl; exact rfl; exact rfl; (first | (with_reducible apply wr_i64; (first | with_reducible assumption | (apply chk_c; exact hP; (first | (guard_target = Prop; rotate_left 1) | skip)))) | exact rfl))
    | ((with_reducible apply v_ia); exact rfl; exact rfl; exact rfl; exact rfl; (case inst => exact inferInstance); exact rfl; exact rfl; (first | with_reducible assumption | (apply chk_c; exact hP; (first | (guard_target = Prop; rotate_left 1) | skip))))
    | ((with_reducible apply v_iasl); exact rfl; exact rfl; exact rfl; exact rfl; (first | with_reducible assumption | (apply chk_c; exact hP; (first | (guard_target = Prop; rotate_left 1) | skip))))
    | ((with_reducible apply j_ia_ar); exact rfl; exact rfl; exact rfl; exact rfl; ((repeat ((fail_if_success (have hTest : Hld False := hP)); (have hq := chk_c hP); (replace hP := chk_p hP))); first | with_reducible assumption | (apply chk_c; exact hP; (first | (guard_target = Prop; rotate_left 1) | skip))); ((repeat ((fail_if_success (have hTest : Hld False := hP)); (have hq := chk_c hP); (replace hP := chk_p hP))); first | with_reducible assumption | (apply chk_c; exact hP; (first | (guard_target = Prop; rotate_left 1) | skip))); (first | with_reducible exact Int.toNat_natCast _ | exact rfl))
    | ((apply (v_ste (f := irow))); exact rfl; exact rfl; (case inst => exact inferInstance); exact rfl; exact rfl; exact rfl; exact rfl; exact rfl; (first | exact congrArg some (irow_mk _)); (first | with_reducible assumption | (apply chk_c; exact hP; (first | (guard_target = Prop; rotate_left 1) | skip))))
    | ((with_reducible apply (v_ap (irow))); exact rfl; exact rfl; exact rfl; exact rfl; exact rfl; exact rfl; exact rfl; (first | exact rfl | exact row_one (irow_mk _) | exact row_nil); exact rfl; exact rfl; exact rfl; (first | (apply src_sl; exact rfl; exact rfl; exact rfl) | (apply src_sl; exact rfl; exact rfl; rw [List.length_map]; omega) | (apply src_sl; exact rfl; exact rfl; exact List.length_map _) | (apply src_nil; exact rfl) | (apply src_d; exact rfl; (intro row hrow; obtain ⟨q, _, rfl⟩ := List.mem_map.1 hrow; rfl))); (first | exact rfl | exact row_one (irow_mk _) | exact row_nil); exact rfl; exact rfl; exact rfl; (first | with_reducible assumption | (apply chk_c; exact hP; (first | (guard_target = Prop; rotate_left 1) | skip))))
    | ((with_reducible apply (v_ap0 (irow))); exact rfl; exact rfl; exact rfl; exact rfl; exact rfl; exact rfl; (first | (apply src_sl; exact rfl; exact rfl; exact rfl) | (apply src_sl; exact rfl; exact rfl; rw [List.length_map]; omega) | (apply src_sl; exact rfl; exact rfl; exact List.length_map _) | (apply src_nil; exact rfl) | (apply src_d; exact rfl; (intro row hrow; obtain ⟨q, _, rfl⟩ := List.mem_map.1 hrow; rfl))); (first | exact rfl | exact row_one (irow_mk _) | exact row_nil); exact rfl; exact rfl; exact rfl; (first | with_reducible assumption | (apply chk_c; exact hP; (first | (guard_target = Prop; rotate_left 1) | skip))))
    | ((with_reducible apply c_c); exact rfl; (first | with_reducible assumption | with_reducible exact Eq.refl true | with_reducible exact Eq.refl false | (with_reducible refine not_t ?_; with_reducible assumption) | (with_reducible refine not_f ?_; with_reducible assumption) | (refine dec_t ?_; decide) | (refine dec_f ?_; decide)))
    | ((with_reducible apply b_o); exact rfl)
    | ((with_reducible apply r_g); exact rfl; (· repeat' (first | exact True.intro | refine And.intro ?_ ?_ | (show (_ : Nat) = _; (first | exact rfl | exact (List.length_map _).symm | omega | (simp only [List.length_set, List.length_map, List.length_append] <;> omega) | (simp; done))))); (exact hP.out))
    | ((with_reducible apply o_sl); exact rfl; exact rfl; exact rfl; (first | exact rfl | exact (List.length_map _).symm | (rw [List.length_map]; omega) | omega | (simp; omega)); (exact hP.out))
    | ((with_reducible apply o_nl); exact rfl; exact rfl; (exact hP.out))
    | ((with_reducible apply v_callm); exact rfl; exact ⟨rfl, rfl⟩; exact rfl; exact rfl; exact rfl; (first | (apply (sort_icm _); rotate_left 0)); (focus ((repeat' (first | exact .nil _ | refine PsL.cons ?_ ?_ | refine PsSL.cons ?_ ?_ | exact .one (.d _ _) | exact .one psc_nilm | exact psc_nilm | exact .one (.nil _) | exact .one (.nn _) | exact .one (.tape _) | exact .one (.fn _ _) | exact .agg (.same _ _) | refine .agg ?_ | exact .d _ _ | exact .one (.sl rfl rfl) | exact .one (.sl rfl (List.length_map _).symm) | exact .sl rfl rfl | exact .sl rfl (List.length_map _).symm | exact .same _ _)) <;> fail)); exact rfl; (first | with_reducible assumption | (apply chk_c; exact hP; (first | (guard_target = Prop; rotate_left 1) | skip))))
    | ((with_reducible apply v_cpt); exact rfl; exact cpt_c; exact rfl; exact rfl; (first | exact (sort_len _).symm | (first | exact rfl | exact (List.length_map _).symm | omega | (simp only [List.length_set, List.length_map, List.length_append] <;> omega) | (simp; done))); (first | with_reducible assumption | (apply chk_c; exact hP; (first | (guard_target = Prop; rotate_left 1) | skip))))
    | ((with_reducible apply v_colp); exact rfl; exact ⟨rfl, rfl⟩; (first | (apply (aTimes_icq _); rotate_left 1)); (focus ((repeat' (first | exact .nil _ | refine PsL.cons ?_ ?_ | refine PsSL.cons ?_ ?_ | exact .one (.d _ _) | exact .one psc_nilm | exact psc_nilm | exact .one (.nil _) | exact .one (.nn _) | exact .one (.tape _) | exact .one (.fn _ _) | exact .agg (.same _ _) | refine .agg ?_ | exact .d _ _ | exact .one (.sl rfl rfl) | exact .one (.sl rfl (List.length_map _).symm) | exact .sl rfl rfl | exact .sl rfl (List.length_map _).symm | exact .same _ _)) <;> fail)); exact (fun _ => rfl); exact rfl; (first | with_reducible assumption | (apply chk_c; exact hP; (first | (guard_target = Prop; rotate_left 1) | skip))))
    | ((with_reducible apply v_colp); exact rfl; exact ⟨rfl, rfl⟩; (first | (apply (aTimes_icq ⟨_, _⟩); rotate_left 2; dsimp only [Est.v_mk])); (focus ((repeat' (first | exact .nil _ | refine PsL.cons ?_ ?_ | refine PsSL.cons ?_ ?_ | exact .one (.d _ _) | exact .one psc_nilm | exact psc_nilm | exact .one (.nil _) | exact .one (.nn _) | exact .one (.tape _) | exact .one (.fn _ _) | exact .agg (.same _ _) | refine .agg ?_ | exact .d _ _ | exact .one (.sl rfl rfl) | exact .one (.sl rfl (List.length_map _).symm) | exact .sl rfl rfl | exact .sl rfl (List.length_map _).symm | exact .same _ _)) <;> fail)); exact (fun _ => rfl); exact rfl; (first | with_reducible assumption | (apply chk_c; exact hP; (first | (guard_target = Prop; rotate_left 1) | skip))))
    | ((with_reducible refine v_loopat (c := (.seq (.region 3 _ _) _)) ?_); (apply (v_loop2 _ _ [11, 12] [] (fun x1 x2 => [(5, .one (.sl 9 (List.length x1) 1)), (13, .one (.d (.int .i64 x2)))]) (fun x1 x2 => [(9, .arr 3 1 (List.map irow x1))]) [])); exact rfl; exact rfl; (focus (refine ⟨?_, ?_⟩; rotate_left 1; (focus (repeat' (first | exact .nil | exact .nil _ | refine .cons ?_ ?_ | exact .u _ | exact SVle_pl rfl | refine .one ?_ | refine .agg ?_ | exact .d rfl | exact .ref rfl rfl | exact .sl rfl (by first | rfl | exact List.length_set.symm | exact (sort_len ..).symm |  exact (splT_len (by simp only [List.length_take, List.length_drop]; omega)).symm | omega | (rw [List.length_append, List.length_map]; show _ + 1 = _; omega) | simp) | exact .fn _ | exact .tape | exact .nils rfl | exact .nild | exact .nildm | exact .nil | exact .rp (by simp) | exact .clo (by simp) | exact .el rfl rfl rfl | exact .d (by first | rfl | (congr 1; omega) | (congr 1; assumption) | simp) | exact .virt rfl | exact .gone _ | refine .blk rfl ?_ | exact .arr rfl (by first | rfl | assumption | simp)))); (focus (repeat' (first | exact .nil | exact .nil _ | refine .cons ?_ ?_ | exact .u _ | exact SVle_pl rfl | refine .one ?_ | refine .agg ?_ | exact .d rfl | exact .ref rfl rfl | exact .sl rfl (by first | rfl | exact List.length_set.symm | exact (sort_len ..).symm |  exact (splT_len (by simp only [List.length_take, List.length_drop]; omega)).symm | omega | (rw [List.length_append, List.length_map]; show _ + 1 = _; omega) | simp) | exact .fn _ | exact .tape | exact .nils rfl | exact .nild | exact .nildm | exact .nil | exact .rp (by simp) | exact .clo (by simp) | exact .el rfl rfl rfl | exact .d (by first | rfl | (congr 1; omega) | (congr 1; assumption) | simp) | exact .virt rfl | exact .gone _ | refine .blk rfl ?_ | exact .arr rfl (by first | rfl | assumption | simp)))))); (exact hP); clear hP; intro I μ x1 x2 hP)
    | ((with_reducible apply (v_nxt2 (a1 := _) (a2 := _))); rotate_left 1; (focus (repeat' (first | exact .nil | exact .nil _ | refine .cons ?_ ?_ | exact .u _ | exact SVle_pl rfl | refine .one ?_ | refine .agg ?_ | exact .d rfl | exact .ref rfl rfl | exact .sl rfl (by first | rfl | exact List.length_set.symm | exact (sort_len ..).symm |  exact (splT_len (by simp only [List.length_take, List.length_drop]; omega)).symm | omega | (rw [List.length_append, List.length_map]; show _ + 1 = _; omega) | simp) | exact .fn _ | exact .tape | exact .nils rfl | exact .nild | exact .nildm | exact .nil | exact .rp (by simp) | exact .clo (by simp) | exact .el rfl rfl rfl | exact .d (by first | rfl | (congr 1; omega) | (congr 1; assumption) | simp) | exact .virt rfl | exact .gone _ | refine .blk rfl ?_ | exact .arr rfl (by first | rfl | assumption | simp)))); rotate_right 1; (focus (repeat' (first | exact .nil | exact .nil _ | refine .cons ?_ ?_ | exact .u _ | exact SVle_pl rfl | refine .one ?_ | refine .agg ?_ | exact .d rfl | exact .ref rfl rfl | exact .sl rfl (by first | rfl | exact List.length_set.symm | exact (sort_len ..).symm |  exact (splT_len (by simp only [List.length_take, List.length_drop]; omega)).symm | omega | (rw [List.length_append, List.length_map]; show _ + 1 = _; omega) | simp) | exact .fn _ | exact .tape | exact .nils rfl | exact .nild | exact .nildm | exact .nil | exact .rp (by simp) | exact .clo (by simp) | exact .el rfl rfl rfl | exact .d (by first | rfl | (congr 1; omega) | (congr 1; assumption) | simp) | exact .virt rfl | exact .gone _ | refine .blk rfl ?_ | exact .arr rfl (by first | rfl | assumption | simp)))); (exact hP))
    | ((with_reducible apply v_gs); exact rfl; exact rfl; (exact hP); all_goals (clear hP; intro hg hP))
    | ((with_reducible apply v_if); exact rfl; (exact hP); all_goals (clear hP; intro hc hP)))
theorem xtimes_icq (d : Dir) (a : Est) : ICq (d.evs.length ≤ 100000 ∧ (timesS a).length ≤ 100000) 115 [d.v, a.v] 3 1 (List.map irow (alltS d a)) := fun hh => (xtimes_V d a _).2 (by
  (delta xtimes_V; dsimp only [mkV])
  (repeat' (first | with_reducible refine brn_nd (fun h => ?_) (fun h => ?_) | with_reducible refine brn_d (fun h => ?_) (fun h => ?_) | with_reducible refine brn_nn (fun h => ?_) (fun h => ?_) | with_reducible refine brn_nb (fun h => ?_) (fun h => ?_) | with_reducible refine Brn.mk (fun h => ?_) (fun h => ?_) | with_reducible refine Chk.mk ?_ ?_ | with_reducible refine Bth.mk ?_ ?_ | with_reducible refine Fct.mk (fun hf => ?_)))
  · exact True.intro
  refine up2 (fun o z => o = timesS a ++ (d.evs.take z.toNat).map Mb.time) (by omega) (by simp) (fun I μ o z h0 h1 ho nx => ?_) (fun I μ o ho => ?_)
  · have e1 : (d.evs.take (z + 1).toNat).map Mb.time = (d.evs.take z.toNat).map Mb.time ++ [(gt d.evs z).time] := by
      obtain ⟨i, rfl, hi⟩ := natz h0 h1
      rw [show ((i : Int) + 1).toNat = i + 1 by omega, Int.toNat_natCast, take_snoc (by omega), List.map_append]; rfl
    (repeat' (first | with_reducible refine brn_nd (fun h => ?_) (fun h => ?_) | with_reducible refine brn_d (fun h => ?_) (fun h => ?_) | with_reducible refine brn_nn (fun h => ?_) (fun h => ?_) | with_reducible refine brn_nb (fun h => ?_) (fun h => ?_) | with_reducible refine Brn.mk (fun h => ?_) (fun h => ?_) | with_reducible refine Chk.mk ?_ ?_ | with_reducible refine Bth.mk ?_ ?_ | with_reducible refine Fct.mk (fun hf => ?_)))
    · exact ⟨h0, h1⟩
    · rw [ho]; simp only [List.length_append, List.length_map, List.length_take, List.length_cons, List.length_nil]; omega
    · unfold InI; omega
    · exact nx _ (by rw [e1, ho, List.append_assoc])
  · rw [show ((d.evs.length : Nat) : Int).toNat = d.evs.length from rfl, List.take_length] at ho
    have hl : o.length ≤ 1000000000 := by rw [ho, List.length_append, List.length_map]; omega
    refine Chk.mk hl (Chk.mk (by rw [sort_len]; exact hl) ?_)
    rw [ho]; rfl)
noncomputable def sinceS (d : Dir) (a : Est) (c p : Int) : Int × Bool := match (alltS d a).find? (fun t => (plS d a c p t).2) with | some t => (t, true) | none => (0, false)
noncomputable def xsince_V (d : Dir) (a : Est) (c : Int) (p : Int) (Q : SV → Prop) : Σ' P : Prop, (P → ICt 59 [.agg (List.map .d (Dir.row d)), .agg (List.map .d (Est.row a)), .one (.d (.int .i64 c)), .one (.d (.int .i64 p))] Q) := by
  apply mkV; intro hP
  refine ic_wk (K 34) Try.func59 rfl rfl rfl rfl (fun w0 => ?_)
  apply (v_kint (x := 2)); exact rfl; exact hP; clear hP; intro hP
  apply (v_kint (x := 3)); exact rfl; exact hP; clear hP; intro hP
  repeat' (first
    | ((fail_if_success (have hTest : Hld False := hP)); (have hq := chk_c hP); (replace hP := chk_p hP))
    | ((with_reducible apply j_lst); exact rfl)
    | (with_reducible (first | apply c_seq | apply c_rg | apply j_nil | apply q_n | apply c_ct | apply c_cf | apply c_bl | apply c_ex | apply c_ret | apply c_sk | apply q_r | apply q_e | apply b_r | apply b_e | apply b_n | apply n_n | apply n_r | apply n_e))
    | ((with_reducible apply v_lenstr); exact rfl; exact rfl; kernel_rfl)
    | ((with_reducible apply c_l1); exact rfl; exact rfl)
    | ((with_reducible apply c_l2); exact rfl; exact rfl)
    | ((with_reducible apply c_l3); exact rfl)
    | ((with_reducible apply j_v); exact rfl; exact rfl)
    | ((with_reducible apply j_h); exact rfl; exact rfl)
    | ((with_reducible apply v_lenm); exact rfl; exact rfl; exact rfl; (exact hP); clear hP; intro hP)
    | ((with_reducible apply v_lens); exact rfl; exact rfl; exact rfl; (exact hP); clear hP; intro hP)
    | ((with_reducible apply j_len); exact rfl; exact rfl; exact rfl)
    | ((with_reducible apply j_len0); exact rfl; exact rfl; exact rfl)
    | ((with_reducible apply j_ld_el1); exact rfl; exact rfl; exact rfl; exact rfl; (first | with_reducible assumption | exact gt_row (by omega) (by omega) | exact rfl); exact rfl)
    | ((with_reducible apply j_add); exact rfl; exact rfl; exact rfl; (first | (with_reducible apply wr_i64; (first | with_reducible assumption | (apply chk_c; exact hP; (first | (guard_target = Prop; rotate_left 1) | skip)))) | exact rfl))
    | ((with_reducible apply v_ia); exact rfl; exact rfl; exact rfl; exact rfl; (case inst => exact inferInstance); exact rfl; exact rfl; (first | with_reducible assumption | (apply chk_c; exact hP; (first | (guard_target = Prop; rotate_left 1) | skip))))
    | ((with_reducible apply v_iasl); exact rfl; exact rfl; exact rfl; exact rfl; (first | with_reducible assumption | (apply chk_c; exact hP; (first | (guard_target = Prop; rotate_left 1) | skip))))
    | ((with_reducible apply j_ia_ar); exact rfl; exact rfl; exact rfl; exact rfl; ((repeat ((fail_if_success (have hTest : Hld False := hP)); (have hq := chk_c hP); (replace hP := chk_p hP))); first | with_reducible assumption | (apply chk_c; exact hP; (first | (guard_target = Prop; rotate_left 1) | skip))); ((repeat ((fail_if_success (have hTest : Hld False := hP)); (have hq := chk_c hP); (replace hP := chk_p hP))); first | with_reducible assumption | (apply chk_c; exact hP; (first | (guard_target = Prop; rotate_left 1) | skip))); (first | with_reducible exact Int.toNat_natCast _ | exact rfl))
    | ((with_reducible apply c_c); exact rfl; (first | with_reducible assumption | with_reducible exact Eq.refl true | with_reducible exact Eq.refl false | (with_reducible refine not_t ?_; with_reducible assumption) | (with_reducible refine not_f ?_; with_reducible assumption) | (refine dec_t ?_; decide) | (refine dec_f ?_; decide)))
    | ((with_reducible apply b_o); exact rfl)
    | ((with_reducible apply r_g); exact rfl; (· repeat' (first | exact True.intro | refine And.intro ?_ ?_ | (show (_ : Nat) = _; (first | exact rfl | exact (List.length_map _).symm | omega | (simp only [List.length_set, List.length_map, List.length_append] <;> omega) | (simp; done))))); (exact hP.out))
    | ((with_reducible apply j_call (pu := false)); exact rfl; (first | (apply (xplace_ic _ _ _ _ _); rotate_left 5)); (focus ((repeat' (first | exact .nil _ | refine PsL.cons ?_ ?_ | refine PsSL.cons ?_ ?_ | exact .one (.d _ _) | exact .one psc_nilm | exact psc_nilm | exact .one (.nil _) | exact .one (.nn _) | exact .one (.tape _) | exact .one (.fn _ _) | exact .agg (.same _ _) | refine .agg ?_ | exact .d _ _ | exact .one (.sl rfl rfl) | exact .one (.sl rfl (List.length_map _).symm) | exact .sl rfl rfl | exact .sl rfl (List.length_map _).symm | exact .same _ _)) <;> fail)); exact .inr rfl)
    | ((with_reducible apply j_call (pu := false)); exact rfl; (first | (apply (xplace_ic ⟨_, _⟩ ⟨_, _⟩ _ _ _); rotate_left 7; dsimp only [Dir.v_mk, Est.v_mk])); (focus ((repeat' (first | exact .nil _ | refine PsL.cons ?_ ?_ | refine PsSL.cons ?_ ?_ | exact .one (.d _ _) | exact .one psc_nilm | exact psc_nilm | exact .one (.nil _) | exact .one (.nn _) | exact .one (.tape _) | exact .one (.fn _ _) | exact .agg (.same _ _) | refine .agg ?_ | exact .d _ _ | exact .one (.sl rfl rfl) | exact .one (.sl rfl (List.length_map _).symm) | exact .sl rfl rfl | exact .sl rfl (List.length_map _).symm | exact .same _ _)) <;> fail)); exact .inr rfl)
    | ((with_reducible apply v_colp); exact rfl; exact ⟨rfl, rfl⟩; (first | (apply (xtimes_icq _ _); rotate_left 2)); (focus ((repeat' (first | exact .nil _ | refine PsL.cons ?_ ?_ | refine PsSL.cons ?_ ?_ | exact .one (.d _ _) | exact .one psc_nilm | exact psc_nilm | exact .one (.nil _) | exact .one (.nn _) | exact .one (.tape _) | exact .one (.fn _ _) | exact .agg (.same _ _) | refine .agg ?_ | exact .d _ _ | exact .one (.sl rfl rfl) | exact .one (.sl rfl (List.length_map _).symm) | exact .sl rfl rfl | exact .sl rfl (List.length_map _).symm | exact .same _ _)) <;> fail)); exact (fun _ => rfl); exact rfl; (first | with_reducible assumption | (apply chk_c; exact hP; (first | (guard_target = Prop; rotate_left 1) | skip))))
    | ((with_reducible apply v_colp); exact rfl; exact ⟨rfl, rfl⟩; (first | (apply (xtimes_icq ⟨_, _⟩ ⟨_, _⟩); rotate_left 4; dsimp only [Dir.v_mk, Est.v_mk])); (focus ((repeat' (first | exact .nil _ | refine PsL.cons ?_ ?_ | refine PsSL.cons ?_ ?_ | exact .one (.d _ _) | exact .one psc_nilm | exact psc_nilm | exact .one (.nil _) | exact .one (.nn _) | exact .one (.tape _) | exact .one (.fn _ _) | exact .agg (.same _ _) | refine .agg ?_ | exact .d _ _ | exact .one (.sl rfl rfl) | exact .one (.sl rfl (List.length_map _).symm) | exact .sl rfl rfl | exact .sl rfl (List.length_map _).symm | exact .same _ _)) <;> fail)); exact (fun _ => rfl); exact rfl; (first | with_reducible assumption | (apply chk_c; exact hP; (first | (guard_target = Prop; rotate_left 1) | skip))))
    | ((with_reducible refine v_loopat (c := (.seq (.region 2 _ _) _)) ?_); (apply (v_loop1 _ [2, 3, 4, 5, 16, 17] [4, 5, 16] (fun x1 => [(18, .one (.d (.int .i64 x1)))]) (fun x1 => []) [])); exact rfl; exact rfl; exact ⟨(by repeat' (first | exact .nil | exact .nil _ | refine .cons ?_ ?_ | exact .u _ | exact SVle_pl rfl | refine .one ?_ | refine .agg ?_ | exact .d rfl | exact .ref rfl rfl | exact .sl rfl (by first | rfl | omega | (rw [List.length_append, List.length_map]; show _ + 1 = _; omega) | simp) | exact .fn _ | exact .tape | exact .nils rfl | exact .nild | exact .nildm | exact .nil | exact .rp (by simp) | exact .clo (by simp) | exact .el rfl rfl rfl | exact .d (by first | rfl | (congr 1; omega) | (congr 1; assumption) | simp) | exact .virt rfl | exact .gone _ | refine .blk rfl ?_ | exact .arr rfl (by first | rfl | assumption | simp))), (by repeat' (first | exact .nil | exact .nil _ | refine .cons ?_ ?_ | exact .u _ | exact SVle_pl rfl | refine .one ?_ | refine .agg ?_ | exact .d rfl | exact .ref rfl rfl | exact .sl rfl (by first | rfl | omega | (rw [List.length_append, List.length_map]; show _ + 1 = _; omega) | simp) | exact .fn _ | exact .tape | exact .nils rfl | exact .nild | exact .nildm | exact .nil | exact .rp (by simp) | exact .clo (by simp) | exact .el rfl rfl rfl | exact .d (by first | rfl | (congr 1; omega) | (congr 1; assumption) | simp) | exact .virt rfl | exact .gone _ | refine .blk rfl ?_ | exact .arr rfl (by first | rfl | assumption | simp)))⟩; (exact hP); clear hP; intro I μ x1 hP)
    | ((with_reducible apply (v_nxt1 (a1 := _))); (repeat' (first | exact .nil | exact .nil _ | refine .cons ?_ ?_ | exact .u _ | exact SVle_pl rfl | refine .one ?_ | refine .agg ?_ | exact .d rfl | exact .ref rfl rfl | exact .sl rfl (by first | rfl | exact List.length_set.symm | exact (splT_len (by simp only [List.length_take, List.length_drop]; omega)).symm | omega | (rw [List.length_append, List.length_map]; show _ + 1 = _; omega) | simp) | exact .fn _ | exact .tape | exact .nils rfl | exact .nild | exact .nildm | exact .nil | exact .rp (by simp) | exact .clo (by simp) | exact .el rfl rfl rfl | exact .d (by first | rfl | (congr 1; omega) | (congr 1; assumption) | simp) | exact .virt rfl | exact .gone _ | refine .blk rfl ?_ | exact .arr rfl (by first | rfl | assumption | simp))); (repeat' (first | exact .nil | exact .nil _ | refine .cons ?_ ?_ | exact .u _ | exact SVle_pl rfl | refine .one ?_ | refine .agg ?_ | exact .d rfl | exact .ref rfl rfl | exact .sl rfl (by first | rfl | exact List.length_set.symm | exact (splT_len (by simp only [List.length_take, List.length_drop]; omega)).symm | omega | (rw [List.length_append, List.length_map]; show _ + 1 = _; omega) | simp) | exact .fn _ | exact .tape | exact .nils rfl | exact .nild | exact .nildm | exact .nil | exact .rp (by simp) | exact .clo (by simp) | exact .el rfl rfl rfl | exact .d (by first | rfl | (congr 1; omega) | (congr 1; assumption) | simp) | exact .virt rfl | exact .gone _ | refine .blk rfl ?_ | exact .arr rfl (by first | rfl | assumption | simp))); (exact hP))
    | ((with_reducible apply v_gs); exact rfl; exact rfl; (exact hP); all_goals (clear hP; intro hg hP))
    | ((with_reducible apply v_if); exact rfl; (exact hP); all_goals (clear hP; intro hc hP)))
theorem xsince_ic (d : Dir) (a : Est) (c p : Int) : ICp (d.evs.length ≤ 100000 ∧ (timesS a).length ≤ 100000) 59 [d.v, a.v, iv c, iv p] (fun v => v = .tup [iv (sinceS d a c p).1, bv (sinceS d a c p).2]) := fun hh => (xsince_V d a c p _).2 (by
  (delta xsince_V; dsimp only [mkV])
  (repeat' (first | with_reducible refine brn_nd (fun h => ?_) (fun h => ?_) | with_reducible refine brn_d (fun h => ?_) (fun h => ?_) | with_reducible refine brn_nn (fun h => ?_) (fun h => ?_) | with_reducible refine brn_nb (fun h => ?_) (fun h => ?_) | with_reducible refine Brn.mk (fun h => ?_) (fun h => ?_) | with_reducible refine Chk.mk ?_ ?_ | with_reducible refine Bth.mk ?_ ?_ | with_reducible refine Fct.mk (fun hf => ?_)))
  · exact hh
  refine up1 (fun z => (alltS d a).find? (fun t => (plS d a c p t).2) = ((alltS d a).drop z.toNat).find? (fun t => (plS d a c p t).2)) (by omega) rfl (fun I μ z h0 h1 hj nx => ?_) (fun I μ hj => ?_)
  · obtain ⟨q1, q2⟩ := find_at h0 h1 hj
    (repeat' (first | with_reducible refine brn_nd (fun h => ?_) (fun h => ?_) | with_reducible refine brn_d (fun h => ?_) (fun h => ?_) | with_reducible refine brn_nn (fun h => ?_) (fun h => ?_) | with_reducible refine brn_nb (fun h => ?_) (fun h => ?_) | with_reducible refine Brn.mk (fun h => ?_) (fun h => ?_) | with_reducible refine Chk.mk ?_ ?_ | with_reducible refine Bth.mk ?_ ?_ | with_reducible refine Fct.mk (fun hf => ?_)))
    · exact ⟨h0, h1⟩
    · have h2 := q1 (by assumption)
      unfold sinceS; rw [h2]
    · unfold InI; omega
    · exact nx (q2 (by assumption))
  · have h2 := find_end hj
    unfold sinceS; rw [h2])
noncomputable def exOne (d : Dir) (a : Est) (c p : Int) : List Xpo := if (sinceS d a c p).2 = true then [⟨p, (sinceS d a c p).1⟩] else []
noncomputable def allS (d : Dir) (a : Est) (c : Int) : List Xpo := (List.range (d.kinds.length + 1)).flatMap fun i : Nat => exOne d a c ((i : Int) - 1)
noncomputable def xall_V (d : Dir) (a : Est) (c : Int) (Q : SV → Prop) : Σ' P : Prop, (P → ICt 29 [.agg (List.map .d (Dir.row d)), .agg (List.map .d (Est.row a)), .one (.d (.int .i64 c))] Q) := by
  apply mkV; intro hP
  refine ic_wk (K 43) Try.func29 rfl rfl rfl rfl (fun w0 => ?_)
  apply (v_kint (x := 2)); exact rfl; exact hP; clear hP; intro hP
  repeat' (first
    | ((fail_if_success (have hTest : Hld False := hP)); (have hq := chk_c hP); (replace hP := chk_p hP))
    | ((with_reducible apply j_lst); exact rfl)
    | (with_reducible (first | apply c_seq | apply c_rg | apply j_nil | apply q_n | apply c_ct | apply c_cf | apply c_bl | apply c_ex | apply c_ret | apply c_sk | apply q_r | apply q_e | apply b_r | apply b_e | apply b_n | apply n_n | apply n_r | apply n_e))
    | ((with_reducible apply v_lenstr); exact rfl; exact rfl; kernel_rfl)
    | ((with_reducible apply c_l1); exact rfl; exact rfl)
    | ((with_reducible apply c_l2); exact rfl; exact rfl)
    | ((with_reducible apply c_l3); exact rfl)
    | ((with_reducible apply j_v); exact rfl; exact rfl)
    | ((with_reducible apply (v_bsf (d := 40) (Xpo.row))); exact rfl; exact rfl; exact (row_cons (Xpo.row_mk _ _) row_nil); exact rfl; exact rfl)
    | ((with_reducible apply (v_bs (Xpo.row))); exact rfl; exact rfl; exact (row_cons (Xpo.row_mk _ _) row_nil); exact rfl)
    | ((with_reducible apply j_h); exact rfl; exact rfl)
    | ((with_reducible apply v_lenm); exact rfl; exact rfl; exact rfl; (exact hP); clear hP; intro hP)
    | ((with_reducible apply v_lens); exact rfl; exact rfl; exact rfl; (exact hP); clear hP; intro hP)
    | ((with_reducible apply j_len); exact rfl; exact rfl; exact rfl)
    | ((with_reducible apply j_len0); exact rfl; exact rfl; exact rfl)
    | ((with_reducible apply j_add); exact rfl; exact rfl; exact rfl; (first | (with_reducible apply wr_i64; (first | with_reducible assumption | (apply chk_c; exact hP; (first | (guard_target = Prop; rotate_left 1) | skip)))) | exact rfl))
    | ((with_reducible apply (v_ap (Xpo.row))); exact rfl; exact rfl; exact rfl; exact rfl; exact rfl; exact rfl; exact rfl; (first | exact rfl | exact row_one (Xpo.row_mk _ _) | exact row_nil); exact rfl; exact rfl; exact rfl; (first | (apply src_sl; exact rfl; exact rfl; exact rfl) | (apply src_sl; exact rfl; exact rfl; rw [List.length_map]; omega) | (apply src_sl; exact rfl; exact rfl; exact List.length_map _) | (apply src_nil; exact rfl) | (apply src_d; exact rfl; (intro row hrow; obtain ⟨q, _, rfl⟩ := List.mem_map.1 hrow; rfl))); (first | exact rfl | exact row_one (Xpo.row_mk _ _) | exact row_nil); exact rfl; exact rfl; exact rfl; (first | with_reducible assumption | (apply chk_c; exact hP; (first | (guard_target = Prop; rotate_left 1) | skip))))
    | ((with_reducible apply (v_ap0 (Xpo.row))); exact rfl; exact rfl; exact rfl; exact rfl; exact rfl; exact rfl; (first | (apply src_sl; exact rfl; exact rfl; exact rfl) | (apply src_sl; exact rfl; exact rfl; rw [List.length_map]; omega) | (apply src_sl; exact rfl; exact rfl; exact List.length_map _) | (apply src_nil; exact rfl) | (apply src_d; exact rfl; (intro row hrow; obtain ⟨q, _, rfl⟩ := List.mem_map.1 hrow; rfl))); (first | exact rfl | exact row_one (Xpo.row_mk _ _) | exact row_nil); exact rfl; exact rfl; exact rfl; (first | with_reducible assumption | (apply chk_c; exact hP; (first | (guard_target = Prop; rotate_left 1) | skip))))
    | ((with_reducible apply c_c); exact rfl; (first | with_reducible assumption | with_reducible exact Eq.refl true | with_reducible exact Eq.refl false | (with_reducible refine not_t ?_; with_reducible assumption) | (with_reducible refine not_f ?_; with_reducible assumption) | (refine dec_t ?_; decide) | (refine dec_f ?_; decide)))
    | ((with_reducible apply b_o); exact rfl)
    | ((with_reducible apply r_g); exact rfl; (· repeat' (first | exact True.intro | refine And.intro ?_ ?_ | (show (_ : Nat) = _; (first | exact rfl | exact (List.length_map _).symm | omega | (simp only [List.length_set, List.length_map, List.length_append] <;> omega) | (simp; done))))); (exact hP.out))
    | ((with_reducible apply j_call (pu := false)); exact rfl; (first | (apply (xcheck_ic _ _ _); rotate_left 3)); (focus ((repeat' (first | exact .nil _ | refine PsL.cons ?_ ?_ | refine PsSL.cons ?_ ?_ | exact .one (.d _ _) | exact .one psc_nilm | exact psc_nilm | exact .one (.nil _) | exact .one (.nn _) | exact .one (.tape _) | exact .one (.fn _ _) | exact .agg (.same _ _) | refine .agg ?_ | exact .d _ _ | exact .one (.sl rfl rfl) | exact .one (.sl rfl (List.length_map _).symm) | exact .sl rfl rfl | exact .sl rfl (List.length_map _).symm | exact .same _ _)) <;> fail)); exact .inr rfl)
    | ((with_reducible apply j_call (pu := false)); exact rfl; (first | (apply (xcheck_ic ⟨_, _⟩ ⟨_, _⟩ _); rotate_left 5; dsimp only [Dir.v_mk, Est.v_mk])); (focus ((repeat' (first | exact .nil _ | refine PsL.cons ?_ ?_ | refine PsSL.cons ?_ ?_ | exact .one (.d _ _) | exact .one psc_nilm | exact psc_nilm | exact .one (.nil _) | exact .one (.nn _) | exact .one (.tape _) | exact .one (.fn _ _) | exact .agg (.same _ _) | refine .agg ?_ | exact .d _ _ | exact .one (.sl rfl rfl) | exact .one (.sl rfl (List.length_map _).symm) | exact .sl rfl rfl | exact .sl rfl (List.length_map _).symm | exact .same _ _)) <;> fail)); exact .inr rfl)
    | ((with_reducible apply v_call (pu := false)); exact rfl; exact ⟨rfl, rfl⟩; (first | (apply (xsince_ic _ _ _ _); rotate_left 4)); (focus ((repeat' (first | exact .nil _ | refine PsL.cons ?_ ?_ | refine PsSL.cons ?_ ?_ | exact .one (.d _ _) | exact .one psc_nilm | exact psc_nilm | exact .one (.nil _) | exact .one (.nn _) | exact .one (.tape _) | exact .one (.fn _ _) | exact .agg (.same _ _) | refine .agg ?_ | exact .d _ _ | exact .one (.sl rfl rfl) | exact .one (.sl rfl (List.length_map _).symm) | exact .sl rfl rfl | exact .sl rfl (List.length_map _).symm | exact .same _ _)) <;> fail)); exact .inr rfl; (first | with_reducible assumption | (apply chk_c; exact hP; (first | (guard_target = Prop; rotate_left 1) | skip))))
    | ((with_reducible apply v_call (pu := false)); exact rfl; exact ⟨rfl, rfl⟩; (first | (apply (xsince_ic ⟨_, _⟩ ⟨_, _⟩ _ _); rotate_left 6; dsimp only [Dir.v_mk, Est.v_mk])); (focus ((repeat' (first | exact .nil _ | refine PsL.cons ?_ ?_ | refine PsSL.cons ?_ ?_ | exact .one (.d _ _) | exact .one psc_nilm | exact psc_nilm | exact .one (.nil _) | exact .one (.nn _) | exact .one (.tape _) | exact .one (.fn _ _) | exact .agg (.same _ _) | refine .agg ?_ | exact .d _ _ | exact .one (.sl rfl rfl) | exact .one (.sl rfl (List.length_map _).symm) | exact .sl rfl rfl | exact .sl rfl (List.length_map _).symm | exact .same _ _)) <;> fail)); exact .inr rfl; (first | with_reducible assumption | (apply chk_c; exact hP; (first | (guard_target = Prop; rotate_left 1) | skip))))
    | ((with_reducible refine v_loopat (c := (.seq (.seq (.region 6 _ _) _) _)) ?_); (apply (v_loop2 [] _ [2, 3, 4] [3, 4] (fun x1 x2 => [(9, .one (.sl 209 (List.length x1) 2)), (10, .one (.d (.int .i64 x2)))]) (fun x1 x2 => [(209, .arr 87 2 (List.map Xpo.row x1))]) [209])); exact rfl; exact rfl; (focus (refine ⟨?_, ?_⟩; rotate_left 1; (focus (repeat' (first | exact .nil | exact .nil _ | refine .cons ?_ ?_ | exact .u _ | exact SVle_pl rfl | refine .one ?_ | refine .agg ?_ | exact .d rfl | exact .ref rfl rfl | exact .sl rfl (by first | rfl | exact List.length_set.symm | exact (splT_len (by simp only [List.length_take, List.length_drop]; omega)).symm | omega | (rw [List.length_append, List.length_map]; show _ + 1 = _; omega) | simp) | exact .fn _ | exact .tape | exact .nils rfl | exact .nild | exact .nildm | exact .nil | exact .rp (by simp) | exact .clo (by simp) | exact .el rfl rfl rfl | exact .d (by first | rfl | (congr 1; omega) | (congr 1; assumption) | simp) | exact .virt rfl | exact .gone _ | refine .blk rfl ?_ | exact .arr rfl (by first | rfl | assumption | simp)))); (focus (repeat' (first | exact .nil | exact .nil _ | refine .cons ?_ ?_ | exact .u _ | exact SVle_pl rfl | refine .one ?_ | refine .agg ?_ | exact .d rfl | exact .ref rfl rfl | exact .sl rfl (by first | rfl | exact List.length_set.symm | exact (splT_len (by simp only [List.length_take, List.length_drop]; omega)).symm | omega | (rw [List.length_append, List.length_map]; show _ + 1 = _; omega) | simp) | exact .fn _ | exact .tape | exact .nils rfl | exact .nild | exact .nildm | exact .nil | exact .rp (by simp) | exact .clo (by simp) | exact .el rfl rfl rfl | exact .d (by first | rfl | (congr 1; omega) | (congr 1; assumption) | simp) | exact .virt rfl | exact .gone _ | refine .blk rfl ?_ | exact .arr rfl (by first | rfl | assumption | simp)))))); (exact hP); clear hP; intro I μ x1 x2 hP)
    | ((with_reducible apply (v_nxt2 (a1 := _) (a2 := _))); rotate_left 1; (focus (repeat' (first | exact .nil | exact .nil _ | refine .cons ?_ ?_ | exact .u _ | exact SVle_pl rfl | refine .one ?_ | refine .agg ?_ | exact .d rfl | exact .ref rfl rfl | exact .sl rfl (by first | rfl | exact List.length_set.symm | exact (splT_len (by simp only [List.length_take, List.length_drop]; omega)).symm | omega | (rw [List.length_append, List.length_map]; show _ + 1 = _; omega) | simp) | exact .fn _ | exact .tape | exact .nils rfl | exact .nild | exact .nildm | exact .nil | exact .rp (by simp) | exact .clo (by simp) | exact .el rfl rfl rfl | exact .d (by first | rfl | (congr 1; omega) | (congr 1; assumption) | simp) | exact .virt rfl | exact .gone _ | refine .blk rfl ?_ | exact .arr rfl (by first | rfl | assumption | simp)))); rotate_right 1; (focus (repeat' (first | exact .nil | exact .nil _ | refine .cons ?_ ?_ | exact .u _ | exact SVle_pl rfl | refine .one ?_ | refine .agg ?_ | exact .d rfl | exact .ref rfl rfl | exact .sl rfl (by first | rfl | exact List.length_set.symm | exact (splT_len (by simp only [List.length_take, List.length_drop]; omega)).symm | omega | (rw [List.length_append, List.length_map]; show _ + 1 = _; omega) | simp) | exact .fn _ | exact .tape | exact .nils rfl | exact .nild | exact .nildm | exact .nil | exact .rp (by simp) | exact .clo (by simp) | exact .el rfl rfl rfl | exact .d (by first | rfl | (congr 1; omega) | (congr 1; assumption) | simp) | exact .virt rfl | exact .gone _ | refine .blk rfl ?_ | exact .arr rfl (by first | rfl | assumption | simp)))); (exact hP))
    | ((with_reducible apply v_gs); exact rfl; exact rfl; (exact hP); all_goals (clear hP; intro hg hP))
    | ((with_reducible apply v_if); exact rfl; (exact hP); all_goals (clear hP; intro hc hP)))
theorem xall_ic (d : Dir) (a : Est) (c : Int) : ICp (d.evs.length ≤ 100000 ∧ (timesS a).length ≤ 100000 ∧ d.kinds.length ≤ 100000 ∧ xckS d a c = 0) 29 [d.v, a.v, iv c] (fun v => v = .tup [.one (.d (.list ((allS d a c).map Xpo.row))), iv 0]) := fun hh => (xall_V d a c _).2 (by
  obtain ⟨g1, g2, g3, g4⟩ := hh
  (delta xall_V; dsimp only [mkV])
  (repeat' (first | with_reducible refine brn_nd (fun h => ?_) (fun h => ?_) | with_reducible refine brn_d (fun h => ?_) (fun h => ?_) | with_reducible refine brn_nn (fun h => ?_) (fun h => ?_) | with_reducible refine brn_nb (fun h => ?_) (fun h => ?_) | with_reducible refine Brn.mk (fun h => ?_) (fun h => ?_) | with_reducible refine Chk.mk ?_ ?_ | with_reducible refine Bth.mk ?_ ?_ | with_reducible refine Fct.mk (fun hf => ?_)))
  · exact absurd g4 (by assumption)
  have hle : ∀ n : Nat, ((List.range n).flatMap fun i : Nat => exOne d a c ((i : Int) - 1)).length ≤ n := fun n => by
    induction n with
    | zero => simp
    | succ n ih =>
      rw [List.range_succ, List.flatMap_append, List.length_append]
      have : (exOne d a c ((n : Int) - 1)).length ≤ 1 := by unfold exOne; split <;> simp
      simp only [List.flatMap_cons, List.flatMap_nil, List.append_nil]; omega
  refine lp2 (fun x p => -1 ≤ p ∧ p ≤ d.kinds.length ∧ x = (List.range (p + 1).toNat).flatMap fun i : Nat => exOne d a c ((i : Int) - 1)) (fun _ p => (d.kinds.length - p).toNat) ⟨by omega, by omega, by simp⟩ ?_
  rintro I μ nx x p ⟨h0, h1, hx⟩
  have hs : (List.range (p + 1 + 1).toNat).flatMap (fun i : Nat => exOne d a c ((i : Int) - 1)) = x ++ exOne d a c p := by
    rw [show (p + 1 + 1).toNat = (p + 1).toNat + 1 by omega, List.range_succ, List.flatMap_append, hx]
    simp only [List.flatMap_cons, List.flatMap_nil, List.append_nil]
    rw [show (((p + 1).toNat : Nat) : Int) - 1 = p by omega]
  have hl := hle (p + 1).toNat
  rw [← hx] at hl
  (repeat' (first | with_reducible refine brn_nd (fun h => ?_) (fun h => ?_) | with_reducible refine brn_d (fun h => ?_) (fun h => ?_) | with_reducible refine brn_nn (fun h => ?_) (fun h => ?_) | with_reducible refine brn_nb (fun h => ?_) (fun h => ?_) | with_reducible refine Brn.mk (fun h => ?_) (fun h => ?_) | with_reducible refine Chk.mk ?_ ?_ | with_reducible refine Bth.mk ?_ ?_ | with_reducible refine Fct.mk (fun hf => ?_)))
  · exact ⟨g1, g2⟩
  · simp only [List.length_append, List.length_cons, List.length_nil]; omega
  · unfold InI; omega
  · refine nx _ _ _ _ ⟨h0, h1, hx⟩ ⟨by omega, by omega, ?_⟩ (by omega)
    rw [hs]; unfold exOne; rw [if_pos (by assumption)]
  · unfold InI; omega
  · refine nx _ _ _ _ ⟨h0, h1, hx⟩ ⟨by omega, by omega, ?_⟩ (by omega)
    have hn : (sinceS d a c p).2 = false := by assumption
    rw [hs]; unfold exOne; rw [if_neg (by simp [hn]), List.append_nil]
  · have e : p = d.kinds.length := by omega
    subst e
    rw [hx]; rfl)
noncomputable def xcould_V (d : Dir) (a : Est) (c : Int) (p : Int) (t : Int) (Q : SV → Prop) : Σ' P : Prop, (P → ICt 31 [.agg (List.map .d (Dir.row d)), .agg (List.map .d (Est.row a)), .one (.d (.int .i64 c)), .one (.d (.int .i64 p)), .one (.d (.int .i64 t))] Q) := by
  apply mkV; intro hP
  refine ic_wk (K 36) Try.func31 rfl rfl rfl rfl (fun w0 => ?_)
  apply (v_kint (x := 2)); exact rfl; exact hP; clear hP; intro hP
  apply (v_kint (x := 3)); exact rfl; exact hP; clear hP; intro hP
  apply (v_kint (x := 4)); exact rfl; exact hP; clear hP; intro hP
  repeat' (first
    | ((fail_if_success (have hTest : Hld False := hP)); (have hq := chk_c hP); (replace hP := chk_p hP))
    | ((with_reducible apply j_lst); exact rfl)
    | (with_reducible (first | apply c_seq | apply c_rg | apply j_nil | apply q_n | apply g_tt | apply g_ff | apply c_ct | apply c_cf | apply c_bl | apply c_ex | apply c_ret | apply c_sk | apply q_r | apply q_e | apply b_r | apply b_e | apply b_n | apply n_n | apply n_r | apply n_e))
    | ((with_reducible apply c_l1); exact rfl; exact rfl)
    | ((with_reducible apply c_l2); exact rfl; exact rfl)
    | ((with_reducible apply c_l3); exact rfl)
    | ((with_reducible apply j_v); exact rfl; exact rfl)
    | ((with_reducible apply j_h); exact rfl; exact rfl)
    | ((with_reducible apply j_g); exact rfl; exact rfl; (first | with_reducible assumption | with_reducible exact Eq.refl true | with_reducible exact Eq.refl false | (with_reducible refine not_t ?_; with_reducible assumption) | (with_reducible refine not_f ?_; with_reducible assumption) | (refine dec_t ?_; decide) | (refine dec_f ?_; decide)))
    | ((with_reducible apply g_tf); exact rfl)
    | ((with_reducible apply g_ft); exact rfl)
    | ((with_reducible apply j_gz); exact rfl; exact rfl; exact rfl)
    | ((with_reducible apply j_pk); exact rfl; exact rfl; (first | with_reducible assumption | with_reducible exact Eq.refl true | with_reducible exact Eq.refl false | (with_reducible refine not_t ?_; with_reducible assumption) | (with_reducible refine not_f ?_; with_reducible assumption) | (refine dec_t ?_; decide) | (refine dec_f ?_; decide)); exact rfl)
    | ((with_reducible apply c_c); exact rfl; (first | with_reducible assumption | with_reducible exact Eq.refl true | with_reducible exact Eq.refl false | (with_reducible refine not_t ?_; with_reducible assumption) | (with_reducible refine not_f ?_; with_reducible assumption) | (refine dec_t ?_; decide) | (refine dec_f ?_; decide)))
    | ((with_reducible apply b_o); exact rfl)
    | ((with_reducible apply r_g); exact rfl; (· repeat' (first | exact True.intro | refine And.intro ?_ ?_ | (show (_ : Nat) = _; (first | exact rfl | exact (List.length_map _).symm | omega | (simp only [List.length_set, List.length_map, List.length_append] <;> omega) | (simp; done))))); (exact hP.out))
    | ((with_reducible apply j_call (pu := false)); exact rfl; (first | (apply (xcheck_ic _ _ _); rotate_left 3) | (apply (xplace_ic _ _ _ _ _); rotate_left 5)); (focus ((repeat' (first | exact .nil _ | refine PsL.cons ?_ ?_ | refine PsSL.cons ?_ ?_ | exact .one (.d _ _) | exact .one psc_nilm | exact psc_nilm | exact .one (.nil _) | exact .one (.nn _) | exact .one (.tape _) | exact .one (.fn _ _) | exact .agg (.same _ _) | refine .agg ?_ | exact .d _ _ | exact .one (.sl rfl rfl) | exact .one (.sl rfl (List.length_map _).symm) | exact .sl rfl rfl | exact .sl rfl (List.length_map _).symm | exact .same _ _)) <;> fail)); exact .inr rfl)
    | ((with_reducible apply j_call (pu := false)); exact rfl; (first | (apply (xcheck_ic ⟨_, _⟩ ⟨_, _⟩ _); rotate_left 5; dsimp only [Dir.v_mk, Est.v_mk]) | (apply (xplace_ic ⟨_, _⟩ ⟨_, _⟩ _ _ _); rotate_left 7; dsimp only [Dir.v_mk, Est.v_mk])); (focus ((repeat' (first | exact .nil _ | refine PsL.cons ?_ ?_ | refine PsSL.cons ?_ ?_ | exact .one (.d _ _) | exact .one psc_nilm | exact psc_nilm | exact .one (.nil _) | exact .one (.nn _) | exact .one (.tape _) | exact .one (.fn _ _) | exact .agg (.same _ _) | refine .agg ?_ | exact .d _ _ | exact .one (.sl rfl rfl) | exact .one (.sl rfl (List.length_map _).symm) | exact .sl rfl rfl | exact .sl rfl (List.length_map _).symm | exact .same _ _)) <;> fail)); exact .inr rfl)
    | ((with_reducible apply v_gs); exact rfl; exact rfl; (exact hP); all_goals (clear hP; intro hg hP))
    | ((with_reducible apply v_if); exact rfl; (exact hP); all_goals (clear hP; intro hc hP)))
theorem xcould_ic (d : Dir) (a : Est) (c p t : Int) : ICp (xckS d a c = 0) 31 [d.v, a.v, iv c, iv p, iv t] (fun v => v = bv (decide (0 ≤ t ∧ t ≤ 1099511627776) && (plS d a c p t).2)) := fun hh => (xcould_V d a c p t _).2 (by
  (delta xcould_V; dsimp only [mkV])
  (repeat' (first | with_reducible refine brn_nd (fun h => ?_) (fun h => ?_) | with_reducible refine brn_d (fun h => ?_) (fun h => ?_) | with_reducible refine brn_nn (fun h => ?_) (fun h => ?_) | with_reducible refine brn_nb (fun h => ?_) (fun h => ?_) | with_reducible refine Brn.mk (fun h => ?_) (fun h => ?_) | with_reducible refine Chk.mk ?_ ?_ | with_reducible refine Bth.mk ?_ ?_ | with_reducible refine Fct.mk (fun hf => ?_)))
  · exact absurd hh (by assumption)
  · rw [decide_eq_false (by omega)]; rfl
  · rw [decide_eq_false (by omega)]; rfl
  · rw [decide_eq_true (by omega)]; rfl)
end Go.Proofs.Ytcbppkfnfbdkhaa
