/- Archives: the reference's Format shown; bent, few. -/
import Derived.Test.YtbnmcdnkeipdhaaHc
set_option linter.all false
set_option maxRecDepth 20000
set_option maxHeartbeats 4000000
namespace Go.Proofs.Ytbnmcdnkeipdhaa
open Go.RowKit Go.Shelf
theorem rfmt_ic (l : List Ent) : ICp (l.length ≤ 1000 ∧ ∀ x ∈ l, x.nm.size ≤ 1000000000 ∧ x.dat.length ≤ 1000000000) 33 [ev l] (fun v => v = .tup [by_ (fmtS l), iv (valS l)]) := fun hl => (rfmt_V l _).2 (by
  (delta rfmt_V; dsimp only [mkV])
  (repeat' (first | with_reducible refine brn_nd (fun h => ?_) (fun h => ?_) | with_reducible refine brn_d (fun h => ?_) (fun h => ?_) | with_reducible refine brn_nn (fun h => ?_) (fun h => ?_) | with_reducible refine brn_nb (fun h => ?_) (fun h => ?_) | with_reducible refine Brn.mk (fun h => ?_) (fun h => ?_) | with_reducible refine Chk.mk ?_ ?_ | with_reducible refine Bth.mk ?_ ?_ | with_reducible refine Fct.mk (fun hf => ?_)))
  · exact hl
  · rw [fmtS, if_neg (by assumption)]; rfl
  have hv : valS l = 0 := by assumption
  obtain ⟨v1, v2, v3, v4⟩ := valS_ok hv
  have ets : ∀ z : Int, 0 ≤ z → z < l.length → l.take (z + 1).toNat = l.take z.toNat ++ [gt l z] := fun z h0 h1 => by
    rw [show (z + 1).toNat = z.toNat + 1 by omega, take_snoc (by omega), show ((z.toNat : Nat) : Int) = z by omega]
  simp only [shr16, shr8]
  refine lp2 (fun x z => 0 ≤ z ∧ z ≤ l.length ∧ x = [65, 82, 67, 49] ++ [(l.length : Int) % 256] ++ (l.take z.toNat).flatMap encE) (fun _ z => ((l.length : Int) - z).toNat) ⟨by omega, by omega, by simp⟩ ?_
  rintro I μ nx x z ⟨h0, h1', hx⟩
  by_cases h1 : z < l.length
  · have hm := gt_mem h0 h1
    obtain ⟨g1, g2, g3, g4⟩ := v4 _ hm
    have hlen : x.length ≤ 5 + 64 * 65581 := by
      have := encs_len (l := l.take z.toNat) fun x hx => by have := v4 x (List.mem_of_mem_take hx); exact ⟨this.2.1, this.2.2.2⟩
      rw [hx]
      simp only [List.length_append, List.length_cons, List.length_nil]
      rw [List.length_take] at this
      omega
    have hB := bytI_len (gt l z).nm
    have hfin : ∀ t, (if (packS (gt l z).dat [] []).length < (gt l z).dat.length then [1] ++ packS (gt l z).dat [] [] else [0] ++ (gt l z).dat) = t → x ++ [((gt l z).nm.size : Int) % 256] ++ bytI (gt l z).nm ++ threeS (gt l z).dat.length ++ t = [65, 82, 67, 49] ++ [(l.length : Int) % 256] ++ (l.take (z + 1).toNat).flatMap encE := fun t ht => by
      rw [ets z h0 h1, hx, List.flatMap_append, List.flatMap_singleton, encE, ht]
      simp only [List.append_assoc]
    (repeat' (first | with_reducible refine brn_nd (fun h => ?_) (fun h => ?_) | with_reducible refine brn_d (fun h => ?_) (fun h => ?_) | with_reducible refine brn_nn (fun h => ?_) (fun h => ?_) | with_reducible refine brn_nb (fun h => ?_) (fun h => ?_) | with_reducible refine Brn.mk (fun h => ?_) (fun h => ?_) | with_reducible refine Chk.mk ?_ ?_ | with_reducible refine Bth.mk ?_ ?_ | with_reducible refine Fct.mk (fun hf => ?_)))
    all_goals first | omega | (simp only [List.length_append, List.length_cons, List.length_nil]; omega) | (unfold InI; omega) | skip
    · refine nx _ _ _ _ ⟨h0, h1', hx⟩ ⟨by omega, by omega, ?_⟩ (by omega)
      rw [List.append_assoc _ [1]]
      exact hfin _ (if_pos (by omega))
    · refine nx _ _ _ _ ⟨h0, h1', hx⟩ ⟨by omega, by omega, ?_⟩ (by omega)
      rw [List.append_assoc _ [0]]
      exact hfin _ (if_neg (by omega))
  · rw [List.take_of_length_le (by omega)] at hx
    (repeat' (first | with_reducible refine brn_nd (fun h => ?_) (fun h => ?_) | with_reducible refine brn_d (fun h => ?_) (fun h => ?_) | with_reducible refine brn_nn (fun h => ?_) (fun h => ?_) | with_reducible refine brn_nb (fun h => ?_) (fun h => ?_) | with_reducible refine Brn.mk (fun h => ?_) (fun h => ?_) | with_reducible refine Chk.mk ?_ ?_ | with_reducible refine Bth.mk ?_ ?_ | with_reducible refine Fct.mk (fun hf => ?_)))
    all_goals (try omega)
    rw [fmtS, if_pos hv, hx, hv]; rfl)

noncomputable def bent_V (l : List Ent) (Q : SV → Prop) : Σ' P : Prop, (P → ICt 30 [.one .tape, .one (.d (.list (List.map Ent.row l)))] Q) := by
  apply mkV; intro hP
  refine ic_wk (K 29) Try.func30 rfl rfl rfl rfl (fun w0 => ?_)
  apply (v_klist (x := 1)); exact rfl; exact hP; clear hP; intro hP
  repeat' (first
    | ((fail_if_success (have hTest : Hld False := hP)); (have hq := chk_c hP); (replace hP := chk_p hP))
    | ((with_reducible apply j_lst); exact rfl)
    | (with_reducible (first | apply c_seq | apply c_rg | apply j_nil | apply q_n | apply c_ct | apply c_cf | apply c_bl | apply c_ex | apply c_ret | apply c_sk | apply q_r | apply q_e | apply b_r | apply b_e | apply b_n | apply n_n | apply n_r | apply n_e))
    | ((with_reducible apply v_lenstr); exact rfl; exact rfl; kernel_rfl)
    | ((with_reducible apply (v_bs0 (Ent.row))); exact rfl; exact rfl; exact rfl; exact rfl)
    | ((with_reducible apply c_l1); exact rfl; exact rfl)
    | ((with_reducible apply c_l2); exact rfl; exact rfl)
    | ((with_reducible apply c_l3); exact rfl)
    | ((with_reducible apply j_v); exact rfl; exact rfl)
    | ((with_reducible apply (v_bsf (d := 14) (Ent.row))); exact rfl; exact rfl; (focus (repeat' (first | exact row_nil | apply row_cons | exact Ent.row_mk _ _ | exact Ent.row_mk _ []))); exact rfl; exact rfl)
    | ((with_reducible apply (v_bsf (d := 21) (srow))); exact rfl; exact rfl; exact (row_cons (srow_mk _) (row_cons (srow_mk _) (row_cons (srow_mk _) (row_cons (srow_mk _) (row_cons (srow_mk _) (row_cons (srow_mk _) row_nil)))))); exact rfl; exact rfl)
    | ((with_reducible apply (v_bs (srow))); exact rfl; exact rfl; exact (row_cons (srow_mk _) (row_cons (srow_mk _) (row_cons (srow_mk _) (row_cons (srow_mk _) (row_cons (srow_mk _) (row_cons (srow_mk _) row_nil)))))); exact rfl)
    | ((with_reducible apply (v_bs (Ent.row))); exact rfl; exact rfl; (focus (repeat' (first | exact row_nil | apply row_cons | exact Ent.row_mk _ _ | exact Ent.row_mk _ []))); exact rfl)
    | ((with_reducible apply j_h); exact rfl; exact rfl)
    | ((with_reducible apply j_s); exact rfl)
    | ((with_reducible apply v_lenm); exact rfl; exact rfl; exact rfl; (exact hP); clear hP; intro hP)
    | ((with_reducible apply v_lens); exact rfl; exact rfl; exact rfl; (exact hP); clear hP; intro hP)
    | ((with_reducible apply j_len); exact rfl; exact rfl; exact rfl)
    | ((with_reducible apply j_len0); exact rfl; exact rfl; exact rfl)
    | ((with_reducible apply j_ld_el1); exact rfl; exact rfl; exact rfl; exact rfl; (first | with_reducible assumption | exact gt_row (by omega) (by omega) | exact rfl); exact rfl)
    | ((with_reducible apply v_ia); exact rfl; exact rfl; exact rfl; exact rfl; (case inst => exact inferInstance); exact rfl; exact rfl; (first | with_reducible assumption | (apply chk_c; exact hP; (first | (guard_target = Prop; rotate_left 1) | skip))))
    | ((with_reducible apply v_iasl); exact rfl; exact rfl; exact rfl; exact rfl; (first | with_reducible assumption | (apply chk_c; exact hP; (first | (guard_target = Prop; rotate_left 1) | skip))))
    | ((with_reducible apply j_ia_ar); exact rfl; exact rfl; exact rfl; exact rfl; ((repeat ((fail_if_success (have hTest : Hld False := hP)); (have hq := chk_c hP); (replace hP := chk_p hP))); first | with_reducible assumption | (apply chk_c; exact hP; (first | (guard_target = Prop; rotate_left 1) | skip))); ((repeat ((fail_if_success (have hTest : Hld False := hP)); (have hq := chk_c hP); (replace hP := chk_p hP))); first | with_reducible assumption | (apply chk_c; exact hP; (first | (guard_target = Prop; rotate_left 1) | skip))); (first | with_reducible exact Int.toNat_natCast _ | exact rfl))
    | ((apply (v_ste (f := Ent.row))); exact rfl; exact rfl; (case inst => exact inferInstance); exact rfl; exact rfl; exact rfl; exact rfl; exact rfl; exact congrArg some (Ent.row_mk _ _); (first | with_reducible assumption | (apply chk_c; exact hP; (first | (guard_target = Prop; rotate_left 1) | skip))))
    | ((with_reducible apply (v_ap (Ent.row))); exact rfl; exact rfl; exact rfl; exact rfl; exact rfl; exact rfl; exact rfl; (first | exact rfl | exact row_one (Ent.row_mk _ _) | exact row_nil); exact rfl; exact rfl; exact rfl; (first | (apply src_sl; exact rfl; exact rfl; exact rfl) | (apply src_sl; exact rfl; exact rfl; rw [List.length_map]; omega) | (apply src_sl; exact rfl; exact rfl; exact List.length_map _) | (apply src_nil; exact rfl) | (apply src_d; exact rfl; (intro row hrow; obtain ⟨q, _, rfl⟩ := List.mem_map.1 hrow; rfl))); (first | exact rfl | exact row_one (Ent.row_mk _ _) | exact row_nil); exact rfl; exact rfl; exact rfl; (first | with_reducible assumption | (apply chk_c; exact hP; (first | (guard_target = Prop; rotate_left 1) | skip))))
    | ((with_reducible apply (v_ap0 (Ent.row))); exact rfl; exact rfl; exact rfl; exact rfl; exact rfl; exact rfl; (first | (apply src_sl; exact rfl; exact rfl; exact rfl) | (apply src_sl; exact rfl; exact rfl; rw [List.length_map]; omega) | (apply src_sl; exact rfl; exact rfl; exact List.length_map _) | (apply src_nil; exact rfl) | (apply src_d; exact rfl; (intro row hrow; obtain ⟨q, _, rfl⟩ := List.mem_map.1 hrow; rfl))); (first | exact rfl | exact row_one (Ent.row_mk _ _) | exact row_nil); exact rfl; exact rfl; exact rfl; (first | with_reducible assumption | (apply chk_c; exact hP; (first | (guard_target = Prop; rotate_left 1) | skip))))
    | ((with_reducible apply c_c); exact rfl; (first | with_reducible assumption | with_reducible exact Eq.refl true | with_reducible exact Eq.refl false | (with_reducible refine not_t ?_; with_reducible assumption) | (with_reducible refine not_f ?_; with_reducible assumption) | (refine dec_t ?_; decide) | (refine dec_f ?_; decide)))
    | ((with_reducible apply b_o); exact rfl)
    | ((with_reducible apply r_g); exact rfl; (· repeat' (first | exact True.intro | refine And.intro ?_ ?_ | (show (_ : Nat) = _; (first | exact rfl | exact (List.length_map _).symm | omega | (simp only [List.length_set, List.length_map, List.length_append] <;> omega) | (simp; done))))); (exact hP.out))
    | ((with_reducible apply v_ndp (pu := false)); exact rfl; exact ⟨rfl, rfl⟩; (first | (apply (next_nd _); rotate_left 1)); (focus ((repeat' (first | exact .nil _ | refine PsL.cons ?_ ?_ | refine PsSL.cons ?_ ?_ | exact .one (.d _ _) | exact .one psc_nilm | exact psc_nilm | exact .one (.nil _) | exact .one (.nn _) | exact .one (.tape _) | exact .one (.fn _ _) | exact .agg (.same _ _) | refine .agg ?_ | exact .d _ _ | exact .one (.sl rfl rfl) | exact .one (.sl rfl (List.length_map _).symm) | exact .sl rfl rfl | exact .sl rfl (List.length_map _).symm | exact .same _ _)) <;> fail)); exact .inr (fun _ => rfl); (exact hP); clear hP; intro x hx hP)
    | ((with_reducible apply v_ndp (pu := true)); exact rfl; exact ⟨rfl, rfl⟩; (first | (apply (next_nd _); rotate_left 1)); (focus ((repeat' (first | exact .nil _ | refine PsL.cons ?_ ?_ | refine PsSL.cons ?_ ?_ | exact .one (.d _ _) | exact .one psc_nilm | exact psc_nilm | exact .one (.nil _) | exact .one (.nn _) | exact .one (.tape _) | exact .one (.fn _ _) | exact .agg (.same _ _) | refine .agg ?_ | exact .d _ _ | exact .one (.sl rfl rfl) | exact .one (.sl rfl (List.length_map _).symm) | exact .sl rfl rfl | exact .sl rfl (List.length_map _).symm | exact .same _ _)) <;> fail)); exact .inl rfl; (exact hP); clear hP; intro x hx hP)
    | ((with_reducible apply v_gs); exact rfl; exact rfl; (exact hP); all_goals (clear hP; intro hg hP))
    | ((with_reducible apply v_if); exact rfl; (exact hP); all_goals (clear hP; intro hc hP)))
noncomputable def few_V (l : List Ent) (Q : SV → Prop) : Σ' P : Prop, (P → ICt 31 [.one (.d (.list (List.map Ent.row l)))] Q) := by
  apply mkV; intro hP
  refine ic_wk (K 33) Try.func31 rfl rfl rfl rfl (fun w0 => ?_)
  apply (v_klist (x := 0)); exact rfl; exact hP; clear hP; intro hP
  repeat' (first
    | ((fail_if_success (have hTest : Hld False := hP)); (have hq := chk_c hP); (replace hP := chk_p hP))
    | ((with_reducible apply j_lst); exact rfl)
    | (with_reducible (first | apply c_seq | apply c_rg | apply j_nil | apply q_n | apply g_tt | apply g_ff | apply c_ct | apply c_cf | apply c_bl | apply c_ex | apply c_ret | apply c_sk | apply q_r | apply q_e | apply b_r | apply b_e | apply b_n | apply n_n | apply n_r | apply n_e))
    | ((with_reducible apply v_lenstr); exact rfl; exact rfl; kernel_rfl)
    | ((with_reducible apply c_l1); exact rfl; exact rfl)
    | ((with_reducible apply c_l2); exact rfl; exact rfl)
    | ((with_reducible apply c_l3); exact rfl)
    | ((with_reducible apply j_v); exact rfl; exact rfl)
    | ((with_reducible apply j_g); exact rfl; exact rfl; (first | with_reducible assumption | with_reducible exact Eq.refl true | with_reducible exact Eq.refl false | (with_reducible refine not_t ?_; with_reducible assumption) | (with_reducible refine not_f ?_; with_reducible assumption) | (refine dec_t ?_; decide) | (refine dec_f ?_; decide)))
    | ((with_reducible apply g_tf); exact rfl)
    | ((with_reducible apply g_ft); exact rfl)
    | ((with_reducible apply j_gz); exact rfl; exact rfl; exact rfl)
    | ((with_reducible apply v_lenm); exact rfl; exact rfl; exact rfl; (exact hP); clear hP; intro hP)
    | ((with_reducible apply v_lens); exact rfl; exact rfl; exact rfl; (exact hP); clear hP; intro hP)
    | ((with_reducible apply j_len); exact rfl; exact rfl; exact rfl)
    | ((with_reducible apply j_len0); exact rfl; exact rfl; exact rfl)
    | ((with_reducible apply j_pk); exact rfl; exact rfl; (first | with_reducible assumption | with_reducible exact Eq.refl true | with_reducible exact Eq.refl false | (with_reducible refine not_t ?_; with_reducible assumption) | (with_reducible refine not_f ?_; with_reducible assumption) | (refine dec_t ?_; decide) | (refine dec_f ?_; decide)); exact rfl)
    | ((with_reducible apply j_ld_el1); exact rfl; exact rfl; exact rfl; exact rfl; (first | with_reducible assumption | exact gt_row (by omega) (by omega) | exact rfl); exact rfl)
    | ((with_reducible apply j_add); exact rfl; exact rfl; exact rfl; exact rfl)
    | ((with_reducible apply v_ia); exact rfl; exact rfl; exact rfl; exact rfl; (case inst => exact inferInstance); exact rfl; exact rfl; (first | with_reducible assumption | (apply chk_c; exact hP; (first | (guard_target = Prop; rotate_left 1) | skip))))
    | ((with_reducible apply v_iasl); exact rfl; exact rfl; exact rfl; exact rfl; (first | with_reducible assumption | (apply chk_c; exact hP; (first | (guard_target = Prop; rotate_left 1) | skip))))
    | ((with_reducible apply j_ia_ar); exact rfl; exact rfl; exact rfl; exact rfl; ((repeat ((fail_if_success (have hTest : Hld False := hP)); (have hq := chk_c hP); (replace hP := chk_p hP))); first | with_reducible assumption | (apply chk_c; exact hP; (first | (guard_target = Prop; rotate_left 1) | skip))); ((repeat ((fail_if_success (have hTest : Hld False := hP)); (have hq := chk_c hP); (replace hP := chk_p hP))); first | with_reducible assumption | (apply chk_c; exact hP; (first | (guard_target = Prop; rotate_left 1) | skip))); (first | with_reducible exact Int.toNat_natCast _ | exact rfl))
    | ((with_reducible apply c_c); exact rfl; (first | with_reducible assumption | with_reducible exact Eq.refl true | with_reducible exact Eq.refl false | (with_reducible refine not_t ?_; with_reducible assumption) | (with_reducible refine not_f ?_; with_reducible assumption) | (refine dec_t ?_; decide) | (refine dec_f ?_; decide)))
    | ((with_reducible apply b_o); exact rfl)
    | ((with_reducible apply r_g); exact rfl; (· repeat' (first | exact True.intro | refine And.intro ?_ ?_ | (show (_ : Nat) = _; (first | exact rfl | exact (List.length_map _).symm | omega | (simp only [List.length_set, List.length_map, List.length_append] <;> omega) | (simp; done))))); (exact hP.out))
    | ((with_reducible refine v_loopat (c := (.seq (.seq (.region 3 _ _) _) _)) ?_); (apply (v_loop2 _ _ [0] [] (fun x1 x2 => [(3, .one (.d (.int .i64 x1))), (4, .one (.d (.int .i64 x2)))]) (fun x1 x2 => []) [])); exact rfl; exact rfl; exact ⟨(by repeat' (first | exact .nil | exact .nil _ | refine .cons ?_ ?_ | exact .u _ | exact SVle_pl rfl | refine .one ?_ | refine .agg ?_ | exact .d rfl | exact .ref rfl rfl | exact .sl rfl (by first | rfl | omega | (rw [List.length_append, List.length_map]; show _ + 1 = _; omega) | simp) | exact .fn _ | exact .tape | exact .nils rfl | exact .nild | exact .nildm | exact .nil | exact .rp (by simp) | exact .clo (by simp) | exact .el rfl rfl rfl | exact .d (by first | rfl | (congr 1; omega) | (congr 1; assumption) | simp) | exact .virt rfl | exact .gone _ | refine .blk rfl ?_ | exact .arr rfl (by first | rfl | assumption | simp))), (by repeat' (first | exact .nil | exact .nil _ | refine .cons ?_ ?_ | exact .u _ | exact SVle_pl rfl | refine .one ?_ | refine .agg ?_ | exact .d rfl | exact .ref rfl rfl | exact .sl rfl (by first | rfl | omega | (rw [List.length_append, List.length_map]; show _ + 1 = _; omega) | simp) | exact .fn _ | exact .tape | exact .nils rfl | exact .nild | exact .nildm | exact .nil | exact .rp (by simp) | exact .clo (by simp) | exact .el rfl rfl rfl | exact .d (by first | rfl | (congr 1; omega) | (congr 1; assumption) | simp) | exact .virt rfl | exact .gone _ | refine .blk rfl ?_ | exact .arr rfl (by first | rfl | assumption | simp)))⟩; (exact hP); clear hP; intro I μ x1 x2 hP)
    | ((with_reducible apply (v_nxt2 (a1 := _) (a2 := _))); (repeat' (first | exact .nil | exact .nil _ | refine .cons ?_ ?_ | exact .u _ | exact SVle_pl rfl | refine .one ?_ | refine .agg ?_ | exact .d rfl | exact .ref rfl rfl | exact .sl rfl (by first | rfl | exact List.length_set.symm | exact (splT_len (by simp only [List.length_take, List.length_drop]; omega)).symm | omega | (rw [List.length_append, List.length_map]; show _ + 1 = _; omega) | simp) | exact .fn _ | exact .tape | exact .nils rfl | exact .nild | exact .nildm | exact .nil | exact .rp (by simp) | exact .clo (by simp) | exact .el rfl rfl rfl | exact .d (by first | rfl | (congr 1; omega) | (congr 1; assumption) | simp) | exact .virt rfl | exact .gone _ | refine .blk rfl ?_ | exact .arr rfl (by first | rfl | assumption | simp))); (repeat' (first | exact .nil | exact .nil _ | refine .cons ?_ ?_ | exact .u _ | exact SVle_pl rfl | refine .one ?_ | refine .agg ?_ | exact .d rfl | exact .ref rfl rfl | exact .sl rfl (by first | rfl | exact List.length_set.symm | exact (splT_len (by simp only [List.length_take, List.length_drop]; omega)).symm | omega | (rw [List.length_append, List.length_map]; show _ + 1 = _; omega) | simp) | exact .fn _ | exact .tape | exact .nils rfl | exact .nild | exact .nildm | exact .nil | exact .rp (by simp) | exact .clo (by simp) | exact .el rfl rfl rfl | exact .d (by first | rfl | (congr 1; omega) | (congr 1; assumption) | simp) | exact .virt rfl | exact .gone _ | refine .blk rfl ?_ | exact .arr rfl (by first | rfl | assumption | simp))); (exact hP))
    | ((with_reducible refine v_rgat (i := 5) ?_); (refine n_start (by kernel_rfl) ?_; (refine n_quiet none #[true, true, true, true, true, true, true, true, true, true, true, true, true, true, true, true] [0, 1, 2, 3, 4, 5, 6, 7, 8, 9, 10, 11, 12, 13, 14, 15] 0 rfl ?_; (repeat' (first | ((fail_if_success (have hTest : Hld False := hP)); (have hq := chk_c hP); (replace hP := chk_p hP)) | ((with_reducible apply (d_e (some []))); exact rfl; exact rfl; kernel_rfl; kernel_rfl; exact rfl; exact rfl; (first | ((with_reducible apply e_v); exact rfl) | ((with_reducible apply e_lenm); exact rfl; exact rfl) | ((with_reducible apply e_lens); exact rfl; exact rfl) | ((with_reducible apply e_len); exact rfl; exact rfl) | ((with_reducible apply e_len0); exact rfl; exact rfl) | ((with_reducible apply e_ld_el1); exact rfl; exact rfl; exact rfl; (first | with_reducible assumption | exact gt_row (by omega) (by omega) | exact rfl); exact rfl) | ((with_reducible apply e_ld_eln); exact rfl; exact rfl; exact rfl; (first | with_reducible assumption | exact gt_row (by omega) (by omega) | exact rfl); exact Nat.le_of_ble_eq_true rfl) | ((with_reducible apply e_add); exact rfl; exact rfl; exact rfl) | ((with_reducible apply f_ia); exact rfl; exact rfl; exact rfl; (case inst => exact inferInstance); exact rfl; exact rfl; (first | with_reducible assumption | (apply chk_c; exact hP; (first | (guard_target = Prop; rotate_left 1) | skip)))) | ((with_reducible apply f_iasl); exact rfl; exact rfl; exact rfl; (first | with_reducible assumption | (apply chk_c; exact hP; (first | (guard_target = Prop; rotate_left 1) | skip)))) | ((with_reducible apply e_ia_ar); exact rfl; exact rfl; exact rfl; ((repeat ((fail_if_success (have hTest : Hld False := hP)); (have hq := chk_c hP); (replace hP := chk_p hP))); first | with_reducible assumption | (apply chk_c; exact hP; (first | (guard_target = Prop; rotate_left 1) | skip))); ((repeat ((fail_if_success (have hTest : Hld False := hP)); (have hq := chk_c hP); (replace hP := chk_p hP))); first | with_reducible assumption | (apply chk_c; exact hP; (first | (guard_target = Prop; rotate_left 1) | skip))); (first | with_reducible exact Int.toNat_natCast _ | exact rfl)) | ((with_reducible apply f_lenstr); exact rfl; kernel_rfl))) | ((with_reducible apply d_leaf); exact (by decide +kernel)) | ((fail_if_success (have hTest : Hld False := hP)); (replace hP := bth_b hP)))); all_goals (first | ((with_reducible apply n_doneZ); exact rfl; exact (by decide +kernel)) | skip))))
    | ((with_reducible apply v_gs); exact rfl; exact rfl; (exact hP); all_goals (clear hP; intro hg hP))
    | ((with_reducible apply v_if); exact rfl; (exact hP); all_goals (clear hP; intro hc hP)))
def EntB (l : List Ent) : Prop := l.length ≤ 20 ∧ ∀ x ∈ l, x.nm.size ≤ 1000 ∧ x.dat.length ≤ 1000
theorem bent_nd (l : List Ent) : ICp (EntB l) 30 [.one .tape, ev l] (ND (fun l : List Ent => EntB l) ev) := fun hl => (bent_V l _).2 (by
  obtain ⟨hl, he⟩ := hl
  (delta bent_V; dsimp only [mkV])
  (repeat' (first | with_reducible refine brn_nd (fun h => ?_) (fun h => ?_) | with_reducible refine brn_d (fun h => ?_) (fun h => ?_) | with_reducible refine brn_nn (fun h => ?_) (fun h => ?_) | with_reducible refine brn_nb (fun h => ?_) (fun h => ?_) | with_reducible refine Brn.mk (fun h => ?_) (fun h => ?_) | with_reducible refine Chk.mk ?_ ?_ | with_reducible refine Bth.mk ?_ ?_ | with_reducible refine Fct.mk (fun hf => ?_)))
  · simp; omega
  · refine ⟨_, ⟨by simp, fun x hx => ?_⟩, rfl⟩
    rw [List.mem_singleton] at hx; subst hx
    exact ⟨by decide, by simp⟩
  · rw [List.nil_append] at *; omega
  rw [List.nil_append] at *
  intro k hk
  (repeat' (first | with_reducible refine brn_nd (fun h => ?_) (fun h => ?_) | with_reducible refine brn_d (fun h => ?_) (fun h => ?_) | with_reducible refine brn_nn (fun h => ?_) (fun h => ?_) | with_reducible refine brn_nb (fun h => ?_) (fun h => ?_) | with_reducible refine Brn.mk (fun h => ?_) (fun h => ?_) | with_reducible refine Chk.mk ?_ ?_ | with_reducible refine Bth.mk ?_ ?_ | with_reducible refine Fct.mk (fun hf => ?_)))
  · omega
  intro m hm
  (repeat' (first | with_reducible refine brn_nd (fun h => ?_) (fun h => ?_) | with_reducible refine brn_d (fun h => ?_) (fun h => ?_) | with_reducible refine brn_nn (fun h => ?_) (fun h => ?_) | with_reducible refine brn_nb (fun h => ?_) (fun h => ?_) | with_reducible refine Brn.mk (fun h => ?_) (fun h => ?_) | with_reducible refine Chk.mk ?_ ?_ | with_reducible refine Bth.mk ?_ ?_ | with_reducible refine Fct.mk (fun hf => ?_)))
  · simp; omega
  refine ⟨_, ⟨by rw [List.length_set]; exact hl, fun x hx => ?_⟩, rfl⟩
  rcases List.mem_or_eq_of_mem_set hx with h | h
  · exact he x h
  · subst h
    refine ⟨?_, (he _ (gt_mem hk.1 hk.2)).2⟩
    refine (show ∀ (L : List ByteArray), (∀ y ∈ L, y.size ≤ 1000) → m < L.length → (gt L m).size ≤ 1000 from fun L h1 h2 => h1 _ (gt_mem hm.1 h2)) _ ?_ (by simpa using hm.2)
    intro y hy
    simp only [List.mem_cons, List.not_mem_nil, or_false] at hy
    rcases hy with h | h | h | h | h | h <;> subst h <;> decide)
def tot (l : List Ent) : Int := (l.map fun x => (x.dat.length : Int) + x.nm.size).sum
theorem tot_app (a b : List Ent) : tot (a ++ b) = tot a + tot b := by simp [tot]
theorem tot_pos (l : List Ent) : 0 ≤ tot l := by
  induction l with
  | nil => simp [tot]
  | cons x l ih => simp only [tot, List.map_cons, List.sum_cons] at ih ⊢; omega
theorem tot_le {l : List Ent} {B : Int} (h : ∀ x ∈ l, (x.dat.length : Int) + x.nm.size ≤ B) : tot l ≤ l.length * B := by
  induction l with
  | nil => simp [tot]
  | cons x l ih =>
    have h1 := h x List.mem_cons_self
    have h2 := ih fun y hy => h y (List.mem_cons_of_mem _ hy)
    simp only [tot, List.map_cons, List.sum_cons, List.length_cons] at h2 ⊢
    have : ((l.length + 1 : Nat) : Int) * B = l.length * B + B := by
      rw [Int.natCast_add, Int.add_mul]; simp
    omega
def fewB (l : List Ent) : Bool := decide (l.length ≤ 70) && decide (tot l ≤ 5000)
theorem few_ic (l : List Ent) : ICp (∀ x ∈ l, x.nm.size ≤ 140737488355328 ∧ x.dat.length ≤ 140737488355328) 31 [ev l] (fun v => v = bv (fewB l)) := fun hl => (few_V l _).2 (by
  have ets : ∀ z : Int, 0 ≤ z → z < l.length → l.take (z + 1).toNat = l.take z.toNat ++ [gt l z] := fun z h0 h1 => by
    rw [show (z + 1).toNat = z.toNat + 1 by omega, take_snoc (by omega), show ((z.toNat : Nat) : Int) = z by omega]
  (delta few_V; dsimp only [mkV])
  (repeat' (first | with_reducible refine brn_nd (fun h => ?_) (fun h => ?_) | with_reducible refine brn_d (fun h => ?_) (fun h => ?_) | with_reducible refine brn_nn (fun h => ?_) (fun h => ?_) | with_reducible refine brn_nb (fun h => ?_) (fun h => ?_) | with_reducible refine Brn.mk (fun h => ?_) (fun h => ?_) | with_reducible refine Chk.mk ?_ ?_ | with_reducible refine Bth.mk ?_ ?_ | with_reducible refine Fct.mk (fun hf => ?_)))
  refine lp2 (fun x z => 0 ≤ z ∧ z ≤ l.length ∧ (l.length ≤ 70 → x = tot (l.take z.toNat))) (fun _ z => ((l.length : Int) - z).toNat) ⟨by omega, by omega, fun _ => rfl⟩ ?_
  rintro I μ nx x z ⟨h0, h1, hx⟩
  (repeat' (first | with_reducible refine brn_nd (fun h => ?_) (fun h => ?_) | with_reducible refine brn_d (fun h => ?_) (fun h => ?_) | with_reducible refine brn_nn (fun h => ?_) (fun h => ?_) | with_reducible refine brn_nb (fun h => ?_) (fun h => ?_) | with_reducible refine Brn.mk (fun h => ?_) (fun h => ?_) | with_reducible refine Chk.mk ?_ ?_ | with_reducible refine Bth.mk ?_ ?_ | with_reducible refine Fct.mk (fun hf => ?_)))
  · omega
  · have hz : IntKind.i64.wrap (z + 1) = z + 1 := Go.IntWalk.i64_in _ (by omega)
    rw [hz]
    refine nx _ _ _ _ ⟨h0, h1, hx⟩ ⟨by omega, by omega, fun h70 => ?_⟩ (by omega)
    have h2 := hl _ (gt_mem h0 (by omega))
    have h3 := tot_le (l := l.take z.toNat) (B := 281474976710656) fun y hy => by have := hl y (List.mem_of_mem_take hy); omega
    have h4 := tot_pos (l.take z.toNat)
    rw [List.length_take] at h3
    have hx' := hx h70
    have e1 : IntKind.i64.wrap (((gt l z).dat.length : Int) + (gt l z).nm.size) = ((gt l z).dat.length : Int) + (gt l z).nm.size := Go.IntWalk.i64_in _ (by omega)
    rw [e1, Go.IntWalk.i64_in _ (by omega), ets z h0 (by omega), tot_app, hx']
    simp [tot]
  · have hx' := hx (by omega)
    rw [List.take_of_length_le (by omega)] at hx'
    unfold fewB
    rw [hx', show decide (l.length ≤ 70) = true from decide_eq_true (by omega)]; rfl
  · unfold fewB
    rw [show decide (l.length ≤ 70) = false from decide_eq_false (by omega)]; rfl)
end Go.Proofs.Ytbnmcdnkeipdhaa
