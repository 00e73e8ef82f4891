/- The law ProbeAnswers, walked. -/
import Derived.Test.YtlbganfjbbnkoaaWp
set_option linter.all false
set_option maxHeartbeats 4000000
namespace Go.Proofs.Ytlbganfjbbnkoaa
open Go.RowKit Go.Shelf
theorem all_at {c : Cl} (hv : validB c = true) {i : Nat} (h : i < (allL c).length) : (allL c)[i] = ansS c (i : Int) := by
  have h2 : (allL c)[i]? = some (ansS c (i : Int)) := by
    rw [allL_valid hv]
    exact allU_get (by rw [← all_len hv]; exact h)
  rw [List.getElem?_eq_getElem h] at h2
  injection h2
theorem ask_at {c : Cl} (hv : validB c = true) {i : Nat} (h : i < c.reps.length) : askS c (i : Int) = ansS c (i : Int) ∧ askE c (i : Int) = 0 := by
  have : exB c (i : Int) = true := (exB_iff _ _).2 ⟨by omega, by omega⟩
  unfold askS askE
  rw [hv, this]
  exact ⟨rfl, rfl⟩
theorem apply_reps {c : Cl} {x : XvR} (he : applyE c x = 0) : (applyC c x).reps.length = c.reps.length := by
  unfold applyC
  rw [if_pos he]
  unfold applyM
  split
  · rfl
  · split
    · simp
    · split
      · rfl
      · simp
theorem right_one {d : Cl} {x : EvR} {i : Nat} (hv : validB d = true) (hi : i < d.reps.length) (hx : x.rep = (i : Int)) : rightS d [x] = evEq x (ansS d (i : Int)) := by
  have : exB d (i : Int) = true := (exB_iff _ _).2 ⟨by omega, by omega⟩
  simp [rightS, hv, okEv, hx, this]
theorem Answers_il (l : List Int) : ILt 7 [lv l] := by
  refine il_wk (K 125) Try.func7 rfl rfl rfl rfl (fun w0 hw0 => ?_)
  by_cases hlen : 300 < l.length
  · have h1 : decide ((300 : Int) < (l.length : Int)) = true := by simp; omega
    repeat' (first
    | ((with_reducible apply c_l1); exact rfl; exact rfl)
    | ((with_reducible apply c_l2); exact rfl; exact rfl)
    | ((with_reducible apply c_l3); exact rfl)
    | (with_reducible (first | apply c_seq | apply c_rg | apply j_nil | apply q_n | apply g_tt | apply g_ff | apply c_ct | apply c_cf | apply c_bl | apply c_ex | apply c_ret | apply c_sk | apply q_r | apply q_e | apply b_r | apply b_e | apply b_n | apply n_n | apply n_r | apply n_e))
    | ((with_reducible apply j_tpa); exact hw0; exact rfl; exact rfl; exact rfl; exact rfl; exact rfl; exact rfl)
    | ((with_reducible apply j_v); exact rfl; exact rfl)
    | ((with_reducible apply j_h); exact rfl; exact rfl)
    | ((with_reducible apply j_s); exact rfl)
    | ((with_reducible apply j_g); exact rfl; exact rfl; (first | with_reducible assumption | with_reducible exact Eq.refl true | with_reducible exact Eq.refl false | (with_reducible refine not_t ?_; with_reducible assumption) | (with_reducible refine not_f ?_; with_reducible assumption) | (refine dec_t ?_; decide) | (refine dec_f ?_; decide)))
    | ((with_reducible apply g_tf); exact rfl)
    | ((with_reducible apply g_ft); exact rfl)
    | ((with_reducible apply j_gz); exact rfl; exact rfl; exact rfl)
    | ((with_reducible apply j_lenm); exact rfl; exact rfl; exact rfl)
    | ((with_reducible apply j_lens); exact rfl; exact rfl; exact rfl)
    | ((with_reducible apply j_len); exact rfl; exact rfl; exact rfl)
    | ((with_reducible apply j_len0); exact rfl; exact rfl; exact rfl)
    | ((with_reducible apply j_pk); exact rfl; exact rfl; (first | with_reducible assumption | with_reducible exact Eq.refl true | with_reducible exact Eq.refl false | (with_reducible refine not_t ?_; with_reducible assumption) | (with_reducible refine not_f ?_; with_reducible assumption) | (refine dec_t ?_; decide) | (refine dec_f ?_; decide)); exact rfl)
    | ((with_reducible apply j_beq); exact rfl; exact rfl; exact rfl; kernel_rfl)
    | ((with_reducible apply j_bne); exact rfl; exact rfl; exact rfl; kernel_rfl)
    | ((with_reducible apply j_ld_el1); exact rfl; exact rfl; exact rfl; exact rfl; (first | with_reducible assumption | exact map_get (by omega) | exact set_get (by simp; omega) | exact rfl); exact rfl)
    | ((with_reducible apply j_add); exact rfl; exact rfl; exact rfl; exact Go.IntWalk.i64_in _ (by omega))
    | ((with_reducible apply j_ia); exact rfl; exact rfl; exact rfl; exact rfl; omega; (first | with_reducible exact Int.toNat_natCast _ | exact rfl); (first | with_reducible assumption | exact map_get (by omega) | exact set_get (by simp; omega) | exact rfl); exact rfl; exact rfl)
    | ((with_reducible apply j_ia_sl); exact rfl; exact rfl; exact rfl; exact rfl; omega; omega; (first | with_reducible exact Int.toNat_natCast _ | exact rfl))
    | ((with_reducible apply j_ia_ar); exact rfl; exact rfl; exact rfl; exact rfl; omega; omega; (first | with_reducible exact Int.toNat_natCast _ | exact rfl))
    | ((with_reducible apply j_ste); exact rfl; exact rfl; exact rfl; exact rfl; exact rfl; exact rfl; (first | with_reducible assumption | exact map_get (by omega) | exact set_get (by simp; omega) | exact rfl); exact Nat.le_of_ble_eq_true rfl; exact rfl)
    | ((with_reducible apply c_c); exact rfl; (first | with_reducible assumption | with_reducible exact Eq.refl true | with_reducible exact Eq.refl false | (with_reducible refine not_t ?_; with_reducible assumption) | (with_reducible refine not_f ?_; with_reducible assumption) | (refine dec_t ?_; decide) | (refine dec_f ?_; decide)))
    | ((with_reducible apply b_o); exact rfl)
    | ((with_reducible apply r_g); exact rfl; (· repeat' (first | exact True.intro | refine And.intro ?_ ?_ | (first | exact rfl | exact (List.length_map _).symm | omega | (simp only [List.length_set, List.length_map, List.length_append] <;> omega) | (simp; done)))))
    | ((with_reducible apply j_call (pu := false)); exact rfl; exact awake_ic; (focus ((repeat' (first | exact .nil _ | refine .cons ?_ ?_ | exact .one (.d _ _) | exact .one (.nil _) | exact .one (.tape _) | exact .one (.fn _ _) | exact .agg (.same _ _) | refine .agg ?_ | exact .d _ _ | exact .one (.sl rfl rfl) | exact .sl rfl rfl | exact .same _ _)) <;> fail)); exact .inr rfl)
    | (with_reducible rfl)
    | ((with_reducible apply j_gs); exact rfl; exact rfl; all_goals intro hg)
    | ((with_reducible apply c_if); exact rfl; all_goals intro hc))
  have h1 : decide ((300 : Int) < (l.length : Int)) = false := by simp; omega
  repeat' (first
    | ((with_reducible apply c_l1); exact rfl; exact rfl)
    | ((with_reducible apply c_l2); exact rfl; exact rfl)
    | ((with_reducible apply c_l3); exact rfl)
    | (with_reducible (first | apply c_seq | apply c_rg | apply j_nil | apply q_n | apply g_tt | apply g_ff | apply c_ct | apply c_cf | apply c_bl | apply c_ex | apply c_ret | apply c_sk | apply q_r | apply q_e | apply b_r | apply b_e | apply b_n | apply n_n | apply n_r | apply n_e))
    | ((with_reducible apply j_tpa); exact hw0; exact rfl; exact rfl; exact rfl; exact rfl; exact rfl; exact rfl)
    | ((with_reducible apply j_v); exact rfl; exact rfl)
    | ((with_reducible apply j_h); exact rfl; exact rfl)
    | ((with_reducible apply j_s); exact rfl)
    | ((with_reducible apply j_g); exact rfl; exact rfl; (first | with_reducible assumption | with_reducible exact Eq.refl true | with_reducible exact Eq.refl false | (with_reducible refine not_t ?_; with_reducible assumption) | (with_reducible refine not_f ?_; with_reducible assumption) | (refine dec_t ?_; decide) | (refine dec_f ?_; decide)))
    | ((with_reducible apply g_tf); exact rfl)
    | ((with_reducible apply g_ft); exact rfl)
    | ((with_reducible apply j_gz); exact rfl; exact rfl; exact rfl)
    | ((with_reducible apply j_lenm); exact rfl; exact rfl; exact rfl)
    | ((with_reducible apply j_lens); exact rfl; exact rfl; exact rfl)
    | ((with_reducible apply j_len); exact rfl; exact rfl; exact rfl)
    | ((with_reducible apply j_len0); exact rfl; exact rfl; exact rfl)
    | ((with_reducible apply j_pk); exact rfl; exact rfl; (first | with_reducible assumption | with_reducible exact Eq.refl true | with_reducible exact Eq.refl false | (with_reducible refine not_t ?_; with_reducible assumption) | (with_reducible refine not_f ?_; with_reducible assumption) | (refine dec_t ?_; decide) | (refine dec_f ?_; decide)); exact rfl)
    | ((with_reducible apply j_beq); exact rfl; exact rfl; exact rfl; kernel_rfl)
    | ((with_reducible apply j_bne); exact rfl; exact rfl; exact rfl; kernel_rfl)
    | ((with_reducible apply j_ld_el1); exact rfl; exact rfl; exact rfl; exact rfl; (first | with_reducible assumption | exact map_get (by omega) | exact set_get (by simp; omega) | exact rfl); exact rfl)
    | ((with_reducible apply j_add); exact rfl; exact rfl; exact rfl; exact Go.IntWalk.i64_in _ (by omega))
    | ((with_reducible apply j_ia); exact rfl; exact rfl; exact rfl; exact rfl; omega; (first | with_reducible exact Int.toNat_natCast _ | exact rfl); (first | with_reducible assumption | exact map_get (by omega) | exact set_get (by simp; omega) | exact rfl); exact rfl; exact rfl)
    | ((with_reducible apply j_ia_sl); exact rfl; exact rfl; exact rfl; exact rfl; omega; omega; (first | with_reducible exact Int.toNat_natCast _ | exact rfl))
    | ((with_reducible apply j_ia_ar); exact rfl; exact rfl; exact rfl; exact rfl; omega; omega; (first | with_reducible exact Int.toNat_natCast _ | exact rfl))
    | ((with_reducible apply j_ste); exact rfl; exact rfl; exact rfl; exact rfl; exact rfl; exact rfl; (first | with_reducible assumption | exact map_get (by omega) | exact set_get (by simp; omega) | exact rfl); exact Nat.le_of_ble_eq_true rfl; exact rfl)
    | ((with_reducible apply c_c); exact rfl; (first | with_reducible assumption | with_reducible exact Eq.refl true | with_reducible exact Eq.refl false | (with_reducible refine not_t ?_; with_reducible assumption) | (with_reducible refine not_f ?_; with_reducible assumption) | (refine dec_t ?_; decide) | (refine dec_f ?_; decide)))
    | ((with_reducible apply b_o); exact rfl)
    | ((with_reducible apply r_g); exact rfl; (· repeat' (first | exact True.intro | refine And.intro ?_ ?_ | (first | exact rfl | exact (List.length_map _).symm | omega | (simp only [List.length_set, List.length_map, List.length_append] <;> omega) | (simp; done)))))
    | ((with_reducible apply j_callp (pu := true)); exact rfl; exact Cluster_ic; (focus ((repeat' (first | exact .nil _ | refine .cons ?_ ?_ | exact .one (.d _ _) | exact .one (.nil _) | exact .one (.tape _) | exact .one (.fn _ _) | exact .agg (.same _ _) | refine .agg ?_ | exact .d _ _ | exact .one (.sl rfl rfl) | exact .sl rfl rfl | exact .same _ _)) <;> fail)); exact .inl rfl; rintro _ ⟨c, hmc, rfl⟩)
    | (with_reducible rfl))
  have hv := hmc.v
  have hc0 : (!decide (checkS c = 0)) = false := by simp [checkS, hv]
  have hll := all_len hv
  have hl := valid_len hv
  have h2 : (!decide (((allL c).length : Int) = (c.reps.length : Int))) = false := by simp [hll]
  repeat' (first
    | ((with_reducible apply c_l1); exact rfl; exact rfl)
    | ((with_reducible apply c_l2); exact rfl; exact rfl)
    | ((with_reducible apply c_l3); exact rfl)
    | (with_reducible (first | apply c_seq | apply c_rg | apply j_nil | apply q_n | apply g_tt | apply g_ff | apply c_ct | apply c_cf | apply c_bl | apply c_ex | apply c_ret | apply c_sk | apply q_r | apply q_e | apply b_r | apply b_e | apply b_n | apply n_n | apply n_r | apply n_e))
    | ((with_reducible apply j_tpa); exact hw0; exact rfl; exact rfl; exact rfl; exact rfl; exact rfl; exact rfl)
    | ((with_reducible apply j_v); exact rfl; exact rfl)
    | ((with_reducible apply j_h); exact rfl; exact rfl)
    | ((with_reducible apply j_s); exact rfl)
    | ((with_reducible apply j_g); exact rfl; exact rfl; (first | with_reducible assumption | with_reducible exact Eq.refl true | with_reducible exact Eq.refl false | (with_reducible refine not_t ?_; with_reducible assumption) | (with_reducible refine not_f ?_; with_reducible assumption) | (refine dec_t ?_; decide) | (refine dec_f ?_; decide)))
    | ((with_reducible apply g_tf); exact rfl)
    | ((with_reducible apply g_ft); exact rfl)
    | ((with_reducible apply j_gz); exact rfl; exact rfl; exact rfl)
    | ((with_reducible apply j_lenm); exact rfl; exact rfl; exact rfl)
    | ((with_reducible apply j_lens); exact rfl; exact rfl; exact rfl)
    | ((with_reducible apply j_len); exact rfl; exact rfl; exact rfl)
    | ((with_reducible apply j_len0); exact rfl; exact rfl; exact rfl)
    | ((with_reducible apply j_pk); exact rfl; exact rfl; (first | with_reducible assumption | with_reducible exact Eq.refl true | with_reducible exact Eq.refl false | (with_reducible refine not_t ?_; with_reducible assumption) | (with_reducible refine not_f ?_; with_reducible assumption) | (refine dec_t ?_; decide) | (refine dec_f ?_; decide)); exact rfl)
    | ((with_reducible apply j_beq); exact rfl; exact rfl; exact rfl; kernel_rfl)
    | ((with_reducible apply j_bne); exact rfl; exact rfl; exact rfl; kernel_rfl)
    | ((with_reducible apply j_ld_el1); exact rfl; exact rfl; exact rfl; exact rfl; (first | with_reducible assumption | exact map_get (by omega) | exact set_get (by simp; omega) | exact rfl); exact rfl)
    | ((with_reducible apply j_add); exact rfl; exact rfl; exact rfl; exact Go.IntWalk.i64_in _ (by omega))
    | ((with_reducible apply j_ia); exact rfl; exact rfl; exact rfl; exact rfl; omega; (first | with_reducible exact Int.toNat_natCast _ | exact rfl); (first | with_reducible assumption | exact map_get (by omega) | exact set_get (by simp; omega) | exact rfl); exact rfl; exact rfl)
    | ((with_reducible apply j_ia_sl); exact rfl; exact rfl; exact rfl; exact rfl; omega; omega; (first | with_reducible exact Int.toNat_natCast _ | exact rfl))
    | ((with_reducible apply j_ia_ar); exact rfl; exact rfl; exact rfl; exact rfl; omega; omega; (first | with_reducible exact Int.toNat_natCast _ | exact rfl))
    | ((with_reducible apply j_ste); exact rfl; exact rfl; exact rfl; exact rfl; exact rfl; exact rfl; (first | with_reducible assumption | exact map_get (by omega) | exact set_get (by simp; omega) | exact rfl); exact Nat.le_of_ble_eq_true rfl; exact rfl)
    | ((with_reducible apply c_c); exact rfl; (first | with_reducible assumption | with_reducible exact Eq.refl true | with_reducible exact Eq.refl false | (with_reducible refine not_t ?_; with_reducible assumption) | (with_reducible refine not_f ?_; with_reducible assumption) | (refine dec_t ?_; decide) | (refine dec_f ?_; decide)))
    | ((with_reducible apply b_o); exact rfl)
    | ((with_reducible apply r_g); exact rfl; (· repeat' (first | exact True.intro | refine And.intro ?_ ?_ | (first | exact rfl | exact (List.length_map _).symm | omega | (simp only [List.length_set, List.length_map, List.length_append] <;> omega) | (simp; done)))))
    | ((with_reducible apply j_call (pu := true)); exact rfl; exact All_ic c; (focus ((repeat' (first | exact .nil _ | refine .cons ?_ ?_ | exact .one (.d _ _) | exact .one (.nil _) | exact .one (.tape _) | exact .one (.fn _ _) | exact .agg (.same _ _) | refine .agg ?_ | exact .d _ _ | exact .one (.sl rfl rfl) | exact .sl rfl rfl | exact .same _ _)) <;> fail)); exact .inl rfl)
    | (with_reducible rfl))
  refine c_any ((0 : Nat)) [3, 4, 5, 41, 42] [23, 4] (fun i => i ≤ (allL c).length) (fun i => (allL c).length - i) (Nat.zero_le _) (fun i => [(43, .one (.d (.int .i64 (i : Int))))]) (fun _ => []) [] rfl rfl ⟨(by repeat' (first | exact .nil | exact .nil _ | refine .cons ?_ ?_ | exact .u _ | exact SVle_pl rfl | refine .one ?_ | refine .agg ?_ | exact .d rfl | exact .ref rfl rfl | exact .sl rfl (by first | rfl | omega | (rw [List.length_append, List.length_map]; show _ + 1 = _; omega) | simp) | exact .fn _ | exact .tape | exact .nils rfl | exact .nild | exact .nil | exact .rp (by simp) | exact .clo (by simp) | exact .el rfl rfl rfl | exact .d (by first | rfl | (congr 1; omega) | (congr 1; assumption) | simp) | exact .virt rfl | exact .gone _ | refine .blk rfl ?_ | exact .arr rfl (by first | rfl | assumption | simp))), (by repeat' (first | exact .nil | exact .nil _ | refine .cons ?_ ?_ | exact .u _ | exact SVle_pl rfl | refine .one ?_ | refine .agg ?_ | exact .d rfl | exact .ref rfl rfl | exact .sl rfl (by first | rfl | omega | (rw [List.length_append, List.length_map]; show _ + 1 = _; omega) | simp) | exact .fn _ | exact .tape | exact .nils rfl | exact .nild | exact .nil | exact .rp (by simp) | exact .clo (by simp) | exact .el rfl rfl rfl | exact .d (by first | rfl | (congr 1; omega) | (congr 1; assumption) | simp) | exact .virt rfl | exact .gone _ | refine .blk rfl ?_ | exact .arr rfl (by first | rfl | assumption | simp)))⟩ ?_
  intro i hi
  by_cases hlt : i < (allL c).length
  · have h3 := dlt hlt
    have hir : i < c.reps.length := by omega
    obtain ⟨q1, q2⟩ := ask_at hv hir
    have q3 := all_at hv hlt
    have q4 : (!decide (askE c (i : Int) = 0)) = false := by simp [q2]
    have q5 : (!evEq (allL c)[i] (askS c (i : Int))) = false := by rw [q3, q1, evEq_self]; rfl
    have q6 : (!decide ((allL c)[i].rep = (i : Int))) = false := by rw [q3]; simp [ansS]
    have q7 : (!decide ((allL c)[i].gen = (c.reps[i]).gen)) = false := by rw [q3]; simp [ansS, Cl.rep, hir]
    have q8 : ((allL c)[i].ref == accS c (i : Int) 1) = false := by rw [q3]; simp [ansS]
    repeat' (first
    | ((with_reducible apply c_l1); exact rfl; exact rfl)
    | ((with_reducible apply c_l2); exact rfl; exact rfl)
    | ((with_reducible apply c_l3); exact rfl)
    | (with_reducible (first | apply c_seq | apply c_rg | apply j_nil | apply q_n | apply g_tt | apply g_ff | apply c_ct | apply c_cf | apply c_bl | apply c_ex | apply c_ret | apply c_sk | apply q_r | apply q_e | apply b_r | apply b_e | apply b_n | apply n_n | apply n_r | apply n_e))
    | ((with_reducible apply j_tpa); exact hw0; exact rfl; exact rfl; exact rfl; exact rfl; exact rfl; exact rfl)
    | ((with_reducible apply j_v); exact rfl; exact rfl)
    | ((with_reducible apply j_h); exact rfl; exact rfl)
    | ((with_reducible apply j_s); exact rfl)
    | ((with_reducible apply j_g); exact rfl; exact rfl; (first | with_reducible assumption | with_reducible exact Eq.refl true | with_reducible exact Eq.refl false | (with_reducible refine not_t ?_; with_reducible assumption) | (with_reducible refine not_f ?_; with_reducible assumption) | (refine dec_t ?_; decide) | (refine dec_f ?_; decide)))
    | ((with_reducible apply g_tf); exact rfl)
    | ((with_reducible apply g_ft); exact rfl)
    | ((with_reducible apply j_gz); exact rfl; exact rfl; exact rfl)
    | ((with_reducible apply j_lenm); exact rfl; exact rfl; exact rfl)
    | ((with_reducible apply j_lens); exact rfl; exact rfl; exact rfl)
    | ((with_reducible apply j_len); exact rfl; exact rfl; exact rfl)
    | ((with_reducible apply j_len0); exact rfl; exact rfl; exact rfl)
    | ((with_reducible apply j_pk); exact rfl; exact rfl; (first | with_reducible assumption | with_reducible exact Eq.refl true | with_reducible exact Eq.refl false | (with_reducible refine not_t ?_; with_reducible assumption) | (with_reducible refine not_f ?_; with_reducible assumption) | (refine dec_t ?_; decide) | (refine dec_f ?_; decide)); exact rfl)
    | ((with_reducible apply j_beq); exact rfl; exact rfl; exact rfl; kernel_rfl)
    | ((with_reducible apply j_bne); exact rfl; exact rfl; exact rfl; kernel_rfl)
    | ((with_reducible apply j_ld_el1); exact rfl; exact rfl; exact rfl; exact rfl; (first | with_reducible assumption | exact map_get (by omega) | exact set_get (by simp; omega) | exact rfl); exact rfl)
    | ((with_reducible apply j_add); exact rfl; exact rfl; exact rfl; exact Go.IntWalk.i64_in _ (by omega))
    | ((with_reducible apply j_ia); exact rfl; exact rfl; exact rfl; exact rfl; omega; (first | with_reducible exact Int.toNat_natCast _ | exact rfl); (first | with_reducible assumption | exact map_get (by omega) | exact set_get (by simp; omega) | exact rfl); exact rfl; exact rfl)
    | ((with_reducible apply j_ia_sl); exact rfl; exact rfl; exact rfl; exact rfl; omega; omega; (first | with_reducible exact Int.toNat_natCast _ | exact rfl))
    | ((with_reducible apply j_ia_ar); exact rfl; exact rfl; exact rfl; exact rfl; omega; omega; (first | with_reducible exact Int.toNat_natCast _ | exact rfl))
    | ((with_reducible apply j_ste); exact rfl; exact rfl; exact rfl; exact rfl; exact rfl; exact rfl; (first | with_reducible assumption | exact map_get (by omega) | exact set_get (by simp; omega) | exact rfl); exact Nat.le_of_ble_eq_true rfl; exact rfl)
    | ((with_reducible apply c_c); exact rfl; (first | with_reducible assumption | with_reducible exact Eq.refl true | with_reducible exact Eq.refl false | (with_reducible refine not_t ?_; with_reducible assumption) | (with_reducible refine not_f ?_; with_reducible assumption) | (refine dec_t ?_; decide) | (refine dec_f ?_; decide)))
    | ((with_reducible apply b_o); exact rfl)
    | ((with_reducible apply r_g); exact rfl; (· repeat' (first | exact True.intro | refine And.intro ?_ ?_ | (first | exact rfl | exact (List.length_map _).symm | omega | (simp only [List.length_set, List.length_map, List.length_append] <;> omega) | (simp; done)))))
    | ((with_reducible apply j_call (pu := true)); exact rfl; exact Ask_ic c i; (focus ((repeat' (first | exact .nil _ | refine .cons ?_ ?_ | exact .one (.d _ _) | exact .one (.nil _) | exact .one (.tape _) | exact .one (.fn _ _) | exact .agg (.same _ _) | refine .agg ?_ | exact .d _ _ | exact .one (.sl rfl rfl) | exact .sl rfl rfl | exact .same _ _)) <;> fail)); exact .inl rfl)
    | (with_reducible rfl)
    | ((with_reducible apply j_gs); exact rfl; exact rfl; all_goals intro hg)
    | ((with_reducible apply c_if); exact rfl; all_goals intro hc))
    (refine n_start (by kernel_rfl) ?_; (refine n_quiet none #[true, true, true, true, true, true, true, true, true, true, true, true, true, true, true, true, true, true, true, true, true, true, true, true, true, true, true, true, true, true, true, true] [0, 1, 2, 3, 4, 5, 6, 7, 8, 9, 10, 11, 12, 13, 14, 15, 16, 17, 18, 19, 20, 21, 22, 23, 24, 25, 26, 27, 28, 29, 30, 31] 0 rfl ?_; (repeat' (first | ((with_reducible apply (d_e (some []))); exact rfl; exact rfl; kernel_rfl; kernel_rfl; exact rfl; exact rfl; (first | ((with_reducible apply e_v); exact rfl) | ((with_reducible apply e_pk); exact rfl; (first | with_reducible assumption | with_reducible exact Eq.refl true | with_reducible exact Eq.refl false | (with_reducible refine not_t ?_; with_reducible assumption) | (with_reducible refine not_f ?_; with_reducible assumption) | (refine dec_t ?_; decide) | (refine dec_f ?_; decide)); exact rfl) | ((with_reducible apply e_beq); exact rfl; exact rfl; kernel_rfl) | ((with_reducible apply e_ld_el1); exact rfl; exact rfl; exact rfl; (first | with_reducible assumption | exact map_get (by omega) | exact set_get (by simp; omega) | exact rfl); exact rfl) | ((with_reducible apply e_ld_eln); exact rfl; exact rfl; exact rfl; (first | with_reducible assumption | exact map_get (by omega) | exact set_get (by simp; omega) | exact rfl); exact Nat.le_of_ble_eq_true rfl) | ((with_reducible apply e_ia); exact rfl; exact rfl; exact rfl; omega; (first | with_reducible exact Int.toNat_natCast _ | exact rfl); (first | with_reducible assumption | exact map_get (by omega) | exact set_get (by simp; omega) | exact rfl); exact rfl; exact rfl) | ((with_reducible apply e_ia_sl); exact rfl; exact rfl; exact rfl; omega; omega; (first | with_reducible exact Int.toNat_natCast _ | exact rfl)) | ((with_reducible apply e_ia_ar); exact rfl; exact rfl; exact rfl; omega; omega; (first | with_reducible exact Int.toNat_natCast _ | exact rfl)) | ((with_reducible apply e_call (pu := false)); exact rfl; exact Acceptr_ic c i 1; (focus ((repeat' (first | exact .nil _ | refine .cons ?_ ?_ | exact .one (.d _ _) | exact .one (.nil _) | exact .one (.tape _) | exact .one (.fn _ _) | exact .agg (.same _ _) | refine .agg ?_ | exact .d _ _ | exact .one (.sl rfl rfl) | exact .sl rfl rfl | exact .same _ _)) <;> fail)); exact .inr rfl) | exact e_sne ev_eqT rfl rfl rfl (ev_cells (allL c)[i] (askS c (i : Int))))) | ((with_reducible apply (d_ey (some []))); exact rfl; exact rfl; exact rfl; (first | with_reducible assumption | with_reducible rfl | (with_reducible refine not_t ?_; with_reducible assumption) | (with_reducible refine not_f ?_; with_reducible assumption) | decide); exact rfl; kernel_rfl; kernel_rfl; exact rfl; exact rfl; (first | ((with_reducible apply e_v); exact rfl) | ((with_reducible apply e_pk); exact rfl; (first | with_reducible assumption | with_reducible exact Eq.refl true | with_reducible exact Eq.refl false | (with_reducible refine not_t ?_; with_reducible assumption) | (with_reducible refine not_f ?_; with_reducible assumption) | (refine dec_t ?_; decide) | (refine dec_f ?_; decide)); exact rfl) | ((with_reducible apply e_beq); exact rfl; exact rfl; kernel_rfl) | ((with_reducible apply e_ld_el1); exact rfl; exact rfl; exact rfl; (first | with_reducible assumption | exact map_get (by omega) | exact set_get (by simp; omega) | exact rfl); exact rfl) | ((with_reducible apply e_ld_eln); exact rfl; exact rfl; exact rfl; (first | with_reducible assumption | exact map_get (by omega) | exact set_get (by simp; omega) | exact rfl); exact Nat.le_of_ble_eq_true rfl) | ((with_reducible apply e_ia); exact rfl; exact rfl; exact rfl; omega; (first | with_reducible exact Int.toNat_natCast _ | exact rfl); (first | with_reducible assumption | exact map_get (by omega) | exact set_get (by simp; omega) | exact rfl); exact rfl; exact rfl) | ((with_reducible apply e_ia_sl); exact rfl; exact rfl; exact rfl; omega; omega; (first | with_reducible exact Int.toNat_natCast _ | exact rfl)) | ((with_reducible apply e_ia_ar); exact rfl; exact rfl; exact rfl; omega; omega; (first | with_reducible exact Int.toNat_natCast _ | exact rfl)) | ((with_reducible apply e_call (pu := false)); exact rfl; exact Acceptr_ic c i 1; (focus ((repeat' (first | exact .nil _ | refine .cons ?_ ?_ | exact .one (.d _ _) | exact .one (.nil _) | exact .one (.tape _) | exact .one (.fn _ _) | exact .agg (.same _ _) | refine .agg ?_ | exact .d _ _ | exact .one (.sl rfl rfl) | exact .sl rfl rfl | exact .same _ _)) <;> fail)); exact .inr rfl) | exact e_sne ev_eqT rfl rfl rfl (ev_cells (allL c)[i] (askS c (i : Int))))) | ((with_reducible apply d_gn); exact rfl; exact rfl; exact rfl; (first | with_reducible assumption | with_reducible rfl | (with_reducible refine not_t ?_; with_reducible assumption) | (with_reducible refine not_f ?_; with_reducible assumption) | decide); exact rfl; kernel_rfl; kernel_rfl; exact rfl; exact rfl) | ((with_reducible apply d_gm); exact rfl; exact rfl; exact rfl; (first | with_reducible assumption | with_reducible rfl | (with_reducible refine not_t ?_; with_reducible assumption) | (with_reducible refine not_f ?_; with_reducible assumption) | decide); exact rfl; kernel_rfl; kernel_rfl; exact rfl; exact rfl) | ((with_reducible apply d_gz); exact rfl; exact rfl; exact rfl; exact rfl; kernel_rfl; kernel_rfl; exact rfl; exact rfl) | ((with_reducible apply d_gs); exact rfl; exact rfl; exact rfl; all_goals intro hg) | ((with_reducible apply d_leaf); exact (by decide +kernel)))); all_goals ((with_reducible apply n_doneZ); exact rfl; exact (by decide +kernel))))
    repeat' (first
    | ((with_reducible apply c_l1); exact rfl; exact rfl)
    | ((with_reducible apply c_l2); exact rfl; exact rfl)
    | ((with_reducible apply c_l3); exact rfl)
    | (with_reducible (first | apply c_seq | apply c_rg | apply j_nil | apply q_n | apply g_tt | apply g_ff | apply c_ct | apply c_cf | apply c_bl | apply c_ex | apply c_ret | apply c_sk | apply q_r | apply q_e | apply b_r | apply b_e | apply b_n | apply n_n | apply n_r | apply n_e))
    | ((with_reducible apply j_tpa); exact hw0; exact rfl; exact rfl; exact rfl; exact rfl; exact rfl; exact rfl)
    | ((with_reducible apply j_v); exact rfl; exact rfl)
    | ((with_reducible apply j_h); exact rfl; exact rfl)
    | ((with_reducible apply j_s); exact rfl)
    | ((with_reducible apply j_g); exact rfl; exact rfl; (first | with_reducible assumption | with_reducible exact Eq.refl true | with_reducible exact Eq.refl false | (with_reducible refine not_t ?_; with_reducible assumption) | (with_reducible refine not_f ?_; with_reducible assumption) | (refine dec_t ?_; decide) | (refine dec_f ?_; decide)))
    | ((with_reducible apply g_tf); exact rfl)
    | ((with_reducible apply g_ft); exact rfl)
    | ((with_reducible apply j_gz); exact rfl; exact rfl; exact rfl)
    | ((with_reducible apply j_lenm); exact rfl; exact rfl; exact rfl)
    | ((with_reducible apply j_lens); exact rfl; exact rfl; exact rfl)
    | ((with_reducible apply j_len); exact rfl; exact rfl; exact rfl)
    | ((with_reducible apply j_len0); exact rfl; exact rfl; exact rfl)
    | ((with_reducible apply j_pk); exact rfl; exact rfl; (first | with_reducible assumption | with_reducible exact Eq.refl true | with_reducible exact Eq.refl false | (with_reducible refine not_t ?_; with_reducible assumption) | (with_reducible refine not_f ?_; with_reducible assumption) | (refine dec_t ?_; decide) | (refine dec_f ?_; decide)); exact rfl)
    | ((with_reducible apply j_beq); exact rfl; exact rfl; exact rfl; kernel_rfl)
    | ((with_reducible apply j_bne); exact rfl; exact rfl; exact rfl; kernel_rfl)
    | ((with_reducible apply j_ld_el1); exact rfl; exact rfl; exact rfl; exact rfl; (first | with_reducible assumption | exact map_get (by omega) | exact set_get (by simp; omega) | exact rfl); exact rfl)
    | ((with_reducible apply j_add); exact rfl; exact rfl; exact rfl; exact Go.IntWalk.i64_in _ (by omega))
    | ((with_reducible apply j_ia); exact rfl; exact rfl; exact rfl; exact rfl; omega; (first | with_reducible exact Int.toNat_natCast _ | exact rfl); (first | with_reducible assumption | exact map_get (by omega) | exact set_get (by simp; omega) | exact rfl); exact rfl; exact rfl)
    | ((with_reducible apply j_ia_sl); exact rfl; exact rfl; exact rfl; exact rfl; omega; omega; (first | with_reducible exact Int.toNat_natCast _ | exact rfl))
    | ((with_reducible apply j_ia_ar); exact rfl; exact rfl; exact rfl; exact rfl; omega; omega; (first | with_reducible exact Int.toNat_natCast _ | exact rfl))
    | ((with_reducible apply j_ste); exact rfl; exact rfl; exact rfl; exact rfl; exact rfl; exact rfl; (first | with_reducible assumption | exact map_get (by omega) | exact set_get (by simp; omega) | exact rfl); exact Nat.le_of_ble_eq_true rfl; exact rfl)
    | ((with_reducible apply c_c); exact rfl; (first | with_reducible assumption | with_reducible exact Eq.refl true | with_reducible exact Eq.refl false | (with_reducible refine not_t ?_; with_reducible assumption) | (with_reducible refine not_f ?_; with_reducible assumption) | (refine dec_t ?_; decide) | (refine dec_f ?_; decide)))
    | ((with_reducible apply b_o); exact rfl)
    | ((with_reducible apply r_g); exact rfl; (· repeat' (first | exact True.intro | refine And.intro ?_ ?_ | (first | exact rfl | exact (List.length_map _).symm | omega | (simp only [List.length_set, List.length_map, List.length_append] <;> omega) | (simp; done)))))
    | (with_reducible rfl)
    | ((with_reducible apply j_gs); exact rfl; exact rfl; all_goals intro hg)
    | ((with_reducible apply c_if); exact rfl; all_goals intro hc))
    exact ⟨i + 1, by omega, by omega, [], ⟨(by repeat' (first | exact .nil | exact .nil _ | refine .cons ?_ ?_ | exact .u _ | exact SVle_pl rfl | refine .one ?_ | refine .agg ?_ | exact .d rfl | exact .ref rfl rfl | exact .sl rfl (by first | rfl | omega | (rw [List.length_append, List.length_map]; show _ + 1 = _; omega) | simp) | exact .fn _ | exact .tape | exact .nils rfl | exact .nild | exact .nil | exact .rp (by simp) | exact .clo (by simp) | exact .el rfl rfl rfl | exact .d (by first | rfl | (congr 1; omega) | (congr 1; assumption) | simp) | exact .virt rfl | exact .gone _ | refine .blk rfl ?_ | exact .arr rfl (by first | rfl | assumption | simp))), (by repeat' (first | exact .nil | exact .nil _ | refine .cons ?_ ?_ | exact .u _ | exact SVle_pl rfl | refine .one ?_ | refine .agg ?_ | exact .d rfl | exact .ref rfl rfl | exact .sl rfl (by first | rfl | omega | (rw [List.length_append, List.length_map]; show _ + 1 = _; omega) | simp) | exact .fn _ | exact .tape | exact .nils rfl | exact .nild | exact .nil | exact .rp (by simp) | exact .clo (by simp) | exact .el rfl rfl rfl | exact .d (by first | rfl | (congr 1; omega) | (congr 1; assumption) | simp) | exact .virt rfl | exact .gone _ | refine .blk rfl ?_ | exact .arr rfl (by first | rfl | assumption | simp)))⟩⟩
  have h3 := dge hlt
  repeat' (first
    | ((with_reducible apply c_l1); exact rfl; exact rfl)
    | ((with_reducible apply c_l2); exact rfl; exact rfl)
    | ((with_reducible apply c_l3); exact rfl)
    | (with_reducible (first | apply c_seq | apply c_rg | apply j_nil | apply q_n | apply g_tt | apply g_ff | apply c_ct | apply c_cf | apply c_bl | apply c_ex | apply c_ret | apply c_sk | apply q_r | apply q_e | apply b_r | apply b_e | apply b_n | apply n_n | apply n_r | apply n_e))
    | ((with_reducible apply j_tpa); exact hw0; exact rfl; exact rfl; exact rfl; exact rfl; exact rfl; exact rfl)
    | ((with_reducible apply j_v); exact rfl; exact rfl)
    | ((with_reducible apply j_h); exact rfl; exact rfl)
    | ((with_reducible apply j_s); exact rfl)
    | ((with_reducible apply j_g); exact rfl; exact rfl; (first | with_reducible assumption | with_reducible exact Eq.refl true | with_reducible exact Eq.refl false | (with_reducible refine not_t ?_; with_reducible assumption) | (with_reducible refine not_f ?_; with_reducible assumption) | (refine dec_t ?_; decide) | (refine dec_f ?_; decide)))
    | ((with_reducible apply g_tf); exact rfl)
    | ((with_reducible apply g_ft); exact rfl)
    | ((with_reducible apply j_gz); exact rfl; exact rfl; exact rfl)
    | ((with_reducible apply j_lenm); exact rfl; exact rfl; exact rfl)
    | ((with_reducible apply j_lens); exact rfl; exact rfl; exact rfl)
    | ((with_reducible apply j_len); exact rfl; exact rfl; exact rfl)
    | ((with_reducible apply j_len0); exact rfl; exact rfl; exact rfl)
    | ((with_reducible apply j_pk); exact rfl; exact rfl; (first | with_reducible assumption | with_reducible exact Eq.refl true | with_reducible exact Eq.refl false | (with_reducible refine not_t ?_; with_reducible assumption) | (with_reducible refine not_f ?_; with_reducible assumption) | (refine dec_t ?_; decide) | (refine dec_f ?_; decide)); exact rfl)
    | ((with_reducible apply j_beq); exact rfl; exact rfl; exact rfl; kernel_rfl)
    | ((with_reducible apply j_bne); exact rfl; exact rfl; exact rfl; kernel_rfl)
    | ((with_reducible apply j_ld_el1); exact rfl; exact rfl; exact rfl; exact rfl; (first | with_reducible assumption | exact map_get (by omega) | exact set_get (by simp; omega) | exact rfl); exact rfl)
    | ((with_reducible apply j_add); exact rfl; exact rfl; exact rfl; exact Go.IntWalk.i64_in _ (by omega))
    | ((with_reducible apply j_ia); exact rfl; exact rfl; exact rfl; exact rfl; omega; (first | with_reducible exact Int.toNat_natCast _ | exact rfl); (first | with_reducible assumption | exact map_get (by omega) | exact set_get (by simp; omega) | exact rfl); exact rfl; exact rfl)
    | ((with_reducible apply j_ia_sl); exact rfl; exact rfl; exact rfl; exact rfl; omega; omega; (first | with_reducible exact Int.toNat_natCast _ | exact rfl))
    | ((with_reducible apply j_ia_ar); exact rfl; exact rfl; exact rfl; exact rfl; omega; omega; (first | with_reducible exact Int.toNat_natCast _ | exact rfl))
    | ((with_reducible apply j_ste); exact rfl; exact rfl; exact rfl; exact rfl; exact rfl; exact rfl; (first | with_reducible assumption | exact map_get (by omega) | exact set_get (by simp; omega) | exact rfl); exact Nat.le_of_ble_eq_true rfl; exact rfl)
    | ((with_reducible apply c_c); exact rfl; (first | with_reducible assumption | with_reducible exact Eq.refl true | with_reducible exact Eq.refl false | (with_reducible refine not_t ?_; with_reducible assumption) | (with_reducible refine not_f ?_; with_reducible assumption) | (refine dec_t ?_; decide) | (refine dec_f ?_; decide)))
    | ((with_reducible apply b_o); exact rfl)
    | ((with_reducible apply r_g); exact rfl; (· repeat' (first | exact True.intro | refine And.intro ?_ ?_ | (first | exact rfl | exact (List.length_map _).symm | omega | (simp only [List.length_set, List.length_map, List.length_append] <;> omega) | (simp; done)))))
    | (with_reducible rfl)
    | ((with_reducible apply j_gs); exact rfl; exact rfl; all_goals intro hg)
    | ((with_reducible apply c_if); exact rfl; all_goals intro hc))
  refine c_mt2 [2, 3, 4, 5] [4] (fun _ : XvR => True) (fun x => [(11, .one (.ref 11 0)), (12, .one (.d (.int .i64 (applyE c x))))]) (fun x => [(11, .blk 29 ((applyC c x).row.map .d))]) rfl rfl ?_ ?_
  · (refine n_start (by kernel_rfl) ?_; (refine n_quiet none #[true, true, true, true, true, true, true, true, true, true, true] [0, 1, 2, 3, 4, 5, 6, 7, 8, 9, 10] 0 rfl ?_; (repeat' (first | ((with_reducible apply (d_e (some []))); exact rfl; exact rfl; kernel_rfl; exact (by decide +kernel); exact rfl; exact rfl; (first | ((with_reducible apply e_v); exact rfl) | ((with_reducible apply e_ld_el1); exact rfl; exact rfl; exact rfl; (first | with_reducible assumption | exact map_get (by omega) | exact set_get (by simp; omega) | exact rfl); exact rfl) | ((with_reducible apply e_ld_eln); exact rfl; exact rfl; exact rfl; (first | with_reducible assumption | exact map_get (by omega) | exact set_get (by simp; omega) | exact rfl); exact Nat.le_of_ble_eq_true rfl) | ((with_reducible apply e_ia); exact rfl; exact rfl; exact rfl; omega; (first | with_reducible exact Int.toNat_natCast _ | exact rfl); (first | with_reducible assumption | exact map_get (by omega) | exact set_get (by simp; omega) | exact rfl); exact rfl; exact rfl) | ((with_reducible apply e_ia_sl); exact rfl; exact rfl; exact rfl; omega; omega; (first | with_reducible exact Int.toNat_natCast _ | exact rfl)) | ((with_reducible apply e_ia_ar); exact rfl; exact rfl; exact rfl; omega; omega; (first | with_reducible exact Int.toNat_natCast _ | exact rfl)) | ((with_reducible apply e_call (pu := true)); exact rfl; apply (Apply_ic c _); rotate_left 1; (focus ((repeat' (first | exact .nil _ | refine .cons ?_ ?_ | exact .one (.d _ _) | exact .one (.nil _) | exact .one (.tape _) | exact .one (.fn _ _) | exact .agg (.same _ _) | refine .agg ?_ | exact .d _ _ | exact .one (.sl rfl rfl) | exact .sl rfl rfl | exact .same _ _)) <;> fail)); exact .inl rfl))) | ((with_reducible apply (d_e none)); exact rfl; exact rfl; kernel_rfl; kernel_rfl; exact rfl; exact rfl; (first | ((with_reducible apply e_v); exact rfl) | ((with_reducible apply e_ld_el1); exact rfl; exact rfl; exact rfl; (first | with_reducible assumption | exact map_get (by omega) | exact set_get (by simp; omega) | exact rfl); exact rfl) | ((with_reducible apply e_ld_eln); exact rfl; exact rfl; exact rfl; (first | with_reducible assumption | exact map_get (by omega) | exact set_get (by simp; omega) | exact rfl); exact Nat.le_of_ble_eq_true rfl) | ((with_reducible apply e_ia); exact rfl; exact rfl; exact rfl; omega; (first | with_reducible exact Int.toNat_natCast _ | exact rfl); (first | with_reducible assumption | exact map_get (by omega) | exact set_get (by simp; omega) | exact rfl); exact rfl; exact rfl) | ((with_reducible apply e_ia_sl); exact rfl; exact rfl; exact rfl; omega; omega; (first | with_reducible exact Int.toNat_natCast _ | exact rfl)) | ((with_reducible apply e_ia_ar); exact rfl; exact rfl; exact rfl; omega; omega; (first | with_reducible exact Int.toNat_natCast _ | exact rfl)) | ((with_reducible apply e_call (pu := true)); exact rfl; apply (Apply_ic c _); rotate_left 1; (focus ((repeat' (first | exact .nil _ | refine .cons ?_ ?_ | exact .one (.d _ _) | exact .one (.nil _) | exact .one (.tape _) | exact .one (.fn _ _) | exact .agg (.same _ _) | refine .agg ?_ | exact .d _ _ | exact .one (.sl rfl rfl) | exact .sl rfl rfl | exact .same _ _)) <;> fail)); exact .inl rfl))) | ((with_reducible apply d_st); exact rfl; exact (by decide +kernel); exact rfl; exact rfl; exact rfl; exact rfl; exact rfl; exact rfl; exact rfl) | ((with_reducible apply d_ste); exact rfl; exact (by decide +kernel); exact rfl; exact rfl; exact rfl; exact rfl; exact rfl; exact rfl; exact rfl; (first | with_reducible assumption | exact map_get (by omega) | exact set_get (by simp; omega) | exact rfl); exact Nat.le_of_ble_eq_true rfl) | ((with_reducible apply d_al); exact rfl; exact rfl; exact (by decide +kernel); exact rfl; exact rfl) | ((with_reducible apply d_nd); exact rfl; exact rfl; exact (by decide +kernel); ((with_reducible apply e_callp (pu := true)); exact rfl; exact Event_ic c hv; (focus ((repeat' (first | exact .nil _ | refine .cons ?_ ?_ | exact .one (.d _ _) | exact .one (.nil _) | exact .one (.tape _) | exact .one (.fn _ _) | exact .agg (.same _ _) | refine .agg ?_ | exact .d _ _ | exact .one (.sl rfl rfl) | exact .sl rfl rfl | exact .same _ _)) <;> fail)); exact .inl rfl); rintro _ ⟨x, hx, rfl⟩) | (refine d_two 3 8 (by decide +kernel) ?_ ?_) | ((with_reducible apply (s_nd (i := 3) (l := [4, 5, 6, 7, 8, 9, 10]))); exact rfl; exact rfl; ((with_reducible apply e_callp (pu := true)); exact rfl; exact Event_ic c hv; (focus ((repeat' (first | exact .nil _ | refine .cons ?_ ?_ | exact .one (.d _ _) | exact .one (.nil _) | exact .one (.tape _) | exact .one (.fn _ _) | exact .agg (.same _ _) | refine .agg ?_ | exact .d _ _ | exact .one (.sl rfl rfl) | exact .sl rfl rfl | exact .same _ _)) <;> fail)); exact .inl rfl); exact rfl; rintro _ ⟨x, hx, rfl⟩) | ((with_reducible apply (s_al (i := 8) (l := [3, 4, 5, 6, 7, 9, 10]))); exact rfl; exact rfl; exact rfl; exact rfl; exact rfl) | ((with_reducible apply d_leaf); exact (by decide +kernel)))); all_goals ((with_reducible apply n_doneZ); exact rfl; exact (by decide +kernel))))
    all_goals ((with_reducible apply n_n); exact ⟨x, trivial, [], ⟨(by repeat' (first | exact .nil | exact .nil _ | refine .cons ?_ ?_ | exact .u _ | exact SVle_pl rfl | refine .one ?_ | refine .agg ?_ | exact .d rfl | exact .ref rfl rfl | exact .sl rfl (by first | rfl | omega | (rw [List.length_append, List.length_map]; show _ + 1 = _; omega) | simp) | exact .fn _ | exact .tape | exact .nils rfl | exact .nild | exact .nil | exact .rp (by simp) | exact .clo (by simp) | exact .el rfl rfl rfl | exact .d (by first | rfl | (congr 1; omega) | (congr 1; assumption) | simp) | exact .virt rfl | exact .gone _ | refine .blk rfl ?_ | exact .arr rfl (by first | rfl | assumption | simp))), (by repeat' (first | exact .nil | exact .nil _ | refine .cons ?_ ?_ | exact .u _ | exact SVle_pl rfl | refine .one ?_ | refine .agg ?_ | exact .d rfl | exact .ref rfl rfl | exact .sl rfl (by first | rfl | omega | (rw [List.length_append, List.length_map]; show _ + 1 = _; omega) | simp) | exact .fn _ | exact .tape | exact .nils rfl | exact .nild | exact .nil | exact .rp (by simp) | exact .clo (by simp) | exact .el rfl rfl rfl | exact .d (by first | rfl | (congr 1; omega) | (congr 1; assumption) | simp) | exact .virt rfl | exact .gone _ | refine .blk rfl ?_ | exact .arr rfl (by first | rfl | assumption | simp)))⟩⟩)
  intro x _
  by_cases he : applyE c x = 0
  · have h4 : (!decide (applyE c x = 0)) = false := by simp [he]
    have hvd := applyC_valid he
    have hrd := apply_reps he
    obtain ⟨d, hd⟩ : ∃ d, d = applyC c x := ⟨_, rfl⟩
    rw [← hd] at hvd hrd ⊢
    repeat' (first
    | ((with_reducible apply c_l1); exact rfl; exact rfl)
    | ((with_reducible apply c_l2); exact rfl; exact rfl)
    | ((with_reducible apply c_l3); exact rfl)
    | (with_reducible (first | apply c_seq | apply c_rg | apply j_nil | apply q_n | apply g_tt | apply g_ff | apply c_ct | apply c_cf | apply c_bl | apply c_ex | apply c_ret | apply c_sk | apply q_r | apply q_e | apply b_r | apply b_e | apply b_n | apply n_n | apply n_r | apply n_e))
    | ((with_reducible apply j_tpa); exact hw0; exact rfl; exact rfl; exact rfl; exact rfl; exact rfl; exact rfl)
    | ((with_reducible apply j_v); exact rfl; exact rfl)
    | ((with_reducible apply j_h); exact rfl; exact rfl)
    | ((with_reducible apply j_s); exact rfl)
    | ((with_reducible apply j_g); exact rfl; exact rfl; (first | with_reducible assumption | with_reducible exact Eq.refl true | with_reducible exact Eq.refl false | (with_reducible refine not_t ?_; with_reducible assumption) | (with_reducible refine not_f ?_; with_reducible assumption) | (refine dec_t ?_; decide) | (refine dec_f ?_; decide)))
    | ((with_reducible apply g_tf); exact rfl)
    | ((with_reducible apply g_ft); exact rfl)
    | ((with_reducible apply j_gz); exact rfl; exact rfl; exact rfl)
    | ((with_reducible apply j_lenm); exact rfl; exact rfl; exact rfl)
    | ((with_reducible apply j_lens); exact rfl; exact rfl; exact rfl)
    | ((with_reducible apply j_len); exact rfl; exact rfl; exact rfl)
    | ((with_reducible apply j_len0); exact rfl; exact rfl; exact rfl)
    | ((with_reducible apply j_pk); exact rfl; exact rfl; (first | with_reducible assumption | with_reducible exact Eq.refl true | with_reducible exact Eq.refl false | (with_reducible refine not_t ?_; with_reducible assumption) | (with_reducible refine not_f ?_; with_reducible assumption) | (refine dec_t ?_; decide) | (refine dec_f ?_; decide)); exact rfl)
    | ((with_reducible apply j_beq); exact rfl; exact rfl; exact rfl; kernel_rfl)
    | ((with_reducible apply j_bne); exact rfl; exact rfl; exact rfl; kernel_rfl)
    | ((with_reducible apply j_ld_el1); exact rfl; exact rfl; exact rfl; exact rfl; (first | with_reducible assumption | exact map_get (by omega) | exact set_get (by simp; omega) | exact rfl); exact rfl)
    | ((with_reducible apply j_add); exact rfl; exact rfl; exact rfl; exact Go.IntWalk.i64_in _ (by omega))
    | ((with_reducible apply j_ia); exact rfl; exact rfl; exact rfl; exact rfl; omega; (first | with_reducible exact Int.toNat_natCast _ | exact rfl); (first | with_reducible assumption | exact map_get (by omega) | exact set_get (by simp; omega) | exact rfl); exact rfl; exact rfl)
    | ((with_reducible apply j_ia_sl); exact rfl; exact rfl; exact rfl; exact rfl; omega; omega; (first | with_reducible exact Int.toNat_natCast _ | exact rfl))
    | ((with_reducible apply j_ia_ar); exact rfl; exact rfl; exact rfl; exact rfl; omega; omega; (first | with_reducible exact Int.toNat_natCast _ | exact rfl))
    | ((with_reducible apply j_ste); exact rfl; exact rfl; exact rfl; exact rfl; exact rfl; exact rfl; (first | with_reducible assumption | exact map_get (by omega) | exact set_get (by simp; omega) | exact rfl); exact Nat.le_of_ble_eq_true rfl; exact rfl)
    | ((with_reducible apply c_c); exact rfl; (first | with_reducible assumption | with_reducible exact Eq.refl true | with_reducible exact Eq.refl false | (with_reducible refine not_t ?_; with_reducible assumption) | (with_reducible refine not_f ?_; with_reducible assumption) | (refine dec_t ?_; decide) | (refine dec_f ?_; decide)))
    | ((with_reducible apply b_o); exact rfl)
    | ((with_reducible apply r_g); exact rfl; (· repeat' (first | exact True.intro | refine And.intro ?_ ?_ | (first | exact rfl | exact (List.length_map _).symm | omega | (simp only [List.length_set, List.length_map, List.length_append] <;> omega) | (simp; done)))))
    | (with_reducible rfl))
    refine c_any ((0 : Nat)) [11, 98, 99] [23, 4, 11] (fun i => i ≤ (allL c).length) (fun i => (allL c).length - i) (Nat.zero_le _) (fun i => [(100, .one (.d (.int .i64 (i : Int))))]) (fun _ => []) [] rfl rfl ⟨(by repeat' (first | exact .nil | exact .nil _ | refine .cons ?_ ?_ | exact .u _ | exact SVle_pl rfl | refine .one ?_ | refine .agg ?_ | exact .d rfl | exact .ref rfl rfl | exact .sl rfl (by first | rfl | omega | (rw [List.length_append, List.length_map]; show _ + 1 = _; omega) | simp) | exact .fn _ | exact .tape | exact .nils rfl | exact .nild | exact .nil | exact .rp (by simp) | exact .clo (by simp) | exact .el rfl rfl rfl | exact .d (by first | rfl | (congr 1; omega) | (congr 1; assumption) | simp) | exact .virt rfl | exact .gone _ | refine .blk rfl ?_ | exact .arr rfl (by first | rfl | assumption | simp))), (by repeat' (first | exact .nil | exact .nil _ | refine .cons ?_ ?_ | exact .u _ | exact SVle_pl rfl | refine .one ?_ | refine .agg ?_ | exact .d rfl | exact .ref rfl rfl | exact .sl rfl (by first | rfl | omega | (rw [List.length_append, List.length_map]; show _ + 1 = _; omega) | simp) | exact .fn _ | exact .tape | exact .nils rfl | exact .nild | exact .nil | exact .rp (by simp) | exact .clo (by simp) | exact .el rfl rfl rfl | exact .d (by first | rfl | (congr 1; omega) | (congr 1; assumption) | simp) | exact .virt rfl | exact .gone _ | refine .blk rfl ?_ | exact .arr rfl (by first | rfl | assumption | simp)))⟩ ?_
    intro i hi
    by_cases hlt : i < (allL c).length
    · have h5 := dlt hlt
      have hir : i < d.reps.length := by omega
      obtain ⟨q1, q2⟩ := ask_at hvd hir
      have q3 := all_at hv hlt
      have q4 : (!decide (askE d (i : Int) = 0)) = false := by simp [q2]
      have q5 : (!(rightS d [(allL c)[i]] == evEq (allL c)[i] (askS d (i : Int)))) = false := by
        rw [right_one hvd hir (by rw [q3]; rfl), q1]; simp
      repeat' (first
    | ((with_reducible apply c_l1); exact rfl; exact rfl)
    | ((with_reducible apply c_l2); exact rfl; exact rfl)
    | ((with_reducible apply c_l3); exact rfl)
    | (with_reducible (first | apply c_seq | apply c_rg | apply j_nil | apply q_n | apply g_tt | apply g_ff | apply c_ct | apply c_cf | apply c_bl | apply c_ex | apply c_ret | apply c_sk | apply q_r | apply q_e | apply b_r | apply b_e | apply b_n | apply n_n | apply n_r | apply n_e))
    | ((with_reducible apply j_tpa); exact hw0; exact rfl; exact rfl; exact rfl; exact rfl; exact rfl; exact rfl)
    | ((with_reducible apply j_v); exact rfl; exact rfl)
    | ((with_reducible apply j_h); exact rfl; exact rfl)
    | ((with_reducible apply j_s); exact rfl)
    | ((with_reducible apply j_g); exact rfl; exact rfl; (first | with_reducible assumption | with_reducible exact Eq.refl true | with_reducible exact Eq.refl false | (with_reducible refine not_t ?_; with_reducible assumption) | (with_reducible refine not_f ?_; with_reducible assumption) | (refine dec_t ?_; decide) | (refine dec_f ?_; decide)))
    | ((with_reducible apply g_tf); exact rfl)
    | ((with_reducible apply g_ft); exact rfl)
    | ((with_reducible apply j_gz); exact rfl; exact rfl; exact rfl)
    | ((with_reducible apply j_lenm); exact rfl; exact rfl; exact rfl)
    | ((with_reducible apply j_lens); exact rfl; exact rfl; exact rfl)
    | ((with_reducible apply j_len); exact rfl; exact rfl; exact rfl)
    | ((with_reducible apply j_len0); exact rfl; exact rfl; exact rfl)
    | ((with_reducible apply j_pk); exact rfl; exact rfl; (first | with_reducible assumption | with_reducible exact Eq.refl true | with_reducible exact Eq.refl false | (with_reducible refine not_t ?_; with_reducible assumption) | (with_reducible refine not_f ?_; with_reducible assumption) | (refine dec_t ?_; decide) | (refine dec_f ?_; decide)); exact rfl)
    | ((with_reducible apply j_beq); exact rfl; exact rfl; exact rfl; kernel_rfl)
    | ((with_reducible apply j_bne); exact rfl; exact rfl; exact rfl; kernel_rfl)
    | ((with_reducible apply j_ld_el1); exact rfl; exact rfl; exact rfl; exact rfl; (first | with_reducible assumption | exact map_get (by omega) | exact set_get (by simp; omega) | exact rfl); exact rfl)
    | ((with_reducible apply j_add); exact rfl; exact rfl; exact rfl; exact Go.IntWalk.i64_in _ (by omega))
    | ((with_reducible apply j_ia); exact rfl; exact rfl; exact rfl; exact rfl; omega; (first | with_reducible exact Int.toNat_natCast _ | exact rfl); (first | with_reducible assumption | exact map_get (by omega) | exact set_get (by simp; omega) | exact rfl); exact rfl; exact rfl)
    | ((with_reducible apply j_ia_sl); exact rfl; exact rfl; exact rfl; exact rfl; omega; omega; (first | with_reducible exact Int.toNat_natCast _ | exact rfl))
    | ((with_reducible apply j_ia_ar); exact rfl; exact rfl; exact rfl; exact rfl; omega; omega; (first | with_reducible exact Int.toNat_natCast _ | exact rfl))
    | ((with_reducible apply j_ste); exact rfl; exact rfl; exact rfl; exact rfl; exact rfl; exact rfl; (first | with_reducible assumption | exact map_get (by omega) | exact set_get (by simp; omega) | exact rfl); exact Nat.le_of_ble_eq_true rfl; exact rfl)
    | ((with_reducible apply c_c); exact rfl; (first | with_reducible assumption | with_reducible exact Eq.refl true | with_reducible exact Eq.refl false | (with_reducible refine not_t ?_; with_reducible assumption) | (with_reducible refine not_f ?_; with_reducible assumption) | (refine dec_t ?_; decide) | (refine dec_f ?_; decide)))
    | ((with_reducible apply b_o); exact rfl)
    | ((with_reducible apply r_g); exact rfl; (· repeat' (first | exact True.intro | refine And.intro ?_ ?_ | (first | exact rfl | exact (List.length_map _).symm | omega | (simp only [List.length_set, List.length_map, List.length_append] <;> omega) | (simp; done)))))
    | ((with_reducible apply j_call (pu := true)); exact rfl; exact Ask_ic d i; (focus ((repeat' (first | exact .nil _ | refine .cons ?_ ?_ | exact .one (.d _ _) | exact .one (.nil _) | exact .one (.tape _) | exact .one (.fn _ _) | exact .agg (.same _ _) | refine .agg ?_ | exact .d _ _ | exact .one (.sl rfl rfl) | exact .sl rfl rfl | exact .same _ _)) <;> fail)); exact .inl rfl)
    | (with_reducible rfl)
    | ((with_reducible apply j_gs); exact rfl; exact rfl; all_goals intro hg)
    | ((with_reducible apply c_if); exact rfl; all_goals intro hc))
      (refine n_start (by kernel_rfl) ?_; (refine n_quiet none #[true, true, true, true, true, true, true, true, true, true, true, true] [0, 1, 2, 3, 4, 7, 8, 9, 5, 6, 10, 11] 0 rfl ?_; (repeat' (first | ((with_reducible apply (d_e (some []))); exact rfl; exact rfl; kernel_rfl; kernel_rfl; exact rfl; exact rfl; (first | ((with_reducible apply e_v); exact rfl) | ((with_reducible apply e_pk); exact rfl; (first | with_reducible assumption | with_reducible exact Eq.refl true | with_reducible exact Eq.refl false | (with_reducible refine not_t ?_; with_reducible assumption) | (with_reducible refine not_f ?_; with_reducible assumption) | (refine dec_t ?_; decide) | (refine dec_f ?_; decide)); exact rfl) | ((with_reducible apply e_bne); exact rfl; exact rfl; kernel_rfl) | ((with_reducible apply e_ld_el1); exact rfl; exact rfl; exact rfl; (first | with_reducible assumption | exact map_get (by omega) | exact set_get (by simp; omega) | exact rfl); exact rfl) | ((with_reducible apply e_ld_eln); exact rfl; exact rfl; exact rfl; (first | with_reducible assumption | exact map_get (by omega) | exact set_get (by simp; omega) | exact rfl); exact Nat.le_of_ble_eq_true rfl) | ((with_reducible apply e_ia); exact rfl; exact rfl; exact rfl; omega; (first | with_reducible exact Int.toNat_natCast _ | exact rfl); (first | with_reducible assumption | exact map_get (by omega) | exact set_get (by simp; omega) | exact rfl); exact rfl; exact rfl) | ((with_reducible apply e_ia_sl); exact rfl; exact rfl; exact rfl; omega; omega; (first | with_reducible exact Int.toNat_natCast _ | exact rfl)) | ((with_reducible apply e_ia_ar); exact rfl; exact rfl; exact rfl; omega; omega; (first | with_reducible exact Int.toNat_natCast _ | exact rfl)) | ((with_reducible apply e_call (pu := true)); exact rfl; exact Right_ic d [(allL c)[i]]; (focus ((repeat' (first | exact .nil _ | refine .cons ?_ ?_ | exact .one (.d _ _) | exact .one (.nil _) | exact .one (.tape _) | exact .one (.fn _ _) | exact .agg (.same _ _) | refine .agg ?_ | exact .d _ _ | exact .one (.sl rfl rfl) | exact .sl rfl rfl | exact .same _ _)) <;> fail)); exact .inl rfl) | ((with_reducible apply e_call (pu := false)); exact rfl; exact Right_ic d [(allL c)[i]]; (focus ((repeat' (first | exact .nil _ | refine .cons ?_ ?_ | exact .one (.d _ _) | exact .one (.nil _) | exact .one (.tape _) | exact .one (.fn _ _) | exact .agg (.same _ _) | refine .agg ?_ | exact .d _ _ | exact .one (.sl rfl rfl) | exact .sl rfl rfl | exact .same _ _)) <;> fail)); exact .inr rfl) | exact e_seq ev_eqT rfl rfl rfl (ev_cells (allL c)[i] (askS d (i : Int))))) | ((with_reducible apply (d_ey (some []))); exact rfl; exact rfl; exact rfl; (first | with_reducible assumption | with_reducible rfl | (with_reducible refine not_t ?_; with_reducible assumption) | (with_reducible refine not_f ?_; with_reducible assumption) | decide); exact rfl; kernel_rfl; kernel_rfl; exact rfl; exact rfl; (first | ((with_reducible apply e_v); exact rfl) | ((with_reducible apply e_pk); exact rfl; (first | with_reducible assumption | with_reducible exact Eq.refl true | with_reducible exact Eq.refl false | (with_reducible refine not_t ?_; with_reducible assumption) | (with_reducible refine not_f ?_; with_reducible assumption) | (refine dec_t ?_; decide) | (refine dec_f ?_; decide)); exact rfl) | ((with_reducible apply e_bne); exact rfl; exact rfl; kernel_rfl) | ((with_reducible apply e_ld_el1); exact rfl; exact rfl; exact rfl; (first | with_reducible assumption | exact map_get (by omega) | exact set_get (by simp; omega) | exact rfl); exact rfl) | ((with_reducible apply e_ld_eln); exact rfl; exact rfl; exact rfl; (first | with_reducible assumption | exact map_get (by omega) | exact set_get (by simp; omega) | exact rfl); exact Nat.le_of_ble_eq_true rfl) | ((with_reducible apply e_ia); exact rfl; exact rfl; exact rfl; omega; (first | with_reducible exact Int.toNat_natCast _ | exact rfl); (first | with_reducible assumption | exact map_get (by omega) | exact set_get (by simp; omega) | exact rfl); exact rfl; exact rfl) | ((with_reducible apply e_ia_sl); exact rfl; exact rfl; exact rfl; omega; omega; (first | with_reducible exact Int.toNat_natCast _ | exact rfl)) | ((with_reducible apply e_ia_ar); exact rfl; exact rfl; exact rfl; omega; omega; (first | with_reducible exact Int.toNat_natCast _ | exact rfl)) | ((with_reducible apply e_call (pu := true)); exact rfl; exact Right_ic d [(allL c)[i]]; (focus ((repeat' (first | exact .nil _ | refine .cons ?_ ?_ | exact .one (.d _ _) | exact .one (.nil _) | exact .one (.tape _) | exact .one (.fn _ _) | exact .agg (.same _ _) | refine .agg ?_ | exact .d _ _ | exact .one (.sl rfl rfl) | exact .sl rfl rfl | exact .same _ _)) <;> fail)); exact .inl rfl) | ((with_reducible apply e_call (pu := false)); exact rfl; exact Right_ic d [(allL c)[i]]; (focus ((repeat' (first | exact .nil _ | refine .cons ?_ ?_ | exact .one (.d _ _) | exact .one (.nil _) | exact .one (.tape _) | exact .one (.fn _ _) | exact .agg (.same _ _) | refine .agg ?_ | exact .d _ _ | exact .one (.sl rfl rfl) | exact .sl rfl rfl | exact .same _ _)) <;> fail)); exact .inr rfl) | exact e_seq ev_eqT rfl rfl rfl (ev_cells (allL c)[i] (askS d (i : Int))))) | ((with_reducible apply d_gn); exact rfl; exact rfl; exact rfl; (first | with_reducible assumption | with_reducible rfl | (with_reducible refine not_t ?_; with_reducible assumption) | (with_reducible refine not_f ?_; with_reducible assumption) | decide); exact rfl; kernel_rfl; kernel_rfl; exact rfl; exact rfl) | ((with_reducible apply d_gm); exact rfl; exact rfl; exact rfl; (first | with_reducible assumption | with_reducible rfl | (with_reducible refine not_t ?_; with_reducible assumption) | (with_reducible refine not_f ?_; with_reducible assumption) | decide); exact rfl; kernel_rfl; kernel_rfl; exact rfl; exact rfl) | ((with_reducible apply d_gz); exact rfl; exact rfl; exact rfl; exact rfl; kernel_rfl; kernel_rfl; exact rfl; exact rfl) | (refine d_one (i := 5) (by decide +kernel) ?_; ((with_reducible apply s_bsy); exact rfl; exact rfl; exact rfl; (first | with_reducible assumption | with_reducible rfl | (with_reducible refine not_t ?_; with_reducible assumption) | (with_reducible refine not_f ?_; with_reducible assumption) | decide); exact rfl; exact rfl; exact rfl; exact rfl; exact rfl; exact rfl; exact rfl; exact rfl; exact rfl; exact rfl; exact rfl)) | ((with_reducible apply d_bs); exact rfl; exact rfl; exact (by decide +kernel); exact rfl; exact rfl; exact rfl; exact rfl; exact rfl; exact rfl; exact rfl; exact rfl; exact rfl) | ((with_reducible apply d_gs); exact rfl; exact rfl; exact rfl; all_goals intro hg) | ((with_reducible apply d_leaf); exact (by decide +kernel)))); all_goals ((with_reducible apply n_doneZ); exact rfl; exact (by decide +kernel))))
      repeat' (first
    | ((with_reducible apply c_l1); exact rfl; exact rfl)
    | ((with_reducible apply c_l2); exact rfl; exact rfl)
    | ((with_reducible apply c_l3); exact rfl)
    | (with_reducible (first | apply c_seq | apply c_rg | apply j_nil | apply q_n | apply g_tt | apply g_ff | apply c_ct | apply c_cf | apply c_bl | apply c_ex | apply c_ret | apply c_sk | apply q_r | apply q_e | apply b_r | apply b_e | apply b_n | apply n_n | apply n_r | apply n_e))
    | ((with_reducible apply j_tpa); exact hw0; exact rfl; exact rfl; exact rfl; exact rfl; exact rfl; exact rfl)
    | ((with_reducible apply j_v); exact rfl; exact rfl)
    | ((with_reducible apply j_h); exact rfl; exact rfl)
    | ((with_reducible apply j_s); exact rfl)
    | ((with_reducible apply j_g); exact rfl; exact rfl; (first | with_reducible assumption | with_reducible exact Eq.refl true | with_reducible exact Eq.refl false | (with_reducible refine not_t ?_; with_reducible assumption) | (with_reducible refine not_f ?_; with_reducible assumption) | (refine dec_t ?_; decide) | (refine dec_f ?_; decide)))
    | ((with_reducible apply g_tf); exact rfl)
    | ((with_reducible apply g_ft); exact rfl)
    | ((with_reducible apply j_gz); exact rfl; exact rfl; exact rfl)
    | ((with_reducible apply j_lenm); exact rfl; exact rfl; exact rfl)
    | ((with_reducible apply j_lens); exact rfl; exact rfl; exact rfl)
    | ((with_reducible apply j_len); exact rfl; exact rfl; exact rfl)
    | ((with_reducible apply j_len0); exact rfl; exact rfl; exact rfl)
    | ((with_reducible apply j_pk); exact rfl; exact rfl; (first | with_reducible assumption | with_reducible exact Eq.refl true | with_reducible exact Eq.refl false | (with_reducible refine not_t ?_; with_reducible assumption) | (with_reducible refine not_f ?_; with_reducible assumption) | (refine dec_t ?_; decide) | (refine dec_f ?_; decide)); exact rfl)
    | ((with_reducible apply j_beq); exact rfl; exact rfl; exact rfl; kernel_rfl)
    | ((with_reducible apply j_bne); exact rfl; exact rfl; exact rfl; kernel_rfl)
    | ((with_reducible apply j_ld_el1); exact rfl; exact rfl; exact rfl; exact rfl; (first | with_reducible assumption | exact map_get (by omega) | exact set_get (by simp; omega) | exact rfl); exact rfl)
    | ((with_reducible apply j_add); exact rfl; exact rfl; exact rfl; exact Go.IntWalk.i64_in _ (by omega))
    | ((with_reducible apply j_ia); exact rfl; exact rfl; exact rfl; exact rfl; omega; (first | with_reducible exact Int.toNat_natCast _ | exact rfl); (first | with_reducible assumption | exact map_get (by omega) | exact set_get (by simp; omega) | exact rfl); exact rfl; exact rfl)
    | ((with_reducible apply j_ia_sl); exact rfl; exact rfl; exact rfl; exact rfl; omega; omega; (first | with_reducible exact Int.toNat_natCast _ | exact rfl))
    | ((with_reducible apply j_ia_ar); exact rfl; exact rfl; exact rfl; exact rfl; omega; omega; (first | with_reducible exact Int.toNat_natCast _ | exact rfl))
    | ((with_reducible apply j_ste); exact rfl; exact rfl; exact rfl; exact rfl; exact rfl; exact rfl; (first | with_reducible assumption | exact map_get (by omega) | exact set_get (by simp; omega) | exact rfl); exact Nat.le_of_ble_eq_true rfl; exact rfl)
    | ((with_reducible apply c_c); exact rfl; (first | with_reducible assumption | with_reducible exact Eq.refl true | with_reducible exact Eq.refl false | (with_reducible refine not_t ?_; with_reducible assumption) | (with_reducible refine not_f ?_; with_reducible assumption) | (refine dec_t ?_; decide) | (refine dec_f ?_; decide)))
    | ((with_reducible apply b_o); exact rfl)
    | ((with_reducible apply r_g); exact rfl; (· repeat' (first | exact True.intro | refine And.intro ?_ ?_ | (first | exact rfl | exact (List.length_map _).symm | omega | (simp only [List.length_set, List.length_map, List.length_append] <;> omega) | (simp; done)))))
    | (with_reducible rfl)
    | ((with_reducible apply j_gs); exact rfl; exact rfl; all_goals intro hg)
    | ((with_reducible apply c_if); exact rfl; all_goals intro hc))
      exact ⟨i + 1, by omega, by omega, [], ⟨(by repeat' (first | exact .nil | exact .nil _ | refine .cons ?_ ?_ | exact .u _ | exact SVle_pl rfl | refine .one ?_ | refine .agg ?_ | exact .d rfl | exact .ref rfl rfl | exact .sl rfl (by first | rfl | omega | (rw [List.length_append, List.length_map]; show _ + 1 = _; omega) | simp) | exact .fn _ | exact .tape | exact .nils rfl | exact .nild | exact .nil | exact .rp (by simp) | exact .clo (by simp) | exact .el rfl rfl rfl | exact .d (by first | rfl | (congr 1; omega) | (congr 1; assumption) | simp) | exact .virt rfl | exact .gone _ | refine .blk rfl ?_ | exact .arr rfl (by first | rfl | assumption | simp))), (by repeat' (first | exact .nil | exact .nil _ | refine .cons ?_ ?_ | exact .u _ | exact SVle_pl rfl | refine .one ?_ | refine .agg ?_ | exact .d rfl | exact .ref rfl rfl | exact .sl rfl (by first | rfl | omega | (rw [List.length_append, List.length_map]; show _ + 1 = _; omega) | simp) | exact .fn _ | exact .tape | exact .nils rfl | exact .nild | exact .nil | exact .rp (by simp) | exact .clo (by simp) | exact .el rfl rfl rfl | exact .d (by first | rfl | (congr 1; omega) | (congr 1; assumption) | simp) | exact .virt rfl | exact .gone _ | refine .blk rfl ?_ | exact .arr rfl (by first | rfl | assumption | simp)))⟩⟩
    have h5 := dge hlt
    repeat' (first
    | ((with_reducible apply c_l1); exact rfl; exact rfl)
    | ((with_reducible apply c_l2); exact rfl; exact rfl)
    | ((with_reducible apply c_l3); exact rfl)
    | (with_reducible (first | apply c_seq | apply c_rg | apply j_nil | apply q_n | apply g_tt | apply g_ff | apply c_ct | apply c_cf | apply c_bl | apply c_ex | apply c_ret | apply c_sk | apply q_r | apply q_e | apply b_r | apply b_e | apply b_n | apply n_n | apply n_r | apply n_e))
    | ((with_reducible apply j_tpa); exact hw0; exact rfl; exact rfl; exact rfl; exact rfl; exact rfl; exact rfl)
    | ((with_reducible apply j_v); exact rfl; exact rfl)
    | ((with_reducible apply j_h); exact rfl; exact rfl)
    | ((with_reducible apply j_s); exact rfl)
    | ((with_reducible apply j_g); exact rfl; exact rfl; (first | with_reducible assumption | with_reducible exact Eq.refl true | with_reducible exact Eq.refl false | (with_reducible refine not_t ?_; with_reducible assumption) | (with_reducible refine not_f ?_; with_reducible assumption) | (refine dec_t ?_; decide) | (refine dec_f ?_; decide)))
    | ((with_reducible apply g_tf); exact rfl)
    | ((with_reducible apply g_ft); exact rfl)
    | ((with_reducible apply j_gz); exact rfl; exact rfl; exact rfl)
    | ((with_reducible apply j_lenm); exact rfl; exact rfl; exact rfl)
    | ((with_reducible apply j_lens); exact rfl; exact rfl; exact rfl)
    | ((with_reducible apply j_len); exact rfl; exact rfl; exact rfl)
    | ((with_reducible apply j_len0); exact rfl; exact rfl; exact rfl)
    | ((with_reducible apply j_pk); exact rfl; exact rfl; (first | with_reducible assumption | with_reducible exact Eq.refl true | with_reducible exact Eq.refl false | (with_reducible refine not_t ?_; with_reducible assumption) | (with_reducible refine not_f ?_; with_reducible assumption) | (refine dec_t ?_; decide) | (refine dec_f ?_; decide)); exact rfl)
    | ((with_reducible apply j_beq); exact rfl; exact rfl; exact rfl; kernel_rfl)
    | ((with_reducible apply j_bne); exact rfl; exact rfl; exact rfl; kernel_rfl)
    | ((with_reducible apply j_ld_el1); exact rfl; exact rfl; exact rfl; exact rfl; (first | with_reducible assumption | exact map_get (by omega) | exact set_get (by simp; omega) | exact rfl); exact rfl)
    | ((with_reducible apply j_add); exact rfl; exact rfl; exact rfl; exact Go.IntWalk.i64_in _ (by omega))
    | ((with_reducible apply j_ia); exact rfl; exact rfl; exact rfl; exact rfl; omega; (first | with_reducible exact Int.toNat_natCast _ | exact rfl); (first | with_reducible assumption | exact map_get (by omega) | exact set_get (by simp; omega) | exact rfl); exact rfl; exact rfl)
    | ((with_reducible apply j_ia_sl); exact rfl; exact rfl; exact rfl; exact rfl; omega; omega; (first | with_reducible exact Int.toNat_natCast _ | exact rfl))
    | ((with_reducible apply j_ia_ar); exact rfl; exact rfl; exact rfl; exact rfl; omega; omega; (first | with_reducible exact Int.toNat_natCast _ | exact rfl))
    | ((with_reducible apply j_ste); exact rfl; exact rfl; exact rfl; exact rfl; exact rfl; exact rfl; (first | with_reducible assumption | exact map_get (by omega) | exact set_get (by simp; omega) | exact rfl); exact Nat.le_of_ble_eq_true rfl; exact rfl)
    | ((with_reducible apply c_c); exact rfl; (first | with_reducible assumption | with_reducible exact Eq.refl true | with_reducible exact Eq.refl false | (with_reducible refine not_t ?_; with_reducible assumption) | (with_reducible refine not_f ?_; with_reducible assumption) | (refine dec_t ?_; decide) | (refine dec_f ?_; decide)))
    | ((with_reducible apply b_o); exact rfl)
    | ((with_reducible apply r_g); exact rfl; (· repeat' (first | exact True.intro | refine And.intro ?_ ?_ | (first | exact rfl | exact (List.length_map _).symm | omega | (simp only [List.length_set, List.length_map, List.length_append] <;> omega) | (simp; done)))))
    | ((with_reducible apply j_call (pu := false)); exact rfl; exact awake_ic; (focus ((repeat' (first | exact .nil _ | refine .cons ?_ ?_ | exact .one (.d _ _) | exact .one (.nil _) | exact .one (.tape _) | exact .one (.fn _ _) | exact .agg (.same _ _) | refine .agg ?_ | exact .d _ _ | exact .one (.sl rfl rfl) | exact .sl rfl rfl | exact .same _ _)) <;> fail)); exact .inr rfl)
    | (with_reducible rfl)
    | ((with_reducible apply j_gs); exact rfl; exact rfl; all_goals intro hg)
    | ((with_reducible apply c_if); exact rfl; all_goals intro hc))
  · have h4 : (!decide (applyE c x = 0)) = true := by simp [he]
    repeat' (first
    | ((with_reducible apply c_l1); exact rfl; exact rfl)
    | ((with_reducible apply c_l2); exact rfl; exact rfl)
    | ((with_reducible apply c_l3); exact rfl)
    | (with_reducible (first | apply c_seq | apply c_rg | apply j_nil | apply q_n | apply g_tt | apply g_ff | apply c_ct | apply c_cf | apply c_bl | apply c_ex | apply c_ret | apply c_sk | apply q_r | apply q_e | apply b_r | apply b_e | apply b_n | apply n_n | apply n_r | apply n_e))
    | ((with_reducible apply j_tpa); exact hw0; exact rfl; exact rfl; exact rfl; exact rfl; exact rfl; exact rfl)
    | ((with_reducible apply j_v); exact rfl; exact rfl)
    | ((with_reducible apply j_h); exact rfl; exact rfl)
    | ((with_reducible apply j_s); exact rfl)
    | ((with_reducible apply j_g); exact rfl; exact rfl; (first | with_reducible assumption | with_reducible exact Eq.refl true | with_reducible exact Eq.refl false | (with_reducible refine not_t ?_; with_reducible assumption) | (with_reducible refine not_f ?_; with_reducible assumption) | (refine dec_t ?_; decide) | (refine dec_f ?_; decide)))
    | ((with_reducible apply g_tf); exact rfl)
    | ((with_reducible apply g_ft); exact rfl)
    | ((with_reducible apply j_gz); exact rfl; exact rfl; exact rfl)
    | ((with_reducible apply j_lenm); exact rfl; exact rfl; exact rfl)
    | ((with_reducible apply j_lens); exact rfl; exact rfl; exact rfl)
    | ((with_reducible apply j_len); exact rfl; exact rfl; exact rfl)
    | ((with_reducible apply j_len0); exact rfl; exact rfl; exact rfl)
    | ((with_reducible apply j_pk); exact rfl; exact rfl; (first | with_reducible assumption | with_reducible exact Eq.refl true | with_reducible exact Eq.refl false | (with_reducible refine not_t ?_; with_reducible assumption) | (with_reducible refine not_f ?_; with_reducible assumption) | (refine dec_t ?_; decide) | (refine dec_f ?_; decide)); exact rfl)
    | ((with_reducible apply j_beq); exact rfl; exact rfl; exact rfl; kernel_rfl)
    | ((with_reducible apply j_bne); exact rfl; exact rfl; exact rfl; kernel_rfl)
    | ((with_reducible apply j_ld_el1); exact rfl; exact rfl; exact rfl; exact rfl; (first | with_reducible assumption | exact map_get (by omega) | exact set_get (by simp; omega) | exact rfl); exact rfl)
    | ((with_reducible apply j_add); exact rfl; exact rfl; exact rfl; exact Go.IntWalk.i64_in _ (by omega))
    | ((with_reducible apply j_ia); exact rfl; exact rfl; exact rfl; exact rfl; omega; (first | with_reducible exact Int.toNat_natCast _ | exact rfl); (first | with_reducible assumption | exact map_get (by omega) | exact set_get (by simp; omega) | exact rfl); exact rfl; exact rfl)
    | ((with_reducible apply j_ia_sl); exact rfl; exact rfl; exact rfl; exact rfl; omega; omega; (first | with_reducible exact Int.toNat_natCast _ | exact rfl))
    | ((with_reducible apply j_ia_ar); exact rfl; exact rfl; exact rfl; exact rfl; omega; omega; (first | with_reducible exact Int.toNat_natCast _ | exact rfl))
    | ((with_reducible apply j_ste); exact rfl; exact rfl; exact rfl; exact rfl; exact rfl; exact rfl; (first | with_reducible assumption | exact map_get (by omega) | exact set_get (by simp; omega) | exact rfl); exact Nat.le_of_ble_eq_true rfl; exact rfl)
    | ((with_reducible apply c_c); exact rfl; (first | with_reducible assumption | with_reducible exact Eq.refl true | with_reducible exact Eq.refl false | (with_reducible refine not_t ?_; with_reducible assumption) | (with_reducible refine not_f ?_; with_reducible assumption) | (refine dec_t ?_; decide) | (refine dec_f ?_; decide)))
    | ((with_reducible apply b_o); exact rfl)
    | ((with_reducible apply r_g); exact rfl; (· repeat' (first | exact True.intro | refine And.intro ?_ ?_ | (first | exact rfl | exact (List.length_map _).symm | omega | (simp only [List.length_set, List.length_map, List.length_append] <;> omega) | (simp; done)))))
    | ((with_reducible apply j_call (pu := false)); exact rfl; exact awake_ic; (focus ((repeat' (first | exact .nil _ | refine .cons ?_ ?_ | exact .one (.d _ _) | exact .one (.nil _) | exact .one (.tape _) | exact .one (.fn _ _) | exact .agg (.same _ _) | refine .agg ?_ | exact .d _ _ | exact .one (.sl rfl rfl) | exact .sl rfl rfl | exact .same _ _)) <;> fail)); exact .inr rfl)
    | (with_reducible rfl)
    | ((with_reducible apply j_gs); exact rfl; exact rfl; all_goals intro hg)
    | ((with_reducible apply c_if); exact rfl; all_goals intro hc))
end Go.Proofs.Ytlbganfjbbnkoaa
