/- The law ProbeMissing, walked. -/
import Derived.Test.YtlbganfjbbnkoaaWq
set_option linter.all false
set_option maxHeartbeats 4000000
namespace Go.Proofs.Ytlbganfjbbnkoaa
open Go.RowKit Go.Shelf
theorem fromN_off {l : List Int} {bit : Int} (hl : 0 < l.length) (h : bitOn (l.getD (l.length - 1) 0) bit = false) : fromN l bit l.length < l.length := by
  obtain ⟨n, hn⟩ : ∃ n, l.length = n + 1 := ⟨l.length - 1, by omega⟩
  rw [hn] at h ⊢
  simp only [Nat.add_sub_cancel] at h
  simp only [fromN, h, Bool.false_eq_true, if_false]
  have := fromN_le l bit n
  omega
theorem since_off {c : Cl} (hv : validB c = true) (h : lastOn c 1 = false) : sinceB c 1 = true ∧ sinceS c 1 < c.sets.length := by
  have hl := valid_len hv
  unfold lastOn at h
  rw [set_last] at h
  have hf := fromN_off (by omega) h
  have e : sinceB c 1 = true := by
    unfold sinceB
    rw [hv]
    have : ¬ fromN c.sets 1 c.sets.length = c.sets.length := by omega
    simp [this, askedB]
  refine ⟨e, ?_⟩
  unfold sinceS
  rw [e, if_pos rfl]
  omega
theorem proof_all {c : Cl} (hv : validB c = true) {k : Nat} (hk : k < c.reps.length) (hs : sinceB c 1 = true) (ha : accS c (k : Int) 1 = false) (hg : sinceS c 1 ≤ (c.reps[k]).gen) : ProofAt c (allL c) k := by
  refine ⟨ansS c (k : Int), by rw [allL_valid hv]; exact mem_allU.2 ⟨k, hk, rfl⟩, rfl, by simp [ansS, ha], hs, ?_, ?_⟩
  · simpa [ansS, Cl.rep, hk] using hg
  · have := (valid_gen hv (List.getElem_mem hk)).2
    simpa [ansS, Cl.rep, hk] using this
/-- Behind i syncs of those that are missing. -/
structure Sync (c : Cl) (i : Nat) (d : Cl) : Prop where
  v : validB d = true
  s : d.sets = c.sets
  r : d.reps.length = c.reps.length
  a : ∀ k (h : k < d.reps.length), (k : Int) ∈ (missL c (allL c)).take i → (d.reps[k]).gen = (c.sets.length : Int) - 1
  b : ∀ k (h : k < d.reps.length) (h' : k < c.reps.length), (k : Int) ∉ (missL c (allL c)).take i → d.reps[k] = c.reps[k]
theorem Sync.step {c d : Cl} {i : Nat} (h : Sync c i d) {k : Nat} (hk : k < c.reps.length) (hi : i < (missL c (allL c)).length) (e : (missL c (allL c))[i] = (k : Int)) : applyE d ⟨2, k, 0, 0⟩ = 0 ∧ Sync c (i + 1) (applyC d ⟨2, k, 0, 0⟩) := by
  have he := sync_ok h.v (k := k) (by rw [h.r]; exact hk)
  refine ⟨he, ?_⟩
  have hv := applyC_valid he
  unfold applyC at hv ⊢
  rw [if_pos he, M2 rfl] at hv ⊢
  refine ⟨hv, h.s, by simpa using h.r, fun j hj hm => ?_, fun j hj hj' hm => ?_⟩
  · simp only [List.getElem_set, Int.toNat_natCast]
    by_cases ej : k = j
    · subst ej; simp [h.s]
    · simp only [ej, if_false]
      rw [List.take_succ_eq_append_getElem hi, List.mem_append, e] at hm
      rcases hm with hm | hm
      · exact h.a j (by simpa using hj) hm
      · simp at hm; omega
  · simp only [List.getElem_set, Int.toNat_natCast]
    rw [List.take_succ_eq_append_getElem hi, List.mem_append, e, not_or] at hm
    have ej : ¬ k = j := fun e => hm.2 (by simp [e])
    simp only [ej, if_false]
    exact h.b j (by simpa using hj) hj' hm.1
theorem Sync.enough {c d : Cl} {i : Nat} (hc : validB c = true) (hl : lastOn c 1 = false) (h : Sync c i d) (hi : (missL c (allL c)).length ≤ i) : enoughS d (allL d) = true := by
  have hl' : lastOn d 1 = false := by unfold lastOn Cl.set at hl ⊢; rw [h.s]; exact hl
  obtain ⟨sb, ss⟩ := since_off h.v hl'
  refine enough_iff.2 ⟨h.v, fun k hk => ?_⟩
  have hk' : k < c.reps.length := by rw [← h.r]; exact hk
  by_cases hm : (k : Int) ∈ missL c (allL c)
  · have hg := h.a k hk (by rw [List.take_of_length_le hi]; exact hm)
    refine proof_all h.v hk sb ?_ ?_
    · rw [accS_of h.v rfl hk]
      refine live_off ?_
      rw [hg, ← h.s]
      exact hl'
    · rw [hg, ← h.s]; omega
  · have hr := h.b k hk hk' (by rw [List.take_of_length_le hi]; exact hm)
    have hp : ProofAt c (allL c) k := by
      by_cases hp : ProofAt c (allL c) k
      · exact hp
      · exact absurd ((mem_miss hc).2 ⟨k, hk', rfl, hp⟩) hm
    obtain ⟨ha, _⟩ := all_proof hc hk' hp
    obtain ⟨e1, e2⟩ := since_same h.s hc h.v
    refine proof_all h.v hk sb ?_ ?_
    · rw [accS_of h.v rfl hk, hr, live_same h.s, ← accS_of hc rfl hk']; exact ha
    · obtain ⟨x, hx, q1, _, _, q4, _⟩ := hp
      rw [allL_valid hc] at hx
      obtain ⟨j, hj, rfl⟩ := mem_allU.1 hx
      have : j = k := by simp [ansS] at q1; omega
      subst this
      rw [e2, hr]
      simpa [ansS, Cl.rep, hj] using q4
theorem pub_last {c : Cl} {b : Int} (he : applyE c ⟨1, 0, 0, b⟩ = 0) (hb : bitOn b 1 = false) : lastOn (applyC c ⟨1, 0, 0, b⟩) 1 = false := by
  unfold applyC
  rw [if_pos he, M1 rfl]
  unfold lastOn
  rw [set_last]
  simp only [List.length_append, List.length_singleton, Nat.add_sub_cancel]
  rw [List.getD_eq_getElem?_getD, List.getElem?_append_right (Nat.le_refl _)]
  simpa using hb
theorem Missing_il (l : List Int) : ILt 5 [lv l] := by
  refine il_wk (K 96) Try.func5 rfl rfl rfl rfl (fun w0 hw0 => ?_)
  by_cases hlen : 300 < l.length
  · have h1 : decide ((300 : Int) < (l.length : Int)) = true := by simp; omega
    repeat' (first
    | ((with_reducible apply c_l1); exact rfl; exact rfl)
    | ((with_reducible apply c_l2); exact rfl; exact rfl)
    | ((with_reducible apply c_l3); exact rfl)
    | (with_reducible (first | apply c_seq | apply c_rg | apply j_nil | apply q_n | apply g_tt | apply g_ff | apply c_ct | apply c_cf | apply c_bl | apply c_ex | apply c_ret | apply c_sk | apply q_r | apply q_e | apply b_r | apply b_e | apply b_n | apply n_n | apply n_r | apply n_e))
    | ((with_reducible apply j_tpa); exact hw0; exact rfl; exact rfl; exact rfl; exact rfl; exact rfl; exact rfl)
    | ((with_reducible apply j_v); exact rfl; exact rfl)
    | ((with_reducible apply j_h); exact rfl; exact rfl)
    | ((with_reducible apply j_s); exact rfl)
    | ((with_reducible apply j_g); exact rfl; exact rfl; (first | with_reducible assumption | with_reducible exact Eq.refl true | with_reducible exact Eq.refl false | (with_reducible refine not_t ?_; with_reducible assumption) | (with_reducible refine not_f ?_; with_reducible assumption) | (refine dec_t ?_; decide) | (refine dec_f ?_; decide)))
    | ((with_reducible apply g_tf); exact rfl)
    | ((with_reducible apply g_ft); exact rfl)
    | ((with_reducible apply j_gz); exact rfl; exact rfl; exact rfl)
    | ((with_reducible apply j_lenm); exact rfl; exact rfl; exact rfl)
    | ((with_reducible apply j_lens); exact rfl; exact rfl; exact rfl)
    | ((with_reducible apply j_len); exact rfl; exact rfl; exact rfl)
    | ((with_reducible apply j_len0); exact rfl; exact rfl; exact rfl)
    | ((with_reducible apply j_pk); exact rfl; exact rfl; (first | with_reducible assumption | with_reducible exact Eq.refl true | with_reducible exact Eq.refl false | (with_reducible refine not_t ?_; with_reducible assumption) | (with_reducible refine not_f ?_; with_reducible assumption) | (refine dec_t ?_; decide) | (refine dec_f ?_; decide)); exact rfl)
    | ((with_reducible apply j_ld_el1); exact rfl; exact rfl; exact rfl; exact rfl; (first | with_reducible assumption | exact map_get (by omega) | exact set_get (by simp; omega) | exact rfl); exact rfl)
    | ((with_reducible apply j_add); exact rfl; exact rfl; exact rfl; exact Go.IntWalk.i64_in _ (by omega))
    | ((with_reducible apply j_mul); exact rfl; exact rfl; exact rfl; exact Go.IntWalk.i64_in _ (by omega))
    | ((with_reducible apply j_ia); exact rfl; exact rfl; exact rfl; exact rfl; omega; (first | with_reducible exact Int.toNat_natCast _ | exact rfl); (first | with_reducible assumption | exact map_get (by omega) | exact set_get (by simp; omega) | exact rfl); exact rfl; exact rfl)
    | ((with_reducible apply j_ia_sl); exact rfl; exact rfl; exact rfl; exact rfl; omega; omega; (first | with_reducible exact Int.toNat_natCast _ | exact rfl))
    | ((with_reducible apply j_ia_ar); exact rfl; exact rfl; exact rfl; exact rfl; omega; omega; (first | with_reducible exact Int.toNat_natCast _ | exact rfl))
    | ((with_reducible apply j_ste); exact rfl; exact rfl; exact rfl; exact rfl; exact rfl; exact rfl; (first | with_reducible assumption | exact map_get (by omega) | exact set_get (by simp; omega) | exact rfl); exact Nat.le_of_ble_eq_true rfl; exact rfl)
    | ((with_reducible apply c_c); exact rfl; (first | with_reducible assumption | with_reducible exact Eq.refl true | with_reducible exact Eq.refl false | (with_reducible refine not_t ?_; with_reducible assumption) | (with_reducible refine not_f ?_; with_reducible assumption) | (refine dec_t ?_; decide) | (refine dec_f ?_; decide)))
    | ((with_reducible apply b_o); exact rfl)
    | ((with_reducible apply r_g); exact rfl; (· repeat' (first | exact True.intro | refine And.intro ?_ ?_ | (first | exact rfl | exact (List.length_map _).symm | omega | (simp only [List.length_set, List.length_map, List.length_append] <;> omega) | (simp; done)))))
    | ((with_reducible apply j_call (pu := false)); exact rfl; exact awake_ic; (focus ((repeat' (first | exact .nil _ | refine .cons ?_ ?_ | exact .one (.d _ _) | exact .one (.nil _) | exact .one (.tape _) | exact .one (.fn _ _) | exact .agg (.same _ _) | refine .agg ?_ | exact .d _ _ | exact .one (.sl rfl rfl) | exact .sl rfl rfl | exact .same _ _)) <;> fail)); exact .inr rfl)
    | (with_reducible rfl)
    | ((with_reducible apply j_gs); exact rfl; exact rfl; all_goals intro hg)
    | ((with_reducible apply c_if); exact rfl; all_goals intro hc))
  have h1 : decide ((300 : Int) < (l.length : Int)) = false := by simp; omega
  repeat' (first
    | ((with_reducible apply c_l1); exact rfl; exact rfl)
    | ((with_reducible apply c_l2); exact rfl; exact rfl)
    | ((with_reducible apply c_l3); exact rfl)
    | (with_reducible (first | apply c_seq | apply c_rg | apply j_nil | apply q_n | apply g_tt | apply g_ff | apply c_ct | apply c_cf | apply c_bl | apply c_ex | apply c_ret | apply c_sk | apply q_r | apply q_e | apply b_r | apply b_e | apply b_n | apply n_n | apply n_r | apply n_e))
    | ((with_reducible apply j_tpa); exact hw0; exact rfl; exact rfl; exact rfl; exact rfl; exact rfl; exact rfl)
    | ((with_reducible apply j_v); exact rfl; exact rfl)
    | ((with_reducible apply j_h); exact rfl; exact rfl)
    | ((with_reducible apply j_s); exact rfl)
    | ((with_reducible apply j_g); exact rfl; exact rfl; (first | with_reducible assumption | with_reducible exact Eq.refl true | with_reducible exact Eq.refl false | (with_reducible refine not_t ?_; with_reducible assumption) | (with_reducible refine not_f ?_; with_reducible assumption) | (refine dec_t ?_; decide) | (refine dec_f ?_; decide)))
    | ((with_reducible apply g_tf); exact rfl)
    | ((with_reducible apply g_ft); exact rfl)
    | ((with_reducible apply j_gz); exact rfl; exact rfl; exact rfl)
    | ((with_reducible apply j_lenm); exact rfl; exact rfl; exact rfl)
    | ((with_reducible apply j_lens); exact rfl; exact rfl; exact rfl)
    | ((with_reducible apply j_len); exact rfl; exact rfl; exact rfl)
    | ((with_reducible apply j_len0); exact rfl; exact rfl; exact rfl)
    | ((with_reducible apply j_pk); exact rfl; exact rfl; (first | with_reducible assumption | with_reducible exact Eq.refl true | with_reducible exact Eq.refl false | (with_reducible refine not_t ?_; with_reducible assumption) | (with_reducible refine not_f ?_; with_reducible assumption) | (refine dec_t ?_; decide) | (refine dec_f ?_; decide)); exact rfl)
    | ((with_reducible apply j_ld_el1); exact rfl; exact rfl; exact rfl; exact rfl; (first | with_reducible assumption | exact map_get (by omega) | exact set_get (by simp; omega) | exact rfl); exact rfl)
    | ((with_reducible apply j_add); exact rfl; exact rfl; exact rfl; exact Go.IntWalk.i64_in _ (by omega))
    | ((with_reducible apply j_mul); exact rfl; exact rfl; exact rfl; exact Go.IntWalk.i64_in _ (by omega))
    | ((with_reducible apply j_ia); exact rfl; exact rfl; exact rfl; exact rfl; omega; (first | with_reducible exact Int.toNat_natCast _ | exact rfl); (first | with_reducible assumption | exact map_get (by omega) | exact set_get (by simp; omega) | exact rfl); exact rfl; exact rfl)
    | ((with_reducible apply j_ia_sl); exact rfl; exact rfl; exact rfl; exact rfl; omega; omega; (first | with_reducible exact Int.toNat_natCast _ | exact rfl))
    | ((with_reducible apply j_ia_ar); exact rfl; exact rfl; exact rfl; exact rfl; omega; omega; (first | with_reducible exact Int.toNat_natCast _ | exact rfl))
    | ((with_reducible apply j_ste); exact rfl; exact rfl; exact rfl; exact rfl; exact rfl; exact rfl; (first | with_reducible assumption | exact map_get (by omega) | exact set_get (by simp; omega) | exact rfl); exact Nat.le_of_ble_eq_true rfl; exact rfl)
    | ((with_reducible apply c_c); exact rfl; (first | with_reducible assumption | with_reducible exact Eq.refl true | with_reducible exact Eq.refl false | (with_reducible refine not_t ?_; with_reducible assumption) | (with_reducible refine not_f ?_; with_reducible assumption) | (refine dec_t ?_; decide) | (refine dec_f ?_; decide)))
    | ((with_reducible apply b_o); exact rfl)
    | ((with_reducible apply r_g); exact rfl; (· repeat' (first | exact True.intro | refine And.intro ?_ ?_ | (first | exact rfl | exact (List.length_map _).symm | omega | (simp only [List.length_set, List.length_map, List.length_append] <;> omega) | (simp; done)))))
    | ((with_reducible apply j_callp (pu := true)); exact rfl; exact Cluster_ic; (focus ((repeat' (first | exact .nil _ | refine .cons ?_ ?_ | exact .one (.d _ _) | exact .one (.nil _) | exact .one (.tape _) | exact .one (.fn _ _) | exact .agg (.same _ _) | refine .agg ?_ | exact .d _ _ | exact .one (.sl rfl rfl) | exact .sl rfl rfl | exact .same _ _)) <;> fail)); exact .inl rfl; rintro _ ⟨c, hmc, rfl⟩)
    | (with_reducible rfl))
  (refine n_start (by kernel_rfl) ?_; (refine n_quiet none #[true, true, true, true, true, true, true, true, true, true, true] [0, 1, 2, 3, 4, 5, 6, 7, 8, 9, 10] 0 rfl ?_; (repeat' (first | ((with_reducible apply (d_e (some []))); exact rfl; exact rfl; kernel_rfl; exact (by decide +kernel); exact rfl; exact rfl; (first | ((with_reducible apply e_v); exact rfl) | ((with_reducible apply e_ld_el1); exact rfl; exact rfl; exact rfl; (first | with_reducible assumption | exact map_get (by omega) | exact set_get (by simp; omega) | exact rfl); exact rfl) | ((with_reducible apply e_ld_eln); exact rfl; exact rfl; exact rfl; (first | with_reducible assumption | exact map_get (by omega) | exact set_get (by simp; omega) | exact rfl); exact Nat.le_of_ble_eq_true rfl) | ((with_reducible apply e_mul); exact rfl; exact rfl; exact Go.IntWalk.i64_in _ (by omega)) | ((with_reducible apply e_ia); exact rfl; exact rfl; exact rfl; omega; (first | with_reducible exact Int.toNat_natCast _ | exact rfl); (first | with_reducible assumption | exact map_get (by omega) | exact set_get (by simp; omega) | exact rfl); exact rfl; exact rfl) | ((with_reducible apply e_ia_sl); exact rfl; exact rfl; exact rfl; omega; omega; (first | with_reducible exact Int.toNat_natCast _ | exact rfl)) | ((with_reducible apply e_ia_ar); exact rfl; exact rfl; exact rfl; omega; omega; (first | with_reducible exact Int.toNat_natCast _ | exact rfl)) | ((with_reducible apply e_call (pu := true)); exact rfl; exact Apply_ic c ⟨1, 0, 0, 2 * z⟩; (focus ((repeat' (first | exact .nil _ | refine .cons ?_ ?_ | exact .one (.d _ _) | exact .one (.nil _) | exact .one (.tape _) | exact .one (.fn _ _) | exact .agg (.same _ _) | refine .agg ?_ | exact .d _ _ | exact .one (.sl rfl rfl) | exact .sl rfl rfl | exact .same _ _)) <;> fail)); exact .inl rfl))) | ((with_reducible apply (d_e none)); exact rfl; exact rfl; kernel_rfl; kernel_rfl; exact rfl; exact rfl; (first | ((with_reducible apply e_v); exact rfl) | ((with_reducible apply e_ld_el1); exact rfl; exact rfl; exact rfl; (first | with_reducible assumption | exact map_get (by omega) | exact set_get (by simp; omega) | exact rfl); exact rfl) | ((with_reducible apply e_ld_eln); exact rfl; exact rfl; exact rfl; (first | with_reducible assumption | exact map_get (by omega) | exact set_get (by simp; omega) | exact rfl); exact Nat.le_of_ble_eq_true rfl) | ((with_reducible apply e_mul); exact rfl; exact rfl; exact Go.IntWalk.i64_in _ (by omega)) | ((with_reducible apply e_ia); exact rfl; exact rfl; exact rfl; omega; (first | with_reducible exact Int.toNat_natCast _ | exact rfl); (first | with_reducible assumption | exact map_get (by omega) | exact set_get (by simp; omega) | exact rfl); exact rfl; exact rfl) | ((with_reducible apply e_ia_sl); exact rfl; exact rfl; exact rfl; omega; omega; (first | with_reducible exact Int.toNat_natCast _ | exact rfl)) | ((with_reducible apply e_ia_ar); exact rfl; exact rfl; exact rfl; omega; omega; (first | with_reducible exact Int.toNat_natCast _ | exact rfl)) | ((with_reducible apply e_call (pu := true)); exact rfl; exact Apply_ic c ⟨1, 0, 0, 2 * z⟩; (focus ((repeat' (first | exact .nil _ | refine .cons ?_ ?_ | exact .one (.d _ _) | exact .one (.nil _) | exact .one (.tape _) | exact .one (.fn _ _) | exact .agg (.same _ _) | refine .agg ?_ | exact .d _ _ | exact .one (.sl rfl rfl) | exact .sl rfl rfl | exact .same _ _)) <;> fail)); exact .inl rfl))) | ((with_reducible apply d_st); exact rfl; exact (by decide +kernel); exact rfl; exact rfl; exact rfl; exact rfl; exact rfl; exact rfl; exact rfl) | ((with_reducible apply d_ste); exact rfl; exact (by decide +kernel); exact rfl; exact rfl; exact rfl; exact rfl; exact rfl; exact rfl; exact rfl; (first | with_reducible assumption | exact map_get (by omega) | exact set_get (by simp; omega) | exact rfl); exact Nat.le_of_ble_eq_true rfl) | ((with_reducible apply d_nd); exact rfl; exact rfl; exact (by decide +kernel); ((with_reducible apply e_callp (pu := false)); exact rfl; exact next_ic 2 (by omega) (by omega); (focus ((repeat' (first | exact .nil _ | refine .cons ?_ ?_ | exact .one (.d _ _) | exact .one (.nil _) | exact .one (.tape _) | exact .one (.fn _ _) | exact .agg (.same _ _) | refine .agg ?_ | exact .d _ _ | exact .one (.sl rfl rfl) | exact .sl rfl rfl | exact .same _ _)) <;> fail)); exact .inr (by rintro _ ⟨z, hz0, hz1, rfl⟩; rfl)); rintro _ ⟨z, hz0, hz1, rfl⟩) | ((with_reducible apply d_leaf); exact (by decide +kernel)))); all_goals ((with_reducible apply n_doneZ); exact rfl; exact (by decide +kernel))))
  have hz : 2 * z = 0 ∨ 2 * z = 2 := by omega
  have hp : applyE c ⟨1, 0, 0, 2 * z⟩ = 0 := pub_ok hmc.v (by have := hmc.s; omega) (by omega)
  have hla : lastOn (applyC c ⟨1, 0, 0, 2 * z⟩) 1 = false := pub_last hp (by rcases hz with e | e <;> rw [e] <;> decide +kernel)
  have hv := applyC_valid hp
  have hp2 : (!decide (applyE c ⟨1, 0, 0, 2 * z⟩ = 0)) = false := by simp [hp]
  obtain ⟨d, hd⟩ : ∃ d, d = applyC c ⟨1, 0, 0, 2 * z⟩ := ⟨_, rfl⟩
  rw [← hd] at hla hv
  have hc0 : (!decide (checkS d = 0)) = false := by simp [checkS, hv]
  rw [← hd]
  repeat' (first
    | ((with_reducible apply c_l1); exact rfl; exact rfl)
    | ((with_reducible apply c_l2); exact rfl; exact rfl)
    | ((with_reducible apply c_l3); exact rfl)
    | (with_reducible (first | apply c_seq | apply c_rg | apply j_nil | apply q_n | apply g_tt | apply g_ff | apply c_ct | apply c_cf | apply c_bl | apply c_ex | apply c_ret | apply c_sk | apply q_r | apply q_e | apply b_r | apply b_e | apply b_n | apply n_n | apply n_r | apply n_e))
    | ((with_reducible apply j_tpa); exact hw0; exact rfl; exact rfl; exact rfl; exact rfl; exact rfl; exact rfl)
    | ((with_reducible apply j_v); exact rfl; exact rfl)
    | ((with_reducible apply j_h); exact rfl; exact rfl)
    | ((with_reducible apply j_s); exact rfl)
    | ((with_reducible apply j_g); exact rfl; exact rfl; (first | with_reducible assumption | with_reducible exact Eq.refl true | with_reducible exact Eq.refl false | (with_reducible refine not_t ?_; with_reducible assumption) | (with_reducible refine not_f ?_; with_reducible assumption) | (refine dec_t ?_; decide) | (refine dec_f ?_; decide)))
    | ((with_reducible apply g_tf); exact rfl)
    | ((with_reducible apply g_ft); exact rfl)
    | ((with_reducible apply j_gz); exact rfl; exact rfl; exact rfl)
    | ((with_reducible apply j_lenm); exact rfl; exact rfl; exact rfl)
    | ((with_reducible apply j_lens); exact rfl; exact rfl; exact rfl)
    | ((with_reducible apply j_len); exact rfl; exact rfl; exact rfl)
    | ((with_reducible apply j_len0); exact rfl; exact rfl; exact rfl)
    | ((with_reducible apply j_pk); exact rfl; exact rfl; (first | with_reducible assumption | with_reducible exact Eq.refl true | with_reducible exact Eq.refl false | (with_reducible refine not_t ?_; with_reducible assumption) | (with_reducible refine not_f ?_; with_reducible assumption) | (refine dec_t ?_; decide) | (refine dec_f ?_; decide)); exact rfl)
    | ((with_reducible apply j_ld_el1); exact rfl; exact rfl; exact rfl; exact rfl; (first | with_reducible assumption | exact map_get (by omega) | exact set_get (by simp; omega) | exact rfl); exact rfl)
    | ((with_reducible apply j_add); exact rfl; exact rfl; exact rfl; exact Go.IntWalk.i64_in _ (by omega))
    | ((with_reducible apply j_mul); exact rfl; exact rfl; exact rfl; exact Go.IntWalk.i64_in _ (by omega))
    | ((with_reducible apply j_ia); exact rfl; exact rfl; exact rfl; exact rfl; omega; (first | with_reducible exact Int.toNat_natCast _ | exact rfl); (first | with_reducible assumption | exact map_get (by omega) | exact set_get (by simp; omega) | exact rfl); exact rfl; exact rfl)
    | ((with_reducible apply j_ia_sl); exact rfl; exact rfl; exact rfl; exact rfl; omega; omega; (first | with_reducible exact Int.toNat_natCast _ | exact rfl))
    | ((with_reducible apply j_ia_ar); exact rfl; exact rfl; exact rfl; exact rfl; omega; omega; (first | with_reducible exact Int.toNat_natCast _ | exact rfl))
    | ((with_reducible apply j_ste); exact rfl; exact rfl; exact rfl; exact rfl; exact rfl; exact rfl; (first | with_reducible assumption | exact map_get (by omega) | exact set_get (by simp; omega) | exact rfl); exact Nat.le_of_ble_eq_true rfl; exact rfl)
    | ((with_reducible apply c_c); exact rfl; (first | with_reducible assumption | with_reducible exact Eq.refl true | with_reducible exact Eq.refl false | (with_reducible refine not_t ?_; with_reducible assumption) | (with_reducible refine not_f ?_; with_reducible assumption) | (refine dec_t ?_; decide) | (refine dec_f ?_; decide)))
    | ((with_reducible apply b_o); exact rfl)
    | ((with_reducible apply r_g); exact rfl; (· repeat' (first | exact True.intro | refine And.intro ?_ ?_ | (first | exact rfl | exact (List.length_map _).symm | omega | (simp only [List.length_set, List.length_map, List.length_append] <;> omega) | (simp; done)))))
    | ((with_reducible apply j_call (pu := true)); exact rfl; exact All_ic d; (focus ((repeat' (first | exact .nil _ | refine .cons ?_ ?_ | exact .one (.d _ _) | exact .one (.nil _) | exact .one (.tape _) | exact .one (.fn _ _) | exact .agg (.same _ _) | refine .agg ?_ | exact .d _ _ | exact .one (.sl rfl rfl) | exact .sl rfl rfl | exact .same _ _)) <;> fail)); exact .inl rfl)
    | ((with_reducible apply j_call (pu := true)); exact rfl; apply (Missing_ic d _); rotate_left 1; (focus ((repeat' (first | exact .nil _ | refine .cons ?_ ?_ | exact .one (.d _ _) | exact .one (.nil _) | exact .one (.tape _) | exact .one (.fn _ _) | exact .agg (.same _ _) | refine .agg ?_ | exact .d _ _ | exact .one (.sl rfl rfl) | exact .sl rfl rfl | exact .same _ _)) <;> fail)); exact .inl rfl)
    | (with_reducible rfl))
  refine k_one (x := 43) rfl fun ho => ?_
  have hml := ho.map.1
  refine c_any (((0, d) : Nat × Cl)) [4, 43, 44] [17] (fun q => q.1 ≤ (missL d (allL d)).length ∧ Sync d q.1 q.2) (fun q => (missL d (allL d)).length - q.1) (⟨Nat.zero_le _, hv, rfl, rfl, fun _ _ h => by simp at h, fun _ _ _ _ => rfl⟩) (fun q => [(45, .one (.d (.int .i64 (q.1 : Int))))]) (fun q => [(4, .blk 29 (q.2.row.map .d))]) [] rfl rfl ⟨(by repeat' (first | exact .nil | exact .nil _ | refine .cons ?_ ?_ | exact .u _ | exact SVle_pl rfl | refine .one ?_ | refine .agg ?_ | exact .d rfl | exact .ref rfl rfl | exact .sl rfl (by first | rfl | omega | (rw [List.length_append, List.length_map]; show _ + 1 = _; omega) | simp) | exact .fn _ | exact .tape | exact .nils rfl | exact .nild | exact .nil | exact .rp (by simp) | exact .clo (by simp) | exact .el rfl rfl rfl | exact .d (by first | rfl | (congr 1; omega) | (congr 1; assumption) | simp) | exact .virt rfl | exact .gone _ | refine .blk rfl ?_ | exact .arr rfl (by first | rfl | assumption | simp))), (by repeat' (first | exact .nil | exact .nil _ | refine .cons ?_ ?_ | exact .u _ | exact SVle_pl rfl | refine .one ?_ | refine .agg ?_ | exact .d rfl | exact .ref rfl rfl | exact .sl rfl (by first | rfl | omega | (rw [List.length_append, List.length_map]; show _ + 1 = _; omega) | simp) | exact .fn _ | exact .tape | exact .nils rfl | exact .nild | exact .nil | exact .rp (by simp) | exact .clo (by simp) | exact .el rfl rfl rfl | exact .d (by first | rfl | (congr 1; omega) | (congr 1; assumption) | simp) | exact .virt rfl | exact .gone _ | refine .blk rfl ?_ | exact .arr rfl (by first | rfl | assumption | simp)))⟩ ?_
  rintro ⟨i, e⟩ ⟨hi, hs⟩
  simp only at hi hs
  by_cases hlt : i < (missL d (allL d)).length
  · have h2 := dlt hlt
    obtain ⟨k, hk, ek, _⟩ := (mem_miss hv).1 (List.getElem_mem hlt)
    obtain ⟨he, hs2⟩ := hs.step hk hlt ek
    rw [← ek] at he hs2
    have hr := hs.r
    have h3 : decide ((missL d (allL d))[i] < 0) = false := by simp; omega
    have h4 : decide ((e.reps.length : Int) ≤ (missL d (allL d))[i]) = false := by simp; omega
    repeat' (first
    | ((with_reducible apply c_l1); exact rfl; exact rfl)
    | ((with_reducible apply c_l2); exact rfl; exact rfl)
    | ((with_reducible apply c_l3); exact rfl)
    | (with_reducible (first | apply c_seq | apply c_rg | apply j_nil | apply q_n | apply g_tt | apply g_ff | apply c_ct | apply c_cf | apply c_bl | apply c_ex | apply c_ret | apply c_sk | apply q_r | apply q_e | apply b_r | apply b_e | apply b_n | apply n_n | apply n_r | apply n_e))
    | ((with_reducible apply j_tpa); exact hw0; exact rfl; exact rfl; exact rfl; exact rfl; exact rfl; exact rfl)
    | ((with_reducible apply j_v); exact rfl; exact rfl)
    | ((with_reducible apply j_h); exact rfl; exact rfl)
    | ((with_reducible apply j_s); exact rfl)
    | ((with_reducible apply j_g); exact rfl; exact rfl; (first | with_reducible assumption | with_reducible exact Eq.refl true | with_reducible exact Eq.refl false | (with_reducible refine not_t ?_; with_reducible assumption) | (with_reducible refine not_f ?_; with_reducible assumption) | (refine dec_t ?_; decide) | (refine dec_f ?_; decide)))
    | ((with_reducible apply g_tf); exact rfl)
    | ((with_reducible apply g_ft); exact rfl)
    | ((with_reducible apply j_gz); exact rfl; exact rfl; exact rfl)
    | ((with_reducible apply j_lenm); exact rfl; exact rfl; exact rfl)
    | ((with_reducible apply j_lens); exact rfl; exact rfl; exact rfl)
    | ((with_reducible apply j_len); exact rfl; exact rfl; exact rfl)
    | ((with_reducible apply j_len0); exact rfl; exact rfl; exact rfl)
    | ((with_reducible apply j_pk); exact rfl; exact rfl; (first | with_reducible assumption | with_reducible exact Eq.refl true | with_reducible exact Eq.refl false | (with_reducible refine not_t ?_; with_reducible assumption) | (with_reducible refine not_f ?_; with_reducible assumption) | (refine dec_t ?_; decide) | (refine dec_f ?_; decide)); exact rfl)
    | ((with_reducible apply j_ld_el1); exact rfl; exact rfl; exact rfl; exact rfl; (first | with_reducible assumption | exact map_get (by omega) | exact set_get (by simp; omega) | exact rfl); exact rfl)
    | ((with_reducible apply j_add); exact rfl; exact rfl; exact rfl; exact Go.IntWalk.i64_in _ (by omega))
    | ((with_reducible apply j_mul); exact rfl; exact rfl; exact rfl; exact Go.IntWalk.i64_in _ (by omega))
    | ((with_reducible apply j_ia); exact rfl; exact rfl; exact rfl; exact rfl; omega; (first | with_reducible exact Int.toNat_natCast _ | exact rfl); (first | with_reducible assumption | exact map_get (by omega) | exact set_get (by simp; omega) | exact rfl); exact rfl; exact rfl)
    | ((with_reducible apply j_ia_sl); exact rfl; exact rfl; exact rfl; exact rfl; omega; omega; (first | with_reducible exact Int.toNat_natCast _ | exact rfl))
    | ((with_reducible apply j_ia_ar); exact rfl; exact rfl; exact rfl; exact rfl; omega; omega; (first | with_reducible exact Int.toNat_natCast _ | exact rfl))
    | ((with_reducible apply j_ste); exact rfl; exact rfl; exact rfl; exact rfl; exact rfl; exact rfl; (first | with_reducible assumption | exact map_get (by omega) | exact set_get (by simp; omega) | exact rfl); exact Nat.le_of_ble_eq_true rfl; exact rfl)
    | ((with_reducible apply c_c); exact rfl; (first | with_reducible assumption | with_reducible exact Eq.refl true | with_reducible exact Eq.refl false | (with_reducible refine not_t ?_; with_reducible assumption) | (with_reducible refine not_f ?_; with_reducible assumption) | (refine dec_t ?_; decide) | (refine dec_f ?_; decide)))
    | ((with_reducible apply b_o); exact rfl)
    | ((with_reducible apply r_g); exact rfl; (· repeat' (first | exact True.intro | refine And.intro ?_ ?_ | (first | exact rfl | exact (List.length_map _).symm | omega | (simp only [List.length_set, List.length_map, List.length_append] <;> omega) | (simp; done)))))
    | ((with_reducible apply j_call (pu := true)); exact rfl; exact Apply_ic e ⟨2, (missL d (allL d))[i], 0, 0⟩; (focus ((repeat' (first | exact .nil _ | refine .cons ?_ ?_ | exact .one (.d _ _) | exact .one (.nil _) | exact .one (.tape _) | exact .one (.fn _ _) | exact .agg (.same _ _) | refine .agg ?_ | exact .d _ _ | exact .one (.sl rfl rfl) | exact .sl rfl rfl | exact .same _ _)) <;> fail)); exact .inl rfl)
    | (with_reducible rfl)
    | ((with_reducible apply j_gs); exact rfl; exact rfl; all_goals intro hg)
    | ((with_reducible apply c_if); exact rfl; all_goals intro hc))
    exact ⟨(i + 1, _), ⟨by simp only; omega, hs2⟩, by simp only; omega, [], ⟨(by repeat' (first | exact .nil | exact .nil _ | refine .cons ?_ ?_ | exact .u _ | exact SVle_pl rfl | refine .one ?_ | refine .agg ?_ | exact .d rfl | exact .ref rfl rfl | exact .sl rfl (by first | rfl | omega | (rw [List.length_append, List.length_map]; show _ + 1 = _; omega) | simp) | exact .fn _ | exact .tape | exact .nils rfl | exact .nild | exact .nil | exact .rp (by simp) | exact .clo (by simp) | exact .el rfl rfl rfl | exact .d (by first | rfl | (congr 1; omega) | (congr 1; assumption) | simp) | exact .virt rfl | exact .gone _ | refine .blk rfl ?_ | exact .arr rfl (by first | rfl | assumption | simp))), (by repeat' (first | exact .nil | exact .nil _ | refine .cons ?_ ?_ | exact .u _ | exact SVle_pl rfl | refine .one ?_ | refine .agg ?_ | exact .d rfl | exact .ref rfl rfl | exact .sl rfl (by first | rfl | omega | (rw [List.length_append, List.length_map]; show _ + 1 = _; omega) | simp) | exact .fn _ | exact .tape | exact .nils rfl | exact .nild | exact .nil | exact .rp (by simp) | exact .clo (by simp) | exact .el rfl rfl rfl | exact .d (by first | rfl | (congr 1; omega) | (congr 1; assumption) | simp) | exact .virt rfl | exact .gone _ | refine .blk rfl ?_ | exact .arr rfl (by first | rfl | assumption | simp)))⟩⟩
  have h2 := dge hlt
  have hen := hs.enough hv hla (by omega)
  have hv2 := hs.v
  have hc1 : decide (checkS e = 0) = true := by simp [checkS, hv2]
  have hl2 := all_len hv2
  have h5 : decide (((allL e).length : Int) = (e.reps.length : Int)) = true := by simp [hl2]
  have h6 : decide (((missL e (allL e)).length : Int) = 0) = true := by
    have := hen
    unfold enoughS at this
    rw [Bool.and_eq_true] at this
    exact this.2
  repeat' (first
    | ((with_reducible apply c_l1); exact rfl; exact rfl)
    | ((with_reducible apply c_l2); exact rfl; exact rfl)
    | ((with_reducible apply c_l3); exact rfl)
    | (with_reducible (first | apply c_seq | apply c_rg | apply j_nil | apply q_n | apply g_tt | apply g_ff | apply c_ct | apply c_cf | apply c_bl | apply c_ex | apply c_ret | apply c_sk | apply q_r | apply q_e | apply b_r | apply b_e | apply b_n | apply n_n | apply n_r | apply n_e))
    | ((with_reducible apply j_tpa); exact hw0; exact rfl; exact rfl; exact rfl; exact rfl; exact rfl; exact rfl)
    | ((with_reducible apply j_v); exact rfl; exact rfl)
    | ((with_reducible apply j_h); exact rfl; exact rfl)
    | ((with_reducible apply j_s); exact rfl)
    | ((with_reducible apply j_g); exact rfl; exact rfl; (first | with_reducible assumption | with_reducible exact Eq.refl true | with_reducible exact Eq.refl false | (with_reducible refine not_t ?_; with_reducible assumption) | (with_reducible refine not_f ?_; with_reducible assumption) | (refine dec_t ?_; decide) | (refine dec_f ?_; decide)))
    | ((with_reducible apply g_tf); exact rfl)
    | ((with_reducible apply g_ft); exact rfl)
    | ((with_reducible apply j_gz); exact rfl; exact rfl; exact rfl)
    | ((with_reducible apply j_lenm); exact rfl; exact rfl; exact rfl)
    | ((with_reducible apply j_lens); exact rfl; exact rfl; exact rfl)
    | ((with_reducible apply j_len); exact rfl; exact rfl; exact rfl)
    | ((with_reducible apply j_len0); exact rfl; exact rfl; exact rfl)
    | ((with_reducible apply j_pk); exact rfl; exact rfl; (first | with_reducible assumption | with_reducible exact Eq.refl true | with_reducible exact Eq.refl false | (with_reducible refine not_t ?_; with_reducible assumption) | (with_reducible refine not_f ?_; with_reducible assumption) | (refine dec_t ?_; decide) | (refine dec_f ?_; decide)); exact rfl)
    | ((with_reducible apply j_ld_el1); exact rfl; exact rfl; exact rfl; exact rfl; (first | with_reducible assumption | exact map_get (by omega) | exact set_get (by simp; omega) | exact rfl); exact rfl)
    | ((with_reducible apply j_add); exact rfl; exact rfl; exact rfl; exact Go.IntWalk.i64_in _ (by omega))
    | ((with_reducible apply j_mul); exact rfl; exact rfl; exact rfl; exact Go.IntWalk.i64_in _ (by omega))
    | ((with_reducible apply j_ia); exact rfl; exact rfl; exact rfl; exact rfl; omega; (first | with_reducible exact Int.toNat_natCast _ | exact rfl); (first | with_reducible assumption | exact map_get (by omega) | exact set_get (by simp; omega) | exact rfl); exact rfl; exact rfl)
    | ((with_reducible apply j_ia_sl); exact rfl; exact rfl; exact rfl; exact rfl; omega; omega; (first | with_reducible exact Int.toNat_natCast _ | exact rfl))
    | ((with_reducible apply j_ia_ar); exact rfl; exact rfl; exact rfl; exact rfl; omega; omega; (first | with_reducible exact Int.toNat_natCast _ | exact rfl))
    | ((with_reducible apply j_ste); exact rfl; exact rfl; exact rfl; exact rfl; exact rfl; exact rfl; (first | with_reducible assumption | exact map_get (by omega) | exact set_get (by simp; omega) | exact rfl); exact Nat.le_of_ble_eq_true rfl; exact rfl)
    | ((with_reducible apply c_c); exact rfl; (first | with_reducible assumption | with_reducible exact Eq.refl true | with_reducible exact Eq.refl false | (with_reducible refine not_t ?_; with_reducible assumption) | (with_reducible refine not_f ?_; with_reducible assumption) | (refine dec_t ?_; decide) | (refine dec_f ?_; decide)))
    | ((with_reducible apply b_o); exact rfl)
    | ((with_reducible apply r_g); exact rfl; (· repeat' (first | exact True.intro | refine And.intro ?_ ?_ | (first | exact rfl | exact (List.length_map _).symm | omega | (simp only [List.length_set, List.length_map, List.length_append] <;> omega) | (simp; done)))))
    | ((with_reducible apply j_call (pu := false)); exact rfl; exact awake_ic; (focus ((repeat' (first | exact .nil _ | refine .cons ?_ ?_ | exact .one (.d _ _) | exact .one (.nil _) | exact .one (.tape _) | exact .one (.fn _ _) | exact .agg (.same _ _) | refine .agg ?_ | exact .d _ _ | exact .one (.sl rfl rfl) | exact .sl rfl rfl | exact .same _ _)) <;> fail)); exact .inr rfl)
    | ((with_reducible apply j_call (pu := true)); exact rfl; exact All_ic e; (focus ((repeat' (first | exact .nil _ | refine .cons ?_ ?_ | exact .one (.d _ _) | exact .one (.nil _) | exact .one (.tape _) | exact .one (.fn _ _) | exact .agg (.same _ _) | refine .agg ?_ | exact .d _ _ | exact .one (.sl rfl rfl) | exact .sl rfl rfl | exact .same _ _)) <;> fail)); exact .inl rfl)
    | ((with_reducible apply j_call (pu := false)); exact rfl; apply (Enough_ic e _); rotate_left 1; (focus ((repeat' (first | exact .nil _ | refine .cons ?_ ?_ | exact .one (.d _ _) | exact .one (.nil _) | exact .one (.tape _) | exact .one (.fn _ _) | exact .agg (.same _ _) | refine .agg ?_ | exact .d _ _ | exact .one (.sl rfl rfl) | exact .sl rfl rfl | exact .same _ _)) <;> fail)); exact .inr rfl)
    | ((with_reducible apply j_call (pu := true)); exact rfl; apply (Missing_ic e _); rotate_left 1; (focus ((repeat' (first | exact .nil _ | refine .cons ?_ ?_ | exact .one (.d _ _) | exact .one (.nil _) | exact .one (.tape _) | exact .one (.fn _ _) | exact .agg (.same _ _) | refine .agg ?_ | exact .d _ _ | exact .one (.sl rfl rfl) | exact .sl rfl rfl | exact .same _ _)) <;> fail)); exact .inl rfl)
    | (with_reducible rfl)
    | ((with_reducible apply j_gs); exact rfl; exact rfl; all_goals intro hg)
    | ((with_reducible apply c_if); exact rfl; all_goals intro hc))
end Go.Proofs.Ytlbganfjbbnkoaa
