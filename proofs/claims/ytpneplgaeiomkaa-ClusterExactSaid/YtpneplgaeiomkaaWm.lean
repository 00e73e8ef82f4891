/- Cluster. -/
import Derived.Test.YtpneplgaeiomkaaWl
set_option linter.all false
set_option maxRecDepth 20000
set_option maxHeartbeats 4000000
namespace Go.Proofs.Ytpneplgaeiomkaa
open Go.RowKit Go.Shelf
theorem valid_iff (c : Cl) : validB c = true ↔ (1 ≤ c.reps.length ∧ c.reps.length ≤ 5) ∧ (1 ≤ c.sets.length ∧ c.sets.length ≤ 121) ∧ c.snaps.length ≤ 120 ∧ (∀ b ∈ c.sets, 0 ≤ b ∧ b ≤ 3) ∧ (∀ r ∈ c.reps, 0 ≤ r.gen ∧ r.gen < c.sets.length) ∧ (∀ g ∈ c.snaps, 0 ≤ g ∧ g < c.sets.length) := by
  simp only [validB, inB, Bool.and_eq_true, decide_eq_true_eq, List.all_eq_true, Bool.not_eq_true', decide_eq_false_iff_not]
  constructor
  · rintro ⟨⟨⟨⟨⟨h1, h2⟩, h3⟩, h4⟩, h5⟩, h6⟩
    exact ⟨by omega, by omega, by omega, h4, fun r hr => by have := h5 r hr; omega, fun g hg => by have := h6 g hg; omega⟩
  · rintro ⟨h1, h2, h3, h4, h5, h6⟩
    exact ⟨⟨⟨⟨⟨by omega, by omega⟩, by omega⟩, h4⟩, fun r hr => by have := h5 r hr; omega⟩, fun g hg => by have := h6 g hg; omega⟩
theorem M1 {c : Cl} {x : XvR} (h : x.kind = 1) : applyM c x = { c with sets := c.sets ++ [x.bits] } := by simp [applyM, h]
theorem M2 {c : Cl} {x : XvR} (h : x.kind = 2) : applyM c x = { c with reps := c.reps.set x.rep.toNat ⟨(c.sets.length : Int) - 1, true⟩ } := by simp [applyM, h]
theorem M3 {c : Cl} {x : XvR} (h : x.kind = 3) : applyM c x = { c with snaps := c.snaps ++ [(c.rep x.rep).gen] } := by simp [applyM, h]
theorem M4 {c : Cl} {x : XvR} (h : x.kind = 4) : applyM c x = { c with reps := c.reps.set x.rep.toNat ⟨c.snaps.getD x.snap.toNat 0, !c.fence⟩ } := by simp [applyM, h]
theorem apply_valid {c : Cl} {x : XvR} (he : applyE c x = 0) : validB (applyM c x) = true := by
  have hv : validB c = true := by
    by_cases h : validB c = true
    · exact h
    · simp [applyE, h] at he
  have hvv := (valid_iff c).1 hv
  obtain ⟨v1, v2, v3, v4, v5, v6⟩ := hvv
  rw [valid_iff]
  by_cases h1 : x.kind = 1
  · rw [E1 hv h1] at he
    split at he
    · rename_i hx
      have hb := (inB_iff _ _ _).1 hx.2.2
      split at he
      · cases he
      · rw [M1 h1]
        simp only [List.length_append, List.length_singleton]
        refine ⟨v1, by omega, v3, fun b hb' => ?_, fun r hr => ?_, fun g hg => ?_⟩
        · rcases List.mem_append.1 hb' with h | h
          · exact v4 b h
          · simp at h; omega
        · have := v5 r hr; omega
        · have := v6 g hg; omega
    · cases he
  · by_cases h2 : x.kind = 2
    · rw [M2 h2]
      simp only [List.length_set]
      refine ⟨v1, v2, v3, v4, fun r hr => ?_, v6⟩
      rcases List.mem_or_eq_of_mem_set hr with h | h
      · exact v5 r h
      · subst h; simp only; omega
    · by_cases h3 : x.kind = 3
      · rw [E3 hv h3] at he
        split at he
        · rename_i hx
          have hb := (inB_iff _ _ _).1 hx.2.2
          split at he
          · cases he
          · rw [M3 h3]
            simp only [List.length_append, List.length_singleton]
            refine ⟨v1, v2, by omega, v4, v5, fun g hg => ?_⟩
            rcases List.mem_append.1 hg with h | h
            · exact v6 g h
            · simp at h; subst h
              have := v5 (c.rep x.rep) (by rw [← rep_get (c := c) (i := x.rep) (by omega)]; exact List.getElem_mem _)
              exact this
        · cases he
      · by_cases h4 : x.kind = 4
        · rw [E4 hv h4] at he
          split at he
          · rename_i hx
            have hb := (inB_iff _ _ _).1 hx.2.2
            rw [M4 h4]
            simp only [List.length_set]
            refine ⟨v1, v2, v3, v4, fun r hr => ?_, v6⟩
            rcases List.mem_or_eq_of_mem_set hr with h | h
            · exact v5 r h
            · subst h
              have hl : x.snap.toNat < c.snaps.length := by omega
              have : c.snaps.getD x.snap.toNat 0 ∈ c.snaps := by
                rw [List.getD_eq_getElem?_getD, List.getElem?_eq_getElem hl]; exact List.getElem_mem _
              exact v6 _ this
          · cases he
        · rw [E0 h1 h2 h3 h4] at he; cases he
theorem applyC_valid {c : Cl} {x : XvR} (he : applyE c x = 0) : validB (applyC c x) = true := by
  unfold applyC; rw [if_pos he]; exact apply_valid he
theorem newC_valid {n b : Int} {f : Bool} (h1 : 1 ≤ n) (h2 : n ≤ 3) (h3 : 0 ≤ b) (h4 : b ≤ 3) : validB (newC n b f) = true := by
  have e : newOk n b = true := by unfold newOk; rw [Bool.and_eq_true, inB_iff, inB_iff]; omega
  unfold newC
  rw [if_pos e, valid_iff]
  simp only [newU, List.length_replicate, List.length_singleton, List.length_nil]
  refine ⟨by omega, by omega, by omega, fun b' hb => ?_, fun r hr => ?_, fun g hg => (by cases hg)⟩
  · simp at hb; omega
  · obtain ⟨_, rfl⟩ := List.mem_replicate.1 hr
    simp
structure MadeC (c : Cl) (m : Nat) : Prop where
  v : validB c = true
  s : c.sets.length + m ≤ 13
  n : c.snaps.length + m ≤ 12
  r : c.reps.length ≤ 3
theorem applyC_made {c : Cl} {x : XvR} {m : Nat} (h : MadeC c (m + 1)) (he : applyE c x = 0) : MadeC (applyC c x) m := by
  have hv := applyC_valid he
  unfold applyC at hv ⊢
  rw [if_pos he] at hv ⊢
  obtain ⟨h1, h2, h3, h4⟩ := h
  by_cases k1 : x.kind = 1
  · rw [M1 k1] at hv ⊢; exact ⟨hv, by simp; omega, by simp only; omega, h4⟩
  by_cases k2 : x.kind = 2
  · rw [M2 k2] at hv ⊢; exact ⟨hv, by simp only; omega, by simp only; omega, by simpa using h4⟩
  by_cases k3 : x.kind = 3
  · rw [M3 k3] at hv ⊢; exact ⟨hv, by simp only; omega, by simp; omega, h4⟩
  by_cases k4 : x.kind = 4
  · rw [M4 k4] at hv ⊢; exact ⟨hv, by simp only; omega, by simp only; omega, by simpa using h4⟩
  · rw [E0 k1 k2 k3 k4] at he; cases he
theorem MadeC.less {c : Cl} {m : Nat} (h : MadeC c (m + 1)) : MadeC c m := ⟨h.v, by have := h.s; omega, by have := h.n; omega, h.r⟩
theorem newC_made {n b : Int} {f : Bool} {m : Nat} (h1 : 1 ≤ n) (h2 : n ≤ 3) (h3 : 0 ≤ b) (h4 : b ≤ 3) (hm : m ≤ 12) : MadeC (newC n b f) m := by
  refine ⟨newC_valid h1 h2 h3 h4, ?_, ?_, ?_⟩ <;> (have e : newOk n b = true := by (unfold newOk; rw [Bool.and_eq_true, inB_iff, inB_iff]; omega)) <;> unfold newC <;> rw [if_pos e] <;> simp [newU] <;> omega
theorem Cluster_ic : ICt 10 [.one .tape] (fun v => ∃ c : Cl, MadeC c 0 ∧ v = c.v) := by
  refine ic_wk (K 38) Try.func10 rfl rfl rfl rfl (fun w0 => ?_)
  repeat' (first
    | ((with_reducible apply c_l1); exact rfl; exact rfl)
    | ((with_reducible apply c_l2); exact rfl; exact rfl)
    | ((with_reducible apply c_l3); exact rfl)
    | (with_reducible (first | apply c_seq | apply c_rg | apply j_nil | apply q_n | apply c_ct | apply c_cf | apply c_bl | apply c_ex | apply c_ret | apply c_sk | apply q_r | apply q_e | apply b_r | apply b_e | apply b_n | apply n_n | apply n_r | apply n_e))
    | ((with_reducible apply j_v); exact rfl; exact rfl)
    | ((with_reducible apply j_h); exact rfl; exact rfl)
    | ((with_reducible apply j_s); exact rfl)
    | ((with_reducible apply j_sub); exact rfl; exact rfl; exact rfl; exact Go.IntWalk.i64_in _ (by omega))
    | ((with_reducible apply c_c); exact rfl; (first | with_reducible assumption | with_reducible exact Eq.refl true | with_reducible exact Eq.refl false | (with_reducible refine not_t ?_; with_reducible assumption) | (with_reducible refine not_f ?_; with_reducible assumption) | (refine dec_t ?_; decide) | (refine dec_f ?_; decide)))
    | ((with_reducible apply b_o); exact rfl)
    | ((with_reducible apply r_g); exact rfl; (· repeat' (first | exact True.intro | refine And.intro ?_ ?_ | (first | exact rfl | exact (List.length_map _).symm | omega | (simp only [List.length_set, List.length_map, List.length_append] <;> omega) | (simp; done)))))
    | ((with_reducible apply j_callp (pu := false)); exact rfl; exact between_ic 1 3 (by omega) (by omega) (by omega) (by omega); (focus ((repeat' (first | exact .nil _ | refine .cons ?_ ?_ | exact .one (.d _ _) | exact .one (.nil _) | exact .one (.tape _) | exact .one (.fn _ _) | exact .agg (.same _ _) | refine .agg ?_ | exact .d _ _ | exact .one (.sl rfl rfl) | exact .sl rfl rfl | exact .same _ _)) <;> fail)); exact .inr (by rintro _ ⟨n, hn0, hn1, rfl⟩; rfl); rintro _ ⟨n, hn0, hn1, rfl⟩)
    | ((with_reducible apply j_callp (pu := false)); exact rfl; exact pick_ic [1, 1, 3, 2] (by decide) (by decide); (focus ((repeat' (first | exact .nil _ | refine .cons ?_ ?_ | exact .one (.d _ _) | exact .one (.nil _) | exact .one (.tape _) | exact .one (.fn _ _) | exact .agg (.same _ _) | refine .agg ?_ | exact .d _ _ | exact .one (.sl rfl rfl) | exact .sl rfl rfl | exact .same _ _)) <;> fail)); exact .inr (by rintro _ ⟨b, hb, rfl⟩; rfl); rintro _ ⟨b, hb, rfl⟩)
    | ((with_reducible apply j_callp (pu := false)); exact rfl; exact next_ic 2 (by omega) (by omega); (focus ((repeat' (first | exact .nil _ | refine .cons ?_ ?_ | exact .one (.d _ _) | exact .one (.nil _) | exact .one (.tape _) | exact .one (.fn _ _) | exact .agg (.same _ _) | refine .agg ?_ | exact .d _ _ | exact .one (.sl rfl rfl) | exact .sl rfl rfl | exact .same _ _)) <;> fail)); exact .inr (by rintro _ ⟨f, hf0, hf1, rfl⟩; rfl); rintro _ ⟨f, hf0, hf1, rfl⟩)
    | ((with_reducible apply j_callp (pu := false)); exact rfl; exact next_ic 12 (by omega) (by omega); (focus ((repeat' (first | exact .nil _ | refine .cons ?_ ?_ | exact .one (.d _ _) | exact .one (.nil _) | exact .one (.tape _) | exact .one (.fn _ _) | exact .agg (.same _ _) | refine .agg ?_ | exact .d _ _ | exact .one (.sl rfl rfl) | exact .sl rfl rfl | exact .same _ _)) <;> fail)); exact .inr (by rintro _ ⟨m, hm0, hm1, rfl⟩; rfl); rintro _ ⟨m, hm0, hm1, rfl⟩)
    | ((with_reducible apply j_call (pu := true)); exact rfl; apply (New_ic n b _); rotate_left 1; (focus ((repeat' (first | exact .nil _ | refine .cons ?_ ?_ | exact .one (.d _ _) | exact .one (.nil _) | exact .one (.tape _) | exact .one (.fn _ _) | exact .agg (.same _ _) | refine .agg ?_ | exact .d _ _ | exact .one (.sl rfl rfl) | exact .sl rfl rfl | exact .same _ _)) <;> fail)); exact .inl rfl)
    | (with_reducible rfl))
  have hb' : 0 ≤ b ∧ b ≤ 3 := by simp at hb; omega
  obtain ⟨m, rfl⟩ : ∃ m' : Nat, m = m' := ⟨m.toNat, by omega⟩
  refine c_any (((m, newC n b (decide (f = 1))) : Nat × Cl)) [0, 2, 3] [2, 12] (fun q => q.1 ≤ 12 ∧ MadeC q.2 q.1) (fun q => q.1) (⟨by simp only; omega, newC_made hn0 hn1 hb'.1 hb'.2 (by simp only; omega)⟩) (fun q => [(5, .one (.d (.int .i64 (q.1 : Int))))]) (fun q => [(3, .blk 25 (q.2.row.map .d))]) [] rfl rfl ⟨(by repeat' (first | exact .nil | exact .nil _ | refine .cons ?_ ?_ | exact .u _ | exact SVle_pl rfl | refine .one ?_ | refine .agg ?_ | exact .d rfl | exact .ref rfl rfl | exact .sl rfl (by first | rfl | omega | (rw [List.length_append, List.length_map]; show _ + 1 = _; omega) | simp) | exact .fn _ | exact .tape | exact .nils rfl | exact .nild | exact .nil | exact .rp (by simp) | exact .clo (by simp) | exact .el rfl rfl rfl | exact .d (by first | rfl | (congr 1; omega) | (congr 1; assumption) | simp) | exact .virt rfl | exact .gone _ | refine .blk rfl ?_ | exact .arr rfl (by first | rfl | assumption | simp))), (by repeat' (first | exact .nil | exact .nil _ | refine .cons ?_ ?_ | exact .u _ | exact SVle_pl rfl | refine .one ?_ | refine .agg ?_ | exact .d rfl | exact .ref rfl rfl | exact .sl rfl (by first | rfl | omega | (rw [List.length_append, List.length_map]; show _ + 1 = _; omega) | simp) | exact .fn _ | exact .tape | exact .nils rfl | exact .nild | exact .nil | exact .rp (by simp) | exact .clo (by simp) | exact .el rfl rfl rfl | exact .d (by first | rfl | (congr 1; omega) | (congr 1; assumption) | simp) | exact .virt rfl | exact .gone _ | refine .blk rfl ?_ | exact .arr rfl (by first | rfl | assumption | simp)))⟩ ?_
  rintro ⟨m, c⟩ ⟨hm, hmd⟩
  simp only at hm hmd
  have hv := hmd.v
  cases m with
  | zero =>
    have h1 : decide ((0 : Int) < ((0 : Nat) : Int)) = false := rfl
    repeat' (first
    | ((with_reducible apply c_l1); exact rfl; exact rfl)
    | ((with_reducible apply c_l2); exact rfl; exact rfl)
    | ((with_reducible apply c_l3); exact rfl)
    | (with_reducible (first | apply c_seq | apply c_rg | apply j_nil | apply q_n | apply c_ct | apply c_cf | apply c_bl | apply c_ex | apply c_ret | apply c_sk | apply q_r | apply q_e | apply b_r | apply b_e | apply b_n | apply n_n | apply n_r | apply n_e))
    | ((with_reducible apply j_v); exact rfl; exact rfl)
    | ((with_reducible apply j_h); exact rfl; exact rfl)
    | ((with_reducible apply j_s); exact rfl)
    | ((with_reducible apply j_sub); exact rfl; exact rfl; exact rfl; exact Go.IntWalk.i64_in _ (by omega))
    | ((with_reducible apply c_c); exact rfl; (first | with_reducible assumption | with_reducible exact Eq.refl true | with_reducible exact Eq.refl false | (with_reducible refine not_t ?_; with_reducible assumption) | (with_reducible refine not_f ?_; with_reducible assumption) | (refine dec_t ?_; decide) | (refine dec_f ?_; decide)))
    | ((with_reducible apply b_o); exact rfl)
    | ((with_reducible apply r_g); exact rfl; (· repeat' (first | exact True.intro | refine And.intro ?_ ?_ | (first | exact rfl | exact (List.length_map _).symm | omega | (simp only [List.length_set, List.length_map, List.length_append] <;> omega) | (simp; done)))))
    | (with_reducible rfl)
    | ((with_reducible apply j_gs); exact rfl; exact rfl; all_goals intro hg)
    | ((with_reducible apply c_if); exact rfl; all_goals intro hc))
    exact ⟨c, hmd, rfl⟩
  | succ m =>
    have h1 : decide ((0 : Int) < ((m + 1 : Nat) : Int)) = true := by simp
    repeat' (first
    | ((with_reducible apply c_l1); exact rfl; exact rfl)
    | ((with_reducible apply c_l2); exact rfl; exact rfl)
    | ((with_reducible apply c_l3); exact rfl)
    | (with_reducible (first | apply c_seq | apply c_rg | apply j_nil | apply q_n | apply c_ct | apply c_cf | apply c_bl | apply c_ex | apply c_ret | apply c_sk | apply q_r | apply q_e | apply b_r | apply b_e | apply b_n | apply n_n | apply n_r | apply n_e))
    | ((with_reducible apply j_v); exact rfl; exact rfl)
    | ((with_reducible apply j_h); exact rfl; exact rfl)
    | ((with_reducible apply j_s); exact rfl)
    | ((with_reducible apply j_sub); exact rfl; exact rfl; exact rfl; exact Go.IntWalk.i64_in _ (by omega))
    | ((with_reducible apply c_c); exact rfl; (first | with_reducible assumption | with_reducible exact Eq.refl true | with_reducible exact Eq.refl false | (with_reducible refine not_t ?_; with_reducible assumption) | (with_reducible refine not_f ?_; with_reducible assumption) | (refine dec_t ?_; decide) | (refine dec_f ?_; decide)))
    | ((with_reducible apply b_o); exact rfl)
    | ((with_reducible apply r_g); exact rfl; (· repeat' (first | exact True.intro | refine And.intro ?_ ?_ | (first | exact rfl | exact (List.length_map _).symm | omega | (simp only [List.length_set, List.length_map, List.length_append] <;> omega) | (simp; done)))))
    | (with_reducible rfl)
    | ((with_reducible apply j_gs); exact rfl; exact rfl; all_goals intro hg)
    | ((with_reducible apply c_if); exact rfl; all_goals intro hc))
    refine c_mt2 [0, 2, 3, 5] [2, 3, 12] (fun _ : XvR => True) (fun x => [(6, .one (.ref 6 0)), (7, .one (.d (.int .i64 (applyE c x))))]) (fun x => [(6, .blk 25 ((applyC c x).row.map .d))]) rfl rfl ?_ ?_
    · (refine n_start (by kernel_rfl) ?_; (refine n_quiet none #[true, true, true, true, true, true, true, true, true, true, true] [0, 1, 2, 3, 4, 5, 6, 7, 8, 9, 10] 0 rfl ?_; (repeat' (first | ((with_reducible apply (d_e (some []))); exact rfl; exact rfl; kernel_rfl; exact (by decide +kernel); exact rfl; exact rfl; (first | ((with_reducible apply e_v); exact rfl) | ((with_reducible apply e_call (pu := true)); exact rfl; apply (Apply_ic c _); rotate_left 1; (focus ((repeat' (first | exact .nil _ | refine .cons ?_ ?_ | exact .one (.d _ _) | exact .one (.nil _) | exact .one (.tape _) | exact .one (.fn _ _) | exact .agg (.same _ _) | refine .agg ?_ | exact .d _ _ | exact .one (.sl rfl rfl) | exact .sl rfl rfl | exact .same _ _)) <;> fail)); exact .inl rfl))) | ((with_reducible apply (d_e none)); exact rfl; exact rfl; kernel_rfl; kernel_rfl; exact rfl; exact rfl; (first | ((with_reducible apply e_v); exact rfl) | ((with_reducible apply e_call (pu := true)); exact rfl; apply (Apply_ic c _); rotate_left 1; (focus ((repeat' (first | exact .nil _ | refine .cons ?_ ?_ | exact .one (.d _ _) | exact .one (.nil _) | exact .one (.tape _) | exact .one (.fn _ _) | exact .agg (.same _ _) | refine .agg ?_ | exact .d _ _ | exact .one (.sl rfl rfl) | exact .sl rfl rfl | exact .same _ _)) <;> fail)); exact .inl rfl))) | ((with_reducible apply d_st); exact rfl; exact (by decide +kernel); exact rfl; exact rfl; exact rfl; exact rfl; exact rfl; exact rfl; exact rfl) | ((with_reducible apply d_ste); exact rfl; exact (by decide +kernel); exact rfl; exact rfl; exact rfl; exact rfl; exact rfl; exact rfl; exact rfl; (first | with_reducible assumption | exact map_get (by omega) | exact set_get (by simp; omega) | exact rfl); exact Nat.le_of_ble_eq_true rfl) | ((with_reducible apply d_al); exact rfl; exact rfl; exact (by decide +kernel); exact rfl; exact rfl) | ((with_reducible apply d_nd); exact rfl; exact rfl; exact (by decide +kernel); ((with_reducible apply e_callp (pu := true)); exact rfl; exact Event_ic c hv; (focus ((repeat' (first | exact .nil _ | refine .cons ?_ ?_ | exact .one (.d _ _) | exact .one (.nil _) | exact .one (.tape _) | exact .one (.fn _ _) | exact .agg (.same _ _) | refine .agg ?_ | exact .d _ _ | exact .one (.sl rfl rfl) | exact .sl rfl rfl | exact .same _ _)) <;> fail)); exact .inl rfl); rintro _ ⟨x, hx, rfl⟩) | (refine d_two 3 8 (by decide +kernel) ?_ ?_) | ((with_reducible apply (s_nd (i := 3) (l := [4, 5, 6, 7, 8, 9, 10]))); exact rfl; exact rfl; ((with_reducible apply e_callp (pu := true)); exact rfl; exact Event_ic c hv; (focus ((repeat' (first | exact .nil _ | refine .cons ?_ ?_ | exact .one (.d _ _) | exact .one (.nil _) | exact .one (.tape _) | exact .one (.fn _ _) | exact .agg (.same _ _) | refine .agg ?_ | exact .d _ _ | exact .one (.sl rfl rfl) | exact .sl rfl rfl | exact .same _ _)) <;> fail)); exact .inl rfl); exact rfl; rintro _ ⟨x, hx, rfl⟩) | ((with_reducible apply (s_al (i := 8) (l := [3, 4, 5, 6, 7, 9, 10]))); exact rfl; exact rfl; exact rfl; exact rfl; exact rfl) | ((with_reducible apply d_leaf); exact (by decide +kernel)))); all_goals ((with_reducible apply n_doneZ); exact rfl; exact (by decide +kernel))))
      all_goals ((with_reducible apply n_n); exact ⟨x, trivial, [], ⟨(by repeat' (first | exact .nil | exact .nil _ | refine .cons ?_ ?_ | exact .u _ | exact SVle_pl rfl | refine .one ?_ | refine .agg ?_ | exact .d rfl | exact .ref rfl rfl | exact .sl rfl (by first | rfl | omega | (rw [List.length_append, List.length_map]; show _ + 1 = _; omega) | simp) | exact .fn _ | exact .tape | exact .nils rfl | exact .nild | exact .nil | exact .rp (by simp) | exact .clo (by simp) | exact .el rfl rfl rfl | exact .d (by first | rfl | (congr 1; omega) | (congr 1; assumption) | simp) | exact .virt rfl | exact .gone _ | refine .blk rfl ?_ | exact .arr rfl (by first | rfl | assumption | simp))), (by repeat' (first | exact .nil | exact .nil _ | refine .cons ?_ ?_ | exact .u _ | exact SVle_pl rfl | refine .one ?_ | refine .agg ?_ | exact .d rfl | exact .ref rfl rfl | exact .sl rfl (by first | rfl | omega | (rw [List.length_append, List.length_map]; show _ + 1 = _; omega) | simp) | exact .fn _ | exact .tape | exact .nils rfl | exact .nild | exact .nil | exact .rp (by simp) | exact .clo (by simp) | exact .el rfl rfl rfl | exact .d (by first | rfl | (congr 1; omega) | (congr 1; assumption) | simp) | exact .virt rfl | exact .gone _ | refine .blk rfl ?_ | exact .arr rfl (by first | rfl | assumption | simp)))⟩⟩)
    intro x _
    by_cases he : applyE c x = 0
    · have h2 : decide (applyE c x = 0) = true := by simp [he]
      repeat' (first
    | ((with_reducible apply c_l1); exact rfl; exact rfl)
    | ((with_reducible apply c_l2); exact rfl; exact rfl)
    | ((with_reducible apply c_l3); exact rfl)
    | (with_reducible (first | apply c_seq | apply c_rg | apply j_nil | apply q_n | apply c_ct | apply c_cf | apply c_bl | apply c_ex | apply c_ret | apply c_sk | apply q_r | apply q_e | apply b_r | apply b_e | apply b_n | apply n_n | apply n_r | apply n_e))
    | ((with_reducible apply j_v); exact rfl; exact rfl)
    | ((with_reducible apply j_h); exact rfl; exact rfl)
    | ((with_reducible apply j_s); exact rfl)
    | ((with_reducible apply j_sub); exact rfl; exact rfl; exact rfl; exact Go.IntWalk.i64_in _ (by omega))
    | ((with_reducible apply c_c); exact rfl; (first | with_reducible assumption | with_reducible exact Eq.refl true | with_reducible exact Eq.refl false | (with_reducible refine not_t ?_; with_reducible assumption) | (with_reducible refine not_f ?_; with_reducible assumption) | (refine dec_t ?_; decide) | (refine dec_f ?_; decide)))
    | ((with_reducible apply b_o); exact rfl)
    | ((with_reducible apply r_g); exact rfl; (· repeat' (first | exact True.intro | refine And.intro ?_ ?_ | (first | exact rfl | exact (List.length_map _).symm | omega | (simp only [List.length_set, List.length_map, List.length_append] <;> omega) | (simp; done)))))
    | (with_reducible rfl)
    | ((with_reducible apply j_gs); exact rfl; exact rfl; all_goals intro hg)
    | ((with_reducible apply c_if); exact rfl; all_goals intro hc))
      exact ⟨(m, applyC c x), ⟨by simp only; omega, applyC_made hmd he⟩, by simp only; omega, [], ⟨(by repeat' (first | exact .nil | exact .nil _ | refine .cons ?_ ?_ | exact .u _ | exact SVle_pl rfl | refine .one ?_ | refine .agg ?_ | exact .d rfl | exact .ref rfl rfl | exact .sl rfl (by first | rfl | omega | (rw [List.length_append, List.length_map]; show _ + 1 = _; omega) | simp) | exact .fn _ | exact .tape | exact .nils rfl | exact .nild | exact .nil | exact .rp (by simp) | exact .clo (by simp) | exact .el rfl rfl rfl | exact .d (by first | rfl | (congr 1; omega) | (congr 1; assumption) | simp) | exact .virt rfl | exact .gone _ | refine .blk rfl ?_ | exact .arr rfl (by first | rfl | assumption | simp))), (by repeat' (first | exact .nil | exact .nil _ | refine .cons ?_ ?_ | exact .u _ | exact SVle_pl rfl | refine .one ?_ | refine .agg ?_ | exact .d rfl | exact .ref rfl rfl | exact .sl rfl (by first | rfl | omega | (rw [List.length_append, List.length_map]; show _ + 1 = _; omega) | simp) | exact .fn _ | exact .tape | exact .nils rfl | exact .nild | exact .nil | exact .rp (by simp) | exact .clo (by simp) | exact .el rfl rfl rfl | exact .d (by first | rfl | (congr 1; omega) | (congr 1; assumption) | simp) | exact .virt rfl | exact .gone _ | refine .blk rfl ?_ | exact .arr rfl (by first | rfl | assumption | simp)))⟩⟩
    · have h2 : decide (applyE c x = 0) = false := by simp [he]
      repeat' (first
    | ((with_reducible apply c_l1); exact rfl; exact rfl)
    | ((with_reducible apply c_l2); exact rfl; exact rfl)
    | ((with_reducible apply c_l3); exact rfl)
    | (with_reducible (first | apply c_seq | apply c_rg | apply j_nil | apply q_n | apply c_ct | apply c_cf | apply c_bl | apply c_ex | apply c_ret | apply c_sk | apply q_r | apply q_e | apply b_r | apply b_e | apply b_n | apply n_n | apply n_r | apply n_e))
    | ((with_reducible apply j_v); exact rfl; exact rfl)
    | ((with_reducible apply j_h); exact rfl; exact rfl)
    | ((with_reducible apply j_s); exact rfl)
    | ((with_reducible apply j_sub); exact rfl; exact rfl; exact rfl; exact Go.IntWalk.i64_in _ (by omega))
    | ((with_reducible apply c_c); exact rfl; (first | with_reducible assumption | with_reducible exact Eq.refl true | with_reducible exact Eq.refl false | (with_reducible refine not_t ?_; with_reducible assumption) | (with_reducible refine not_f ?_; with_reducible assumption) | (refine dec_t ?_; decide) | (refine dec_f ?_; decide)))
    | ((with_reducible apply b_o); exact rfl)
    | ((with_reducible apply r_g); exact rfl; (· repeat' (first | exact True.intro | refine And.intro ?_ ?_ | (first | exact rfl | exact (List.length_map _).symm | omega | (simp only [List.length_set, List.length_map, List.length_append] <;> omega) | (simp; done)))))
    | (with_reducible rfl)
    | ((with_reducible apply j_gs); exact rfl; exact rfl; all_goals intro hg)
    | ((with_reducible apply c_if); exact rfl; all_goals intro hc))
      exact ⟨(m, c), ⟨by simp only; omega, hmd.less⟩, by simp only; omega, [], ⟨(by repeat' (first | exact .nil | exact .nil _ | refine .cons ?_ ?_ | exact .u _ | exact SVle_pl rfl | refine .one ?_ | refine .agg ?_ | exact .d rfl | exact .ref rfl rfl | exact .sl rfl (by first | rfl | omega | (rw [List.length_append, List.length_map]; show _ + 1 = _; omega) | simp) | exact .fn _ | exact .tape | exact .nils rfl | exact .nild | exact .nil | exact .rp (by simp) | exact .clo (by simp) | exact .el rfl rfl rfl | exact .d (by first | rfl | (congr 1; omega) | (congr 1; assumption) | simp) | exact .virt rfl | exact .gone _ | refine .blk rfl ?_ | exact .arr rfl (by first | rfl | assumption | simp))), (by repeat' (first | exact .nil | exact .nil _ | refine .cons ?_ ?_ | exact .u _ | exact SVle_pl rfl | refine .one ?_ | refine .agg ?_ | exact .d rfl | exact .ref rfl rfl | exact .sl rfl (by first | rfl | omega | (rw [List.length_append, List.length_map]; show _ + 1 = _; omega) | simp) | exact .fn _ | exact .tape | exact .nils rfl | exact .nild | exact .nil | exact .rp (by simp) | exact .clo (by simp) | exact .el rfl rfl rfl | exact .d (by first | rfl | (congr 1; omega) | (congr 1; assumption) | simp) | exact .virt rfl | exact .gone _ | refine .blk rfl ?_ | exact .arr rfl (by first | rfl | assumption | simp)))⟩⟩
end Go.Proofs.Ytpneplgaeiomkaa
