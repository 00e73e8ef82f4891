/- The reference's Revives. -/
import Derived.Test.YtpneplgaeiomkaaYf
set_option linter.all false
set_option maxRecDepth 20000
set_option maxHeartbeats 2000000
namespace Go.Proofs.Ytpneplgaeiomkaa
open Go.RowKit Go.Shelf
theorem revS_snd {c : Cl} {bit : Int} (hv : validB c = true) (ha : askedB bit = true) : (revS c bit).2 = ((c.reps.any fun r => liveB c r bit) || (lastOn c bit || (!c.fence && ((c.snaps.any fun g => bitOn (c.set g) bit) || ((c.reps.any fun r => bitOn (c.set r.gen) bit) && decide (c.snaps.length < 120)))))) := by
  have e1 := idxOf_ge (fun g => bitOn (c.set g) bit) c.snaps
  have e2 := idxOf_ge (fun r : RepR => bitOn (c.set r.gen) bit) c.reps
  unfold revS
  rw [hv, ha, Bool.and_self, if_pos rfl, ← e1, ← e2]
  cases c.reps.any fun r => liveB c r bit
  · cases lastOn c bit
    · cases c.fence
      · by_cases h1 : 0 ≤ idxOf (fun g => bitOn (c.set g) bit) c.snaps
        · simp [h1]
        · by_cases h2 : idxOf (fun r : RepR => bitOn (c.set r.gen) bit) c.reps < 0 ∨ 120 ≤ c.snaps.length
          · have h3 : (decide (0 ≤ idxOf (fun r : RepR => bitOn (c.set r.gen) bit) c.reps) && decide (c.snaps.length < 120)) = false := by
              rw [Bool.and_eq_false_iff]; rcases h2 with h2 | h2
              · left; simp; omega
              · right; simp; omega
            simp only [h1, h2, h3]; rfl
          · have h3 : (decide (0 ≤ idxOf (fun r : RepR => bitOn (c.set r.gen) bit) c.reps) && decide (c.snaps.length < 120)) = true := by
              rw [Bool.and_eq_true, decide_eq_true_eq, decide_eq_true_eq]; omega
            simp only [h1, h2, h3]; rfl
      · rfl
    · rfl
  · rfl
theorem upAll {α : Type} [Inhabited α] {l : List α} (q : α → Bool) {A E : (Int → Prop) → (Int → Nat) → Int → Prop} (hl : l.length ≤ 9223372036854775807) (step : ∀ I μ z, 0 ≤ z → z < (l.length : Int) → gt l z ∈ l → (q (gt l z) = true → I (z + 1) ∧ μ (z + 1) < μ z) → A I μ z) (ex : ∀ I μ, l.all q = true → E I μ l.length) :
    ∃ (I : Int → Prop) (μ : Int → Nat), I 0 ∧ ∀ x, I x → Brn (decide (x < (l.length : Int))) (A I μ x) (E I μ x) := by
  refine up1 (fun z => ∀ j (h1 : j < l.length), (j : Int) < z → q l[j] = true) (by omega) (by intro j h1 h3; omega) (fun I μ z hz0 hz1 hj nx => ?_) (fun I μ hj => ?_)
  · refine step I μ z hz0 hz1 (gt_mem hz0 hz1) fun e => nx fun j h1 h3 => ?_
    by_cases hjz : (j : Int) < z
    · exact hj j h1 hjz
    · have : z = j := by omega
      subst this
      rw [gt_nat h1] at e
      exact e
  · refine ex I μ (List.all_eq_true.2 fun x hx => ?_)
    obtain ⟨j, hj2, rfl⟩ := List.getElem_of_mem hx
    exact hj j hj2 (by omega)
theorem any_of {α : Type} {l : List α} {q : α → Bool} {x : α} (hx : x ∈ l) (h : q x = true) : l.any q = true := List.any_eq_true.2 ⟨x, hx, h⟩
theorem any_no {α : Type} {l : List α} {q : α → Bool} (h : (l.all fun x => !q x) = true) : l.any q = false := by
  rw [List.any_eq_false]; intro x hx
  have := List.all_eq_true.1 h x hx
  simpa using this
noncomputable def rRevives_V (c : Cl) (bit : Int) (Q : SV → Prop) : Σ' P : Prop, (P → ICt 46 [.agg (List.map .d (Cl.row c)), .one (.d (.int .i64 bit))] Q) := by
  apply mkV; intro hP
  refine ic_wk (K 65) Try.func46 rfl rfl rfl rfl (fun w0 => ?_)
  apply (v_kint (x := 1)); exact rfl; exact hP; clear hP; intro hP
  repeat' (first
    | ((fail_if_success (have hTest : Hld False := hP)); (have hq := chk_c hP); (replace hP := chk_p hP))
    | ((with_reducible apply j_lst); exact rfl)
    | (with_reducible (first | apply c_seq | apply c_rg | apply j_nil | apply q_n | apply g_tt | apply g_ff | apply c_ct | apply c_cf | apply c_bl | apply c_ex | apply c_ret | apply c_sk | apply q_r | apply q_e | apply b_r | apply b_e | apply b_n | apply n_n | apply n_r | apply n_e))
    | ((with_reducible apply v_lenstr); exact rfl; exact rfl; kernel_rfl)
    | ((with_reducible apply c_l1); exact rfl; exact rfl)
    | ((with_reducible apply c_l2); exact rfl; exact rfl)
    | ((with_reducible apply c_l3); exact rfl)
    | ((with_reducible apply j_v); exact rfl; exact rfl)
    | ((with_reducible apply j_h); exact rfl; exact rfl)
    | ((with_reducible apply j_s); exact rfl)
    | ((with_reducible apply j_g); exact rfl; exact rfl; (first | with_reducible assumption | with_reducible exact Eq.refl true | with_reducible exact Eq.refl false | (with_reducible refine not_t ?_; with_reducible assumption) | (with_reducible refine not_f ?_; with_reducible assumption) | (refine dec_t ?_; decide) | (refine dec_f ?_; decide)))
    | ((with_reducible apply g_tf); exact rfl)
    | ((with_reducible apply g_ft); exact rfl)
    | ((with_reducible apply j_gz); exact rfl; exact rfl; exact rfl)
    | ((with_reducible apply v_lenm); exact rfl; exact rfl; exact rfl; (exact hP); clear hP; intro hP)
    | ((with_reducible apply v_lens); exact rfl; exact rfl; exact rfl; (exact hP); clear hP; intro hP)
    | ((with_reducible apply j_len); exact rfl; exact rfl; exact rfl)
    | ((with_reducible apply j_len0); exact rfl; exact rfl; exact rfl)
    | ((with_reducible apply j_pk); exact rfl; exact rfl; (first | with_reducible assumption | with_reducible exact Eq.refl true | with_reducible exact Eq.refl false | (with_reducible refine not_t ?_; with_reducible assumption) | (with_reducible refine not_f ?_; with_reducible assumption) | (refine dec_t ?_; decide) | (refine dec_f ?_; decide)); exact rfl)
    | ((with_reducible apply j_ld_el1); exact rfl; exact rfl; exact rfl; exact rfl; (first | with_reducible assumption | exact gt_row (by omega) (by omega) | exact rfl); exact rfl)
    | ((with_reducible apply j_add); exact rfl; exact rfl; exact rfl; (first | (with_reducible apply wr_i64; (first | with_reducible assumption | (apply chk_c; exact hP; (first | (guard_target = Prop; rotate_left 1) | skip)))) | exact rfl))
    | ((with_reducible apply v_ia); exact rfl; exact rfl; exact rfl; exact rfl; (case inst => exact inferInstance); exact rfl; exact rfl; (first | with_reducible assumption | (apply chk_c; exact hP; (first | (guard_target = Prop; rotate_left 1) | skip))))
    | ((with_reducible apply v_iasl); exact rfl; exact rfl; exact rfl; exact rfl; (first | with_reducible assumption | (apply chk_c; exact hP; (first | (guard_target = Prop; rotate_left 1) | skip))))
    | ((with_reducible apply j_ia_ar); exact rfl; exact rfl; exact rfl; exact rfl; ((repeat ((fail_if_success (have hTest : Hld False := hP)); (have hq := chk_c hP); (replace hP := chk_p hP))); first | with_reducible assumption | (apply chk_c; exact hP; (first | (guard_target = Prop; rotate_left 1) | skip))); ((repeat ((fail_if_success (have hTest : Hld False := hP)); (have hq := chk_c hP); (replace hP := chk_p hP))); first | with_reducible assumption | (apply chk_c; exact hP; (first | (guard_target = Prop; rotate_left 1) | skip))); (first | with_reducible exact Int.toNat_natCast _ | exact rfl))
    | ((with_reducible apply c_c); exact rfl; (first | with_reducible assumption | with_reducible exact Eq.refl true | with_reducible exact Eq.refl false | (with_reducible refine not_t ?_; with_reducible assumption) | (with_reducible refine not_f ?_; with_reducible assumption) | (refine dec_t ?_; decide) | (refine dec_f ?_; decide)))
    | ((with_reducible apply b_o); exact rfl)
    | ((with_reducible apply r_g); exact rfl; (· repeat' (first | exact True.intro | refine And.intro ?_ ?_ | (show (_ : Nat) = _; (first | exact rfl | exact (List.length_map _).symm | omega | (simp only [List.length_set, List.length_map, List.length_append] <;> omega) | (simp; done))))); (exact hP.out))
    | ((with_reducible apply j_call (pu := false)); exact rfl; apply (Dead_ic _ _); rotate_left 2; (focus ((repeat' (first | exact .nil _ | refine .cons ?_ ?_ | exact .one (.d _ _) | exact .one psc_nilm | exact psc_nilm | exact .one (.nil _) | exact .one (.tape _) | exact .one (.fn _ _) | exact .agg (.same _ _) | refine .agg ?_ | exact .d _ _ | exact .one (.sl rfl rfl) | exact .one (.sl rfl (List.length_map _).symm) | exact .sl rfl rfl | exact .sl rfl (List.length_map _).symm | exact .same _ _)) <;> fail)); exact .inr rfl)
    | ((with_reducible apply j_call (pu := false)); exact rfl; apply (Dead_ic ⟨_, _, _, _⟩ _); rotate_left 5; dsimp only [Cl.v_mk]; (focus ((repeat' (first | exact .nil _ | refine .cons ?_ ?_ | exact .one (.d _ _) | exact .one psc_nilm | exact psc_nilm | exact .one (.nil _) | exact .one (.tape _) | exact .one (.fn _ _) | exact .agg (.same _ _) | refine .agg ?_ | exact .d _ _ | exact .one (.sl rfl rfl) | exact .one (.sl rfl (List.length_map _).symm) | exact .sl rfl rfl | exact .sl rfl (List.length_map _).symm | exact .same _ _)) <;> fail)); exact .inr rfl)
    | ((with_reducible apply j_call (pu := false)); exact rfl; apply (valid_ic _); rotate_left 1; (focus ((repeat' (first | exact .nil _ | refine .cons ?_ ?_ | exact .one (.d _ _) | exact .one psc_nilm | exact psc_nilm | exact .one (.nil _) | exact .one (.tape _) | exact .one (.fn _ _) | exact .agg (.same _ _) | refine .agg ?_ | exact .d _ _ | exact .one (.sl rfl rfl) | exact .one (.sl rfl (List.length_map _).symm) | exact .sl rfl rfl | exact .sl rfl (List.length_map _).symm | exact .same _ _)) <;> fail)); exact .inr rfl)
    | ((with_reducible apply j_call (pu := false)); exact rfl; apply (valid_ic ⟨_, _, _, _⟩); rotate_left 4; dsimp only [Cl.v_mk]; (focus ((repeat' (first | exact .nil _ | refine .cons ?_ ?_ | exact .one (.d _ _) | exact .one psc_nilm | exact psc_nilm | exact .one (.nil _) | exact .one (.tape _) | exact .one (.fn _ _) | exact .agg (.same _ _) | refine .agg ?_ | exact .d _ _ | exact .one (.sl rfl rfl) | exact .one (.sl rfl (List.length_map _).symm) | exact .sl rfl rfl | exact .sl rfl (List.length_map _).symm | exact .same _ _)) <;> fail)); exact .inr rfl)
    | ((with_reducible refine v_loopat (c := (.seq (.region 8 _ _) _)) ?_); (apply (v_loop1 _ [1, 2, 27, 28] [2] (fun x1 => [(29, .one (.d (.int .i64 x1)))]) (fun x1 => []) [])); exact rfl; exact rfl; exact ⟨(by repeat' (first | exact .nil | exact .nil _ | refine .cons ?_ ?_ | exact .u _ | exact SVle_pl rfl | refine .one ?_ | refine .agg ?_ | exact .d rfl | exact .ref rfl rfl | exact .sl rfl (by first | rfl | omega | (rw [List.length_append, List.length_map]; show _ + 1 = _; omega) | simp) | exact .fn _ | exact .tape | exact .nils rfl | exact .nild | exact .nildm | exact .nil | exact .rp (by simp) | exact .clo (by simp) | exact .el rfl rfl rfl | exact .d (by first | rfl | (congr 1; omega) | (congr 1; assumption) | simp) | exact .virt rfl | exact .gone _ | refine .blk rfl ?_ | exact .arr rfl (by first | rfl | assumption | simp))), (by repeat' (first | exact .nil | exact .nil _ | refine .cons ?_ ?_ | exact .u _ | exact SVle_pl rfl | refine .one ?_ | refine .agg ?_ | exact .d rfl | exact .ref rfl rfl | exact .sl rfl (by first | rfl | omega | (rw [List.length_append, List.length_map]; show _ + 1 = _; omega) | simp) | exact .fn _ | exact .tape | exact .nils rfl | exact .nild | exact .nildm | exact .nil | exact .rp (by simp) | exact .clo (by simp) | exact .el rfl rfl rfl | exact .d (by first | rfl | (congr 1; omega) | (congr 1; assumption) | simp) | exact .virt rfl | exact .gone _ | refine .blk rfl ?_ | exact .arr rfl (by first | rfl | assumption | simp)))⟩; (exact hP); clear hP; intro I μ x1 hP)
    | ((with_reducible apply (v_nxt1 (a1 := _))); (repeat' (first | exact .nil | exact .nil _ | refine .cons ?_ ?_ | exact .u _ | exact SVle_pl rfl | refine .one ?_ | refine .agg ?_ | exact .d rfl | exact .ref rfl rfl | exact .sl rfl (by first | rfl | exact (splT_len (by simp only [List.length_take, List.length_drop]; omega)).symm | omega | (rw [List.length_append, List.length_map]; show _ + 1 = _; omega) | simp) | exact .fn _ | exact .tape | exact .nils rfl | exact .nild | exact .nildm | exact .nil | exact .rp (by simp) | exact .clo (by simp) | exact .el rfl rfl rfl | exact .d (by first | rfl | (congr 1; omega) | (congr 1; assumption) | simp) | exact .virt rfl | exact .gone _ | refine .blk rfl ?_ | exact .arr rfl (by first | rfl | assumption | simp))); (repeat' (first | exact .nil | exact .nil _ | refine .cons ?_ ?_ | exact .u _ | exact SVle_pl rfl | refine .one ?_ | refine .agg ?_ | exact .d rfl | exact .ref rfl rfl | exact .sl rfl (by first | rfl | exact (splT_len (by simp only [List.length_take, List.length_drop]; omega)).symm | omega | (rw [List.length_append, List.length_map]; show _ + 1 = _; omega) | simp) | exact .fn _ | exact .tape | exact .nils rfl | exact .nild | exact .nildm | exact .nil | exact .rp (by simp) | exact .clo (by simp) | exact .el rfl rfl rfl | exact .d (by first | rfl | (congr 1; omega) | (congr 1; assumption) | simp) | exact .virt rfl | exact .gone _ | refine .blk rfl ?_ | exact .arr rfl (by first | rfl | assumption | simp))); (exact hP))
    | ((with_reducible refine v_loopat (c := (.seq (.region 14 _ _) _)) ?_); (apply (v_loop1 _ [1, 2, 43, 44] [2] (fun x1 => [(45, .one (.d (.int .i64 x1)))]) (fun x1 => []) [])); exact rfl; exact rfl; exact ⟨(by repeat' (first | exact .nil | exact .nil _ | refine .cons ?_ ?_ | exact .u _ | exact SVle_pl rfl | refine .one ?_ | refine .agg ?_ | exact .d rfl | exact .ref rfl rfl | exact .sl rfl (by first | rfl | omega | (rw [List.length_append, List.length_map]; show _ + 1 = _; omega) | simp) | exact .fn _ | exact .tape | exact .nils rfl | exact .nild | exact .nildm | exact .nil | exact .rp (by simp) | exact .clo (by simp) | exact .el rfl rfl rfl | exact .d (by first | rfl | (congr 1; omega) | (congr 1; assumption) | simp) | exact .virt rfl | exact .gone _ | refine .blk rfl ?_ | exact .arr rfl (by first | rfl | assumption | simp))), (by repeat' (first | exact .nil | exact .nil _ | refine .cons ?_ ?_ | exact .u _ | exact SVle_pl rfl | refine .one ?_ | refine .agg ?_ | exact .d rfl | exact .ref rfl rfl | exact .sl rfl (by first | rfl | omega | (rw [List.length_append, List.length_map]; show _ + 1 = _; omega) | simp) | exact .fn _ | exact .tape | exact .nils rfl | exact .nild | exact .nildm | exact .nil | exact .rp (by simp) | exact .clo (by simp) | exact .el rfl rfl rfl | exact .d (by first | rfl | (congr 1; omega) | (congr 1; assumption) | simp) | exact .virt rfl | exact .gone _ | refine .blk rfl ?_ | exact .arr rfl (by first | rfl | assumption | simp)))⟩; (exact hP); clear hP; intro I μ x1 hP)
    | ((with_reducible apply (v_nxt1 (a1 := _))); (repeat' (first | exact .nil | exact .nil _ | refine .cons ?_ ?_ | exact .u _ | exact SVle_pl rfl | refine .one ?_ | refine .agg ?_ | exact .d rfl | exact .ref rfl rfl | exact .sl rfl (by first | rfl | exact (splT_len (by simp only [List.length_take, List.length_drop]; omega)).symm | omega | (rw [List.length_append, List.length_map]; show _ + 1 = _; omega) | simp) | exact .fn _ | exact .tape | exact .nils rfl | exact .nild | exact .nildm | exact .nil | exact .rp (by simp) | exact .clo (by simp) | exact .el rfl rfl rfl | exact .d (by first | rfl | (congr 1; omega) | (congr 1; assumption) | simp) | exact .virt rfl | exact .gone _ | refine .blk rfl ?_ | exact .arr rfl (by first | rfl | assumption | simp))); (repeat' (first | exact .nil | exact .nil _ | refine .cons ?_ ?_ | exact .u _ | exact SVle_pl rfl | refine .one ?_ | refine .agg ?_ | exact .d rfl | exact .ref rfl rfl | exact .sl rfl (by first | rfl | exact (splT_len (by simp only [List.length_take, List.length_drop]; omega)).symm | omega | (rw [List.length_append, List.length_map]; show _ + 1 = _; omega) | simp) | exact .fn _ | exact .tape | exact .nils rfl | exact .nild | exact .nildm | exact .nil | exact .rp (by simp) | exact .clo (by simp) | exact .el rfl rfl rfl | exact .d (by first | rfl | (congr 1; omega) | (congr 1; assumption) | simp) | exact .virt rfl | exact .gone _ | refine .blk rfl ?_ | exact .arr rfl (by first | rfl | assumption | simp))); (exact hP))
    | ((with_reducible apply v_gs); exact rfl; exact rfl; (exact hP); all_goals (clear hP; intro hg hP))
    | ((with_reducible apply v_if); exact rfl; (exact hP); all_goals (clear hP; intro hc hP)))
theorem rRevives_ic (c : Cl) (bit : Int) : ICt 46 [c.v, iv bit] (fun v => v = bv (revS c bit).2) := (rRevives_V c bit _).2 (by
  (delta rRevives_V; dsimp only [mkV])
  by_cases hv : ¬ validB c = true
  · have hr : (revS c bit).2 = false := by unfold revS; simp [hv]
    rw [hr]
    (repeat' (first | with_reducible refine brn_nd (fun h => ?_) (fun h => ?_) | with_reducible refine brn_d (fun h => ?_) (fun h => ?_) | with_reducible refine brn_nn (fun h => ?_) (fun h => ?_) | with_reducible refine brn_nb (fun h => ?_) (fun h => ?_) | with_reducible refine Brn.mk (fun h => ?_) (fun h => ?_) | with_reducible refine Chk.mk ?_ ?_ | with_reducible refine Bth.mk ?_ ?_ | with_reducible refine Fct.mk (fun hf => ?_)))
    all_goals first | rfl | (exfalso; contradiction)
  rw [Classical.not_not] at hv
  have hl := valid_len hv
  by_cases ha : ¬ askedB bit = true
  · have hr : (revS c bit).2 = false := by unfold revS; simp [hv, ha]
    have h12 : ¬ bit = 1 ∧ ¬ bit = 2 := by simpa [askedB] using ha
    rw [hr]
    (repeat' (first | with_reducible refine brn_nd (fun h => ?_) (fun h => ?_) | with_reducible refine brn_d (fun h => ?_) (fun h => ?_) | with_reducible refine brn_nn (fun h => ?_) (fun h => ?_) | with_reducible refine brn_nb (fun h => ?_) (fun h => ?_) | with_reducible refine Brn.mk (fun h => ?_) (fun h => ?_) | with_reducible refine Chk.mk ?_ ?_ | with_reducible refine Bth.mk ?_ ?_ | with_reducible refine Fct.mk (fun hf => ?_)))
    all_goals first | rfl | (exfalso; contradiction) | (exfalso; omega)
  rw [Classical.not_not] at ha
  have h12 : bit = 1 ∨ bit = 2 := by simpa [askedB] using ha
  have hd : deadS c bit = (!lastOn c bit && !(c.reps.any fun r => liveB c r bit)) := by
    unfold deadS; rw [hv, ha, none_any hv ha]; rfl
  rw [revS_snd hv ha]
  by_cases hLY : ¬ (lastOn c bit = false ∧ (c.reps.any fun r => liveB c r bit) = false)
  · have hd2 : deadS c bit = false := by
      rw [hd]
      cases hx : lastOn c bit <;> cases hy : (c.reps.any fun r => liveB c r bit) <;> simp_all
    have hr : ((c.reps.any fun r => liveB c r bit) || (lastOn c bit || (!c.fence && ((c.snaps.any fun g => bitOn (c.set g) bit) || ((c.reps.any fun r => bitOn (c.set r.gen) bit) && decide (c.snaps.length < 120)))))) = true := by
      cases hx : lastOn c bit <;> cases hy : (c.reps.any fun r => liveB c r bit) <;> simp_all
    rw [hr]
    simp only [hv, hd2, Bool.not_true, Bool.not_false]
    (repeat' (first | with_reducible refine brn_nd (fun h => ?_) (fun h => ?_) | with_reducible refine brn_d (fun h => ?_) (fun h => ?_) | with_reducible refine brn_nn (fun h => ?_) (fun h => ?_) | with_reducible refine brn_nb (fun h => ?_) (fun h => ?_) | with_reducible refine Brn.mk (fun h => ?_) (fun h => ?_) | with_reducible refine Chk.mk ?_ ?_ | with_reducible refine Bth.mk ?_ ?_ | with_reducible refine Fct.mk (fun hf => ?_)))
    all_goals first | (show SV.one _ = SV.one _; rfl) | exact True.intro | (exfalso; contradiction) | (exfalso; omega) | (exfalso; exact absurd h (by decide)) | trace_state
  rw [Classical.not_not] at hLY
  have hd2 : deadS c bit = true := by rw [hd, hLY.1, hLY.2]; rfl
  rw [hLY.1, hLY.2]
  simp only [Bool.false_or, hv, hd2, Bool.not_true, Bool.not_false]
  (repeat' (first | with_reducible refine brn_nd (fun h => ?_) (fun h => ?_) | with_reducible refine brn_d (fun h => ?_) (fun h => ?_) | with_reducible refine brn_nn (fun h => ?_) (fun h => ?_) | with_reducible refine brn_nb (fun h => ?_) (fun h => ?_) | with_reducible refine Brn.mk (fun h => ?_) (fun h => ?_) | with_reducible refine Chk.mk ?_ ?_ | with_reducible refine Bth.mk ?_ ?_ | with_reducible refine Fct.mk (fun hf => ?_)))
  all_goals first | (exfalso; contradiction) | (exfalso; omega) | skip
  all_goals first
    | (refine bl ?_; rw [h]; rfl)
    | skip
  all_goals
    have hff : c.fence = false := h
    rw [hff]
    simp only [Bool.not_false, Bool.true_and]
    refine upAll (fun g => !bitOn (c.set g) bit) (by omega) (fun I μ z hz0 hz1 hm nx => ?_) (fun I μ hs => ?_)
    · (repeat' (first | with_reducible refine brn_nd (fun h => ?_) (fun h => ?_) | with_reducible refine brn_d (fun h => ?_) (fun h => ?_) | with_reducible refine brn_nn (fun h => ?_) (fun h => ?_) | with_reducible refine brn_nb (fun h => ?_) (fun h => ?_) | with_reducible refine Brn.mk (fun h => ?_) (fun h => ?_) | with_reducible refine Chk.mk ?_ ?_ | with_reducible refine Bth.mk ?_ ?_ | with_reducible refine Fct.mk (fun hf => ?_)))
      · omega
      · exact valid_snap hv hm
      · refine bl ?_
        have : bitOn (c.set (gt c.snaps z)) bit = true := by show (!decide (bits .and .i64 (gt c.sets (gt c.snaps z)) bit = 0)) = true; simpa using h
        rw [any_of (q := fun g => bitOn (c.set g) bit) hm this]; rfl
      · unfold InI; omega
      · refine nx ?_
        have : bitOn (c.set (gt c.snaps z)) bit = false := by show (!decide (bits .and .i64 (gt c.sets (gt c.snaps z)) bit = 0)) = false; simpa using h
        rw [this]; rfl
    · rw [any_no hs]
      simp only [Bool.false_or]
      (repeat' (first | with_reducible refine brn_nd (fun h => ?_) (fun h => ?_) | with_reducible refine brn_d (fun h => ?_) (fun h => ?_) | with_reducible refine brn_nn (fun h => ?_) (fun h => ?_) | with_reducible refine brn_nb (fun h => ?_) (fun h => ?_) | with_reducible refine Brn.mk (fun h => ?_) (fun h => ?_) | with_reducible refine Chk.mk ?_ ?_ | with_reducible refine Bth.mk ?_ ?_ | with_reducible refine Fct.mk (fun hf => ?_)))
      refine upAll (fun r => !(bitOn (c.set r.gen) bit && decide (c.snaps.length < 120))) (by omega) (fun I2 μ2 z hz0 hz1 hm nx => ?_) (fun I2 μ2 hs2 => ?_)
      · (repeat' (first | with_reducible refine brn_nd (fun h => ?_) (fun h => ?_) | with_reducible refine brn_d (fun h => ?_) (fun h => ?_) | with_reducible refine brn_nn (fun h => ?_) (fun h => ?_) | with_reducible refine brn_nb (fun h => ?_) (fun h => ?_) | with_reducible refine Brn.mk (fun h => ?_) (fun h => ?_) | with_reducible refine Chk.mk ?_ ?_ | with_reducible refine Bth.mk ?_ ?_ | with_reducible refine Fct.mk (fun hf => ?_)))
        all_goals first | omega | (unfold InI; omega) | exact valid_gen hv hm | skip
        · rename_i hb
          refine bl ?_
          have : bitOn (c.set (gt c.reps z).gen) bit = true := by show (!decide (bits .and .i64 (gt c.sets (gt c.reps z).gen) bit = 0)) = true; simpa using hb
          rw [any_of (q := fun r : RepR => bitOn (c.set r.gen) bit) hm this, decide_eq_true (by omega)]; rfl
        · refine nx ?_
          rw [decide_eq_false (by omega)]; simp
        · refine nx ?_
          have : bitOn (c.set (gt c.reps z).gen) bit = false := by show (!decide (bits .and .i64 (gt c.sets (gt c.reps z).gen) bit = 0)) = false; simpa using h
          rw [this]; rfl
      · refine bl ?_
        by_cases h120 : c.snaps.length < 120
        · have : (c.reps.any fun r => bitOn (c.set r.gen) bit) = false := any_no (by simpa [h120] using hs2)
          rw [this]; rfl
        · rw [decide_eq_false h120]; simp)
end Go.Proofs.Ytpneplgaeiomkaa
