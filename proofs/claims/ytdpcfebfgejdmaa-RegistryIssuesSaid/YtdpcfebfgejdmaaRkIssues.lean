/- RegistryIssues: what is to be shown. -/
import Derived.Test.YtdpcfebfgejdmaaRh
set_option linter.all false
set_option maxRecDepth 20000
set_option maxHeartbeats 8000000
namespace Go.Proofs.Ytdpcfebfgejdmaa
open Go.RowKit Go.Shelf
noncomputable def lawIssues_V (l : List Int) : Σ' P : Prop, (P → ILt 7 [lv l]) := by
  apply mkV; intro hP
  refine il_wk (K 96) Try.func7 rfl rfl rfl rfl (fun w0 hw0 => ?_)
  repeat' (first
    | ((fail_if_success (have hTest : Hld False := hP)); (have hq := chk_c hP); (replace hP := chk_p hP))
    | ((with_reducible apply j_lst); exact rfl)
    | (with_reducible (first | apply c_seq | apply c_rg | apply j_nil | apply q_n | apply g_tt | apply g_ff | apply c_ct | apply c_cf | apply c_bl | apply c_ex | apply c_ret | apply c_sk | apply q_r | apply q_e | apply b_r | apply b_e | apply b_n | apply n_n | apply n_r | apply n_e))
    | ((with_reducible apply v_lenstr); exact rfl; exact rfl; kernel_rfl)
    | ((with_reducible apply c_l1); exact rfl; exact rfl)
    | ((with_reducible apply c_l2); exact rfl; exact rfl)
    | ((with_reducible apply c_l3); exact rfl)
    | ((with_reducible apply j_tpa); exact hw0; exact rfl; exact rfl; exact rfl; exact rfl; exact rfl; exact rfl)
    | ((with_reducible apply j_v); exact rfl; exact rfl)
    | ((with_reducible apply j_h); exact rfl; exact rfl)
    | ((with_reducible apply j_s); exact rfl)
    | ((with_reducible apply j_g); exact rfl; exact rfl; (first | with_reducible assumption | with_reducible exact Eq.refl true | with_reducible exact Eq.refl false | (with_reducible refine not_t ?_; with_reducible assumption) | (with_reducible refine not_f ?_; with_reducible assumption) | (refine dec_t ?_; decide) | (refine dec_f ?_; decide)))
    | ((with_reducible apply g_tf); exact rfl)
    | ((with_reducible apply g_ft); exact rfl)
    | ((with_reducible apply j_gz); exact rfl; exact rfl; exact rfl)
    | ((with_reducible apply v_lenm); exact rfl; exact rfl; exact rfl; (exact hP); clear hP; intro hP)
    | ((with_reducible apply v_lens); exact rfl; exact rfl; exact rfl; (exact hP); clear hP; intro hP)
    | ((with_reducible apply j_len); exact rfl; exact rfl; exact rfl)
    | ((with_reducible apply j_len0); exact rfl; exact rfl; exact rfl)
    | ((with_reducible apply j_pk); exact rfl; exact rfl; (first | with_reducible assumption | with_reducible exact Eq.refl true | with_reducible exact Eq.refl false | (with_reducible refine not_t ?_; with_reducible assumption) | (with_reducible refine not_f ?_; with_reducible assumption) | (refine dec_t ?_; decide) | (refine dec_f ?_; decide)); exact rfl)
    | ((with_reducible apply j_bne); exact rfl; exact rfl; exact rfl; kernel_rfl)
    | ((with_reducible apply j_add); exact rfl; exact rfl; exact rfl; (first | (with_reducible apply wr_i64; (first | with_reducible assumption | (apply chk_c; exact hP; (first | (guard_target = Prop; rotate_left 1) | skip)))) | exact rfl))
    | ((with_reducible apply c_c); exact rfl; (first | with_reducible assumption | with_reducible exact Eq.refl true | with_reducible exact Eq.refl false | (with_reducible refine not_t ?_; with_reducible assumption) | (with_reducible refine not_f ?_; with_reducible assumption) | (refine dec_t ?_; decide) | (refine dec_f ?_; decide)))
    | ((with_reducible apply b_o); exact rfl)
    | ((with_reducible apply r_g); exact rfl; (· repeat' (first | exact True.intro | refine And.intro ?_ ?_ | (show (_ : Nat) = _; (first | exact rfl | exact (List.length_map _).symm | omega | (simp only [List.length_set, List.length_map, List.length_append] <;> omega) | (simp; done))))); (exact hP.out))
    | ((with_reducible apply j_call (pu := false)); exact rfl; exact awake24_ic; (focus ((repeat' (first | exact .nil _ | refine .cons ?_ ?_ | exact .one (.d _ _) | exact .one psc_nilm | exact psc_nilm | exact .one (.nil _) | exact .one (.tape _) | exact .one (.fn _ _) | exact .agg (.same _ _) | refine .agg ?_ | exact .d _ _ | exact .one (.sl rfl rfl) | exact .one (.sl rfl (List.length_map _).symm) | exact .sl rfl rfl | exact .sl rfl (List.length_map _).symm | exact .same _ _)) <;> fail)); exact .inr rfl)
    | ((with_reducible apply v_nd (pu := false)); exact rfl; exact Registry_nd; (focus ((repeat' (first | exact .nil _ | refine .cons ?_ ?_ | exact .one (.d _ _) | exact .one psc_nilm | exact psc_nilm | exact .one (.nil _) | exact .one (.tape _) | exact .one (.fn _ _) | exact .agg (.same _ _) | refine .agg ?_ | exact .d _ _ | exact .one (.sl rfl rfl) | exact .one (.sl rfl (List.length_map _).symm) | exact .sl rfl rfl | exact .sl rfl (List.length_map _).symm | exact .same _ _)) <;> fail)); exact .inr (fun _ => rfl); (exact hP); clear hP; intro x hx hP)
    | ((with_reducible apply v_nd (pu := true)); exact rfl; exact Registry_nd; (focus ((repeat' (first | exact .nil _ | refine .cons ?_ ?_ | exact .one (.d _ _) | exact .one psc_nilm | exact psc_nilm | exact .one (.nil _) | exact .one (.tape _) | exact .one (.fn _ _) | exact .agg (.same _ _) | refine .agg ?_ | exact .d _ _ | exact .one (.sl rfl rfl) | exact .one (.sl rfl (List.length_map _).symm) | exact .sl rfl rfl | exact .sl rfl (List.length_map _).symm | exact .same _ _)) <;> fail)); exact .inl rfl; (exact hP); clear hP; intro x hx hP)
    | ((with_reducible apply j_call (pu := false)); exact rfl; apply (Valid_ic _ _ _); rotate_left 3; (focus ((repeat' (first | exact .nil _ | refine .cons ?_ ?_ | exact .one (.d _ _) | exact .one psc_nilm | exact psc_nilm | exact .one (.nil _) | exact .one (.tape _) | exact .one (.fn _ _) | exact .agg (.same _ _) | refine .agg ?_ | exact .d _ _ | exact .one (.sl rfl rfl) | exact .one (.sl rfl (List.length_map _).symm) | exact .sl rfl rfl | exact .sl rfl (List.length_map _).symm | exact .same _ _)) <;> fail)); exact .inr rfl)
    | ((with_reducible apply j_call (pu := false)); exact rfl; apply (Valid_ic ⟨_, _⟩ _ _); rotate_left 4; dsimp only [Reg.v_mk]; (focus ((repeat' (first | exact .nil _ | refine .cons ?_ ?_ | exact .one (.d _ _) | exact .one psc_nilm | exact psc_nilm | exact .one (.nil _) | exact .one (.tape _) | exact .one (.fn _ _) | exact .agg (.same _ _) | refine .agg ?_ | exact .d _ _ | exact .one (.sl rfl rfl) | exact .one (.sl rfl (List.length_map _).symm) | exact .sl rfl rfl | exact .sl rfl (List.length_map _).symm | exact .same _ _)) <;> fail)); exact .inr rfl)
    | ((with_reducible apply j_call (pu := true)); exact rfl; apply (Find_ic _ _); rotate_left 2; (focus ((repeat' (first | exact .nil _ | refine .cons ?_ ?_ | exact .one (.d _ _) | exact .one psc_nilm | exact psc_nilm | exact .one (.nil _) | exact .one (.tape _) | exact .one (.fn _ _) | exact .agg (.same _ _) | refine .agg ?_ | exact .d _ _ | exact .one (.sl rfl rfl) | exact .one (.sl rfl (List.length_map _).symm) | exact .sl rfl rfl | exact .sl rfl (List.length_map _).symm | exact .same _ _)) <;> fail)); exact .inl rfl)
    | ((with_reducible apply j_call (pu := true)); exact rfl; apply (Find_ic ⟨_, _⟩ _); rotate_left 3; dsimp only [Reg.v_mk]; (focus ((repeat' (first | exact .nil _ | refine .cons ?_ ?_ | exact .one (.d _ _) | exact .one psc_nilm | exact psc_nilm | exact .one (.nil _) | exact .one (.tape _) | exact .one (.fn _ _) | exact .agg (.same _ _) | refine .agg ?_ | exact .d _ _ | exact .one (.sl rfl rfl) | exact .one (.sl rfl (List.length_map _).symm) | exact .sl rfl rfl | exact .sl rfl (List.length_map _).symm | exact .same _ _)) <;> fail)); exact .inl rfl)
    | ((with_reducible apply j_call (pu := false)); exact rfl; apply (Has_ic _ _); rotate_left 2; (focus ((repeat' (first | exact .nil _ | refine .cons ?_ ?_ | exact .one (.d _ _) | exact .one psc_nilm | exact psc_nilm | exact .one (.nil _) | exact .one (.tape _) | exact .one (.fn _ _) | exact .agg (.same _ _) | refine .agg ?_ | exact .d _ _ | exact .one (.sl rfl rfl) | exact .one (.sl rfl (List.length_map _).symm) | exact .sl rfl rfl | exact .sl rfl (List.length_map _).symm | exact .same _ _)) <;> fail)); exact .inr rfl)
    | ((with_reducible apply j_call (pu := true)); exact rfl; apply (Issue_ic _ _); rotate_left 2; (focus ((repeat' (first | exact .nil _ | refine .cons ?_ ?_ | exact .one (.d _ _) | exact .one psc_nilm | exact psc_nilm | exact .one (.nil _) | exact .one (.tape _) | exact .one (.fn _ _) | exact .agg (.same _ _) | refine .agg ?_ | exact .d _ _ | exact .one (.sl rfl rfl) | exact .one (.sl rfl (List.length_map _).symm) | exact .sl rfl rfl | exact .sl rfl (List.length_map _).symm | exact .same _ _)) <;> fail)); exact .inl rfl)
    | ((with_reducible apply j_call (pu := true)); exact rfl; apply (Issue_ic ⟨_, _⟩ ⟨_, _, _, _, _⟩); rotate_left 7; dsimp only [Crd.v_mk, Reg.v_mk]; (focus ((repeat' (first | exact .nil _ | refine .cons ?_ ?_ | exact .one (.d _ _) | exact .one psc_nilm | exact psc_nilm | exact .one (.nil _) | exact .one (.tape _) | exact .one (.fn _ _) | exact .agg (.same _ _) | refine .agg ?_ | exact .d _ _ | exact .one (.sl rfl rfl) | exact .one (.sl rfl (List.length_map _).symm) | exact .sl rfl rfl | exact .sl rfl (List.length_map _).symm | exact .same _ _)) <;> fail)); exact .inl rfl)
    | ((with_reducible apply v_ndp (pu := false)); exact rfl; exact ⟨rfl, rfl⟩; apply (Credential_nd _); rotate_left 1; (focus ((repeat' (first | exact .nil _ | refine .cons ?_ ?_ | exact .one (.d _ _) | exact .one psc_nilm | exact psc_nilm | exact .one (.nil _) | exact .one (.tape _) | exact .one (.fn _ _) | exact .agg (.same _ _) | refine .agg ?_ | exact .d _ _ | exact .one (.sl rfl rfl) | exact .one (.sl rfl (List.length_map _).symm) | exact .sl rfl rfl | exact .sl rfl (List.length_map _).symm | exact .same _ _)) <;> fail)); exact .inr (fun _ => rfl); (exact hP); clear hP; intro x hx hP)
    | ((with_reducible apply v_ndp (pu := true)); exact rfl; exact ⟨rfl, rfl⟩; apply (Credential_nd _); rotate_left 1; (focus ((repeat' (first | exact .nil _ | refine .cons ?_ ?_ | exact .one (.d _ _) | exact .one psc_nilm | exact psc_nilm | exact .one (.nil _) | exact .one (.tape _) | exact .one (.fn _ _) | exact .agg (.same _ _) | refine .agg ?_ | exact .d _ _ | exact .one (.sl rfl rfl) | exact .one (.sl rfl (List.length_map _).symm) | exact .sl rfl rfl | exact .sl rfl (List.length_map _).symm | exact .same _ _)) <;> fail)); exact .inl rfl; (exact hP); clear hP; intro x hx hP)
    | ((with_reducible apply v_ndp (pu := false)); exact rfl; exact ⟨rfl, rfl⟩; apply (Credential_nd ⟨_, _⟩); rotate_left 2; dsimp only [Reg.v_mk]; (focus ((repeat' (first | exact .nil _ | refine .cons ?_ ?_ | exact .one (.d _ _) | exact .one psc_nilm | exact psc_nilm | exact .one (.nil _) | exact .one (.tape _) | exact .one (.fn _ _) | exact .agg (.same _ _) | refine .agg ?_ | exact .d _ _ | exact .one (.sl rfl rfl) | exact .one (.sl rfl (List.length_map _).symm) | exact .sl rfl rfl | exact .sl rfl (List.length_map _).symm | exact .same _ _)) <;> fail)); exact .inr (fun _ => rfl); (exact hP); clear hP; intro x hx hP)
    | ((with_reducible apply v_ndp (pu := true)); exact rfl; exact ⟨rfl, rfl⟩; apply (Credential_nd ⟨_, _⟩); rotate_left 2; dsimp only [Reg.v_mk]; (focus ((repeat' (first | exact .nil _ | refine .cons ?_ ?_ | exact .one (.d _ _) | exact .one psc_nilm | exact psc_nilm | exact .one (.nil _) | exact .one (.tape _) | exact .one (.fn _ _) | exact .agg (.same _ _) | refine .agg ?_ | exact .d _ _ | exact .one (.sl rfl rfl) | exact .one (.sl rfl (List.length_map _).symm) | exact .sl rfl rfl | exact .sl rfl (List.length_map _).symm | exact .same _ _)) <;> fail)); exact .inl rfl; (exact hP); clear hP; intro x hx hP)
    | ((with_reducible apply j_call (pu := false)); exact rfl; apply (Check_ic _); rotate_left 1; (focus ((repeat' (first | exact .nil _ | refine .cons ?_ ?_ | exact .one (.d _ _) | exact .one psc_nilm | exact psc_nilm | exact .one (.nil _) | exact .one (.tape _) | exact .one (.fn _ _) | exact .agg (.same _ _) | refine .agg ?_ | exact .d _ _ | exact .one (.sl rfl rfl) | exact .one (.sl rfl (List.length_map _).symm) | exact .sl rfl rfl | exact .sl rfl (List.length_map _).symm | exact .same _ _)) <;> fail)); exact .inr rfl)
    | ((with_reducible apply j_call (pu := false)); exact rfl; apply (Check_ic ⟨_, _⟩); rotate_left 2; dsimp only [Reg.v_mk]; (focus ((repeat' (first | exact .nil _ | refine .cons ?_ ?_ | exact .one (.d _ _) | exact .one psc_nilm | exact psc_nilm | exact .one (.nil _) | exact .one (.tape _) | exact .one (.fn _ _) | exact .agg (.same _ _) | refine .agg ?_ | exact .d _ _ | exact .one (.sl rfl rfl) | exact .one (.sl rfl (List.length_map _).symm) | exact .sl rfl rfl | exact .sl rfl (List.length_map _).symm | exact .same _ _)) <;> fail)); exact .inr rfl)
    | ((with_reducible apply j_call (pu := false)); exact rfl; apply (Room_ic _ _ _ _); rotate_left 4; (focus ((repeat' (first | exact .nil _ | refine .cons ?_ ?_ | exact .one (.d _ _) | exact .one psc_nilm | exact psc_nilm | exact .one (.nil _) | exact .one (.tape _) | exact .one (.fn _ _) | exact .agg (.same _ _) | refine .agg ?_ | exact .d _ _ | exact .one (.sl rfl rfl) | exact .one (.sl rfl (List.length_map _).symm) | exact .sl rfl rfl | exact .sl rfl (List.length_map _).symm | exact .same _ _)) <;> fail)); exact .inr rfl)
    | ((with_reducible apply j_call (pu := false)); exact rfl; apply (Room_ic ⟨_, _⟩ _ _ _); rotate_left 5; dsimp only [Reg.v_mk]; (focus ((repeat' (first | exact .nil _ | refine .cons ?_ ?_ | exact .one (.d _ _) | exact .one psc_nilm | exact psc_nilm | exact .one (.nil _) | exact .one (.tape _) | exact .one (.fn _ _) | exact .agg (.same _ _) | refine .agg ?_ | exact .d _ _ | exact .one (.sl rfl rfl) | exact .one (.sl rfl (List.length_map _).symm) | exact .sl rfl rfl | exact .sl rfl (List.length_map _).symm | exact .same _ _)) <;> fail)); exact .inr rfl)
    | ((with_reducible refine v_loopat (c := (.seq (.seq (.region 8 _ _) _) _)) ?_); (apply (v_loop2 _ _ [4, 5] [4, 5] (fun x1 x2 => [(6, .one (.d (.bool x1))), (7, .one (.d (.int .i64 x2)))]) (fun x1 x2 => []) [])); exact rfl; exact rfl; exact ⟨(by repeat' (first | exact .nil | exact .nil _ | refine .cons ?_ ?_ | exact .u _ | exact SVle_pl rfl | refine .one ?_ | refine .agg ?_ | exact .d rfl | exact .ref rfl rfl | exact .sl rfl (by first | rfl | omega | (rw [List.length_append, List.length_map]; show _ + 1 = _; omega) | simp) | exact .fn _ | exact .tape | exact .nils rfl | exact .nild | exact .nildm | exact .nil | exact .rp (by simp) | exact .clo (by simp) | exact .el rfl rfl rfl | exact .d (by first | rfl | (congr 1; omega) | (congr 1; assumption) | simp) | exact .virt rfl | exact .gone _ | refine .blk rfl ?_ | exact .arr rfl (by first | rfl | assumption | simp))), (by repeat' (first | exact .nil | exact .nil _ | refine .cons ?_ ?_ | exact .u _ | exact SVle_pl rfl | refine .one ?_ | refine .agg ?_ | exact .d rfl | exact .ref rfl rfl | exact .sl rfl (by first | rfl | omega | (rw [List.length_append, List.length_map]; show _ + 1 = _; omega) | simp) | exact .fn _ | exact .tape | exact .nils rfl | exact .nild | exact .nildm | exact .nil | exact .rp (by simp) | exact .clo (by simp) | exact .el rfl rfl rfl | exact .d (by first | rfl | (congr 1; omega) | (congr 1; assumption) | simp) | exact .virt rfl | exact .gone _ | refine .blk rfl ?_ | exact .arr rfl (by first | rfl | assumption | simp)))⟩; (exact hP); clear hP; intro I μ x1 x2 hP)
    | ((with_reducible apply (v_nxt2 (a1 := _) (a2 := _))); (repeat' (first | exact .nil | exact .nil _ | refine .cons ?_ ?_ | exact .u _ | exact SVle_pl rfl | refine .one ?_ | refine .agg ?_ | exact .d rfl | exact .ref rfl rfl | exact .sl rfl (by first | rfl | exact (splT_len (by simp only [List.length_take, List.length_drop]; omega)).symm | omega | (rw [List.length_append, List.length_map]; show _ + 1 = _; omega) | simp) | exact .fn _ | exact .tape | exact .nils rfl | exact .nild | exact .nildm | exact .nil | exact .rp (by simp) | exact .clo (by simp) | exact .el rfl rfl rfl | exact .d (by first | rfl | (congr 1; omega) | (congr 1; assumption) | simp) | exact .virt rfl | exact .gone _ | refine .blk rfl ?_ | exact .arr rfl (by first | rfl | assumption | simp))); (repeat' (first | exact .nil | exact .nil _ | refine .cons ?_ ?_ | exact .u _ | exact SVle_pl rfl | refine .one ?_ | refine .agg ?_ | exact .d rfl | exact .ref rfl rfl | exact .sl rfl (by first | rfl | exact (splT_len (by simp only [List.length_take, List.length_drop]; omega)).symm | omega | (rw [List.length_append, List.length_map]; show _ + 1 = _; omega) | simp) | exact .fn _ | exact .tape | exact .nils rfl | exact .nild | exact .nildm | exact .nil | exact .rp (by simp) | exact .clo (by simp) | exact .el rfl rfl rfl | exact .d (by first | rfl | (congr 1; omega) | (congr 1; assumption) | simp) | exact .virt rfl | exact .gone _ | refine .blk rfl ?_ | exact .arr rfl (by first | rfl | assumption | simp))); (exact hP))
    | ((with_reducible apply v_gs); exact rfl; exact rfl; (exact hP); all_goals (clear hP; intro hg hP))
    | ((with_reducible apply v_if); exact rfl; (exact hP); all_goals (clear hP; intro hc hP)))
theorem Issues_il (l : List Int) : ILt 7 [lv l] := (lawIssues_V l).2 (by
  (delta lawIssues_V; dsimp only [mkV])
  (repeat' (first | with_reducible refine brn_nd (fun h => ?_) (fun h => ?_) | with_reducible refine brn_d (fun h => ?_) (fun h => ?_) | with_reducible refine brn_nn (fun h => ?_) (fun h => ?_) | with_reducible refine brn_nb (fun h => ?_) (fun h => ?_) | with_reducible refine Brn.mk (fun h => ?_) (fun h => ?_) | with_reducible refine Chk.mk ?_ ?_ | with_reducible refine Bth.mk ?_ ?_ | with_reducible refine Fct.mk (fun hf => ?_)))
  · rfl
  intro x hx
  have hl := okR_len hx.o
  have hc7 := hx.c
  (repeat' (first | with_reducible refine brn_nd (fun h => ?_) (fun h => ?_) | with_reducible refine brn_d (fun h => ?_) (fun h => ?_) | with_reducible refine brn_nn (fun h => ?_) (fun h => ?_) | with_reducible refine brn_nb (fun h => ?_) (fun h => ?_) | with_reducible refine Brn.mk (fun h => ?_) (fun h => ?_) | with_reducible refine Chk.mk ?_ ?_ | with_reducible refine Bth.mk ?_ ?_ | with_reducible refine Fct.mk (fun hf => ?_)))
  · have := hx.i; omega
  intro c hc
  have hi := hc.i
  have hright : rightC x c = true := by
    have h1 := hc.h; have h2 := hc.b; have h3 := hc.e
    unfold rightC
    rw [(inB_iff _ _ _).2 (by omega), (inB_iff _ _ _).2 (by omega), decide_eq_true (by omega), decide_eq_true (by omega), decide_eq_true (by omega)]
    rfl
  have hiss : issR x c.iss = true := issR_iff.2 ⟨hx.o, hi⟩
  have hroomS : ∀ t, roomS x c.iss c.hold t = (gt x.isss c.iss).slots - (heldL x c.iss c.hold t).length := fun t => by simp [roomS, hiss]
  have hiff := issue_room hx.o (by omega) hright
  refine ⟨fun b z => c.frm ≤ z ∧ z ≤ c.til ∧ (b = true ↔ ∀ t, c.frm ≤ t → t < z → 0 < roomS x c.iss c.hold t), fun _ z => (c.til - z).toNat, ⟨by omega, by have := hc.e; omega, by simp; intro t h1 h2; omega⟩, fun b z ⟨z0, z1, hb⟩ => ?_⟩
  have hbb := hc.b
  have hee := hc.e
  by_cases hlt : z < c.til
  · have step : (b && decide (0 < roomS x c.iss c.hold z)) = true ↔ ∀ t, c.frm ≤ t → t < z + 1 → 0 < roomS x c.iss c.hold t := by
      rw [Bool.and_eq_true, hb, decide_eq_true_eq]
      constructor
      · rintro ⟨h1, h2⟩ t t0 t1
        by_cases e : t = z
        · subst e; exact h2
        · exact h1 t t0 (by omega)
      · intro h; exact ⟨fun t t0 t1 => h t t0 (by omega), h z z0 (by omega)⟩
    cases b with
    | true =>
      (repeat' (first | with_reducible refine brn_nd (fun h => ?_) (fun h => ?_) | with_reducible refine brn_d (fun h => ?_) (fun h => ?_) | with_reducible refine brn_nn (fun h => ?_) (fun h => ?_) | with_reducible refine brn_nb (fun h => ?_) (fun h => ?_) | with_reducible refine Brn.mk (fun h => ?_) (fun h => ?_) | with_reducible refine Chk.mk ?_ ?_ | with_reducible refine Bth.mk ?_ ?_ | with_reducible refine Fct.mk (fun hf => ?_)))
      all_goals first
        | (exfalso; simp_all; done)
        | (unfold InI; omega)
        | exact ⟨⟨by omega, by omega, by simpa using step⟩, by dsimp only; omega⟩
        | (exfalso; omega)
    | false =>
      (repeat' (first | with_reducible refine brn_nd (fun h => ?_) (fun h => ?_) | with_reducible refine brn_d (fun h => ?_) (fun h => ?_) | with_reducible refine brn_nn (fun h => ?_) (fun h => ?_) | with_reducible refine brn_nb (fun h => ?_) (fun h => ?_) | with_reducible refine Brn.mk (fun h => ?_) (fun h => ?_) | with_reducible refine Chk.mk ?_ ?_ | with_reducible refine Bth.mk ?_ ?_ | with_reducible refine Fct.mk (fun hf => ?_)))
      all_goals first
        | (exfalso; simp_all; done)
        | (unfold InI; omega)
        | exact ⟨⟨by omega, by omega, by simpa using step⟩, by dsimp only; omega⟩
        | (exfalso; omega)
  · have hz : z = c.til := by omega
    subst hz
    have hbo : b = true ↔ okR ⟨x.isss, x.crds ++ [c]⟩ = true := by
      rw [hb, hiff]
      constructor
      · intro h t t0 t1; have := h t t0 t1; rw [hroomS] at this; omega
      · intro h t t0 t1; have := h t t0 t1; rw [hroomS]; omega
    by_cases hO : okR ⟨x.isss, x.crds ++ [c]⟩ = true
    · have hbt : b = true := hbo.2 hO
      subst hbt
      have e : issueS x c = ((⟨x.isss, x.crds ++ [c]⟩ : Reg), (x.crds.length : Int), (0 : Int)) := by unfold issueS; rw [if_pos hx.o, if_neg (by omega), if_pos hO]
      have hhas : hasR ⟨x.isss, x.crds ++ [c]⟩ (x.crds.length : Int) = true := hasR_iff.2 ⟨hO, by omega, by simp; omega⟩
      have hg : gt (x.crds ++ [c]) (x.crds.length : Int) = c := gt_app_r
      have v1 : validS ⟨x.isss, x.crds ++ [c]⟩ (x.crds.length : Int) c.frm = true := by
        unfold validS; rw [hhas]; dsimp only; rw [hg, validC_iff.2 ⟨by omega, by omega⟩]; rfl
      have v2 : validS ⟨x.isss, x.crds ++ [c]⟩ (x.crds.length : Int) c.til = false := by
        unfold validS; rw [hhas]; dsimp only; rw [hg]
        cases hv : validC c c.til with
        | false => rfl
        | true => have := (validC_iff.1 hv).2; omega
      have f1 : hasB (findS ⟨x.isss, x.crds ++ [c]⟩ c.fp) (x.crds.length : Int) = true := by
        unfold hasB findS
        rw [if_pos hO, List.any_eq_true]
        refine ⟨(x.crds.length : Int), mem_selN.2 ⟨by omega, by simp; omega, ?_⟩, by simp⟩
        dsimp only; rw [hg]; simp
      have c1 : chkR ⟨x.isss, x.crds ++ [c]⟩ = 0 := (chk_iff _).2 hO
      simp only [e, v1, v2, f1, c1]
      (repeat' (first | with_reducible refine brn_nd (fun h => ?_) (fun h => ?_) | with_reducible refine brn_d (fun h => ?_) (fun h => ?_) | with_reducible refine brn_nn (fun h => ?_) (fun h => ?_) | with_reducible refine brn_nb (fun h => ?_) (fun h => ?_) | with_reducible refine Brn.mk (fun h => ?_) (fun h => ?_) | with_reducible refine Chk.mk ?_ ?_ | with_reducible refine Bth.mk ?_ ?_ | with_reducible refine Fct.mk (fun hf => ?_)))
      all_goals first | rfl | trivial | (exfalso; omega) | (exfalso; simp_all; done)
    · have hbf : b = false := by
        cases b with
        | false => rfl
        | true => exact absurd (hbo.1 rfl) hO
      subst hbf
      have e : issueS x c = (Reg.none_, 0, 31) := by unfold issueS; rw [if_pos hx.o, if_neg (by omega), if_neg hO]
      simp only [e]
      (repeat' (first | with_reducible refine brn_nd (fun h => ?_) (fun h => ?_) | with_reducible refine brn_d (fun h => ?_) (fun h => ?_) | with_reducible refine brn_nn (fun h => ?_) (fun h => ?_) | with_reducible refine brn_nb (fun h => ?_) (fun h => ?_) | with_reducible refine Brn.mk (fun h => ?_) (fun h => ?_) | with_reducible refine Chk.mk ?_ ?_ | with_reducible refine Bth.mk ?_ ?_ | with_reducible refine Fct.mk (fun hf => ?_)))
      all_goals first | rfl | trivial | (exfalso; omega) | (exfalso; simp_all; done))
end Go.Proofs.Ytdpcfebfgejdmaa
