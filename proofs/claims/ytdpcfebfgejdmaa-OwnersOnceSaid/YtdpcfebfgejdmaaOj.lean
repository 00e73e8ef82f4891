/- Stewards: pick, Orphans, Owned, shown. -/
import Derived.Test.YtdpcfebfgejdmaaOi
set_option linter.all false
set_option maxRecDepth 20000
set_option maxHeartbeats 2000000
namespace Go.Proofs.Ytdpcfebfgejdmaa
open Go.RowKit Go.Shelf
theorem opick_ic (d : Dir) (l : List Stw) (t : Int) (q : Int → Bool → Bool) : ICt 68 [d.v, stws l, iv t, .one (.fn (pIB q))] (fun v => v = lv (pickS d l t q)) := (pick_V d l t q _).2 (by
  (delta pick_V; dsimp only [mkV])
  (repeat' (first | with_reducible refine brn_nd (fun h => ?_) (fun h => ?_) | with_reducible refine brn_d (fun h => ?_) (fun h => ?_) | with_reducible refine brn_nn (fun h => ?_) (fun h => ?_) | with_reducible refine brn_nb (fun h => ?_) (fun h => ?_) | with_reducible refine Brn.mk (fun h => ?_) (fun h => ?_) | with_reducible refine Chk.mk ?_ ?_ | with_reducible refine Bth.mk ?_ ?_ | with_reducible refine Fct.mk (fun hf => ?_)))
  · simp [pickS, h]
  refine up2 (fun o z => o = selN z.toNat (fun p => q (ownS d l p t).1 (ownS d l p t).2)) (by omega) rfl ?_ ?_
  · rintro I μ o z h0 h1 rfl nx
    obtain ⟨i, rfl, hi⟩ := natz h0 h1
    have hl := selN_len i (fun p => q (ownS d l p t).1 (ownS d l p t).2)
    have hs := selN_succ i (fun p => q (ownS d l p t).1 (ownS d l p t).2)
    have e : ((i : Int) + 1).toNat = i + 1 := by omega
    have hk := dirB_len (d := d) (l := l) (by assumption)
    (repeat' (first | with_reducible refine brn_nd (fun h => ?_) (fun h => ?_) | with_reducible refine brn_d (fun h => ?_) (fun h => ?_) | with_reducible refine brn_nn (fun h => ?_) (fun h => ?_) | with_reducible refine brn_nb (fun h => ?_) (fun h => ?_) | with_reducible refine Brn.mk (fun h => ?_) (fun h => ?_) | with_reducible refine Chk.mk ?_ ?_ | with_reducible refine Bth.mk ?_ ?_ | with_reducible refine Fct.mk (fun hf => ?_)))
    all_goals (first | omega | (simp only [Int.toNat_natCast, List.length_singleton]; omega) | refine nx _ ?_)
    all_goals (simp only [e, hs, Int.toNat_natCast]; simp [*])
  · rintro I μ o rfl
    simp [pickS, *])
theorem rOrphans_ic (d : Dir) (l : List Stw) (t : Int) : ICt 42 [d.v, stws l, iv t] (fun v => v = lv (pickS d l t fun _ ok => !ok)) := (rOrphans_V d l t _).2 (by
  (delta rOrphans_V; dsimp only [mkV])
  (repeat' (first | with_reducible refine brn_nd (fun h => ?_) (fun h => ?_) | with_reducible refine brn_d (fun h => ?_) (fun h => ?_) | with_reducible refine brn_nn (fun h => ?_) (fun h => ?_) | with_reducible refine brn_nb (fun h => ?_) (fun h => ?_) | with_reducible refine Brn.mk (fun h => ?_) (fun h => ?_) | with_reducible refine Chk.mk ?_ ?_ | with_reducible refine Bth.mk ?_ ?_ | with_reducible refine Fct.mk (fun hf => ?_)))
  · simp [pickS, h]
  refine up2 (fun o z => o = selN z.toNat (fun p => !(ownS d l p t).2)) (by omega) rfl ?_ ?_
  · rintro I μ o z h0 h1 rfl nx
    obtain ⟨i, rfl, hi⟩ := natz h0 h1
    have hl := selN_len i (fun p => !(ownS d l p t).2)
    have hs := selN_succ i (fun p => !(ownS d l p t).2)
    have e : ((i : Int) + 1).toNat = i + 1 := by omega
    have hk := dirB_len (d := d) (l := l) (by assumption)
    (repeat' (first | with_reducible refine brn_nd (fun h => ?_) (fun h => ?_) | with_reducible refine brn_d (fun h => ?_) (fun h => ?_) | with_reducible refine brn_nn (fun h => ?_) (fun h => ?_) | with_reducible refine brn_nb (fun h => ?_) (fun h => ?_) | with_reducible refine Brn.mk (fun h => ?_) (fun h => ?_) | with_reducible refine Chk.mk ?_ ?_ | with_reducible refine Bth.mk ?_ ?_ | with_reducible refine Fct.mk (fun hf => ?_)))
    all_goals (first | omega | (simp only [Int.toNat_natCast, List.length_singleton]; omega) | refine nx _ ?_)
    all_goals (simp only [e, hs, Int.toNat_natCast]; simp [*])
  · rintro I μ o rfl
    simp [pickS, *])
theorem own_ex {d : Dir} {l : List Stw} {p t : Int} (h : (ownS d l p t).2 = true) : d.ex (ownS d l p t).1 = true := by
  unfold ownS firstP at h ⊢
  split at h
  · rename_i q hq
    exact way_ex (List.mem_of_find?_eq_some hq)
  · cases h
theorem rOwned_ic (d : Dir) (l : List Stw) (p t : Int) : ICt 43 [d.v, stws l, iv p, iv t] (fun v => v = lv (pickS d l t fun o ok => ok && decide (o = p))) := (rOwned_V d l p t _).2 (by
  (delta rOwned_V; dsimp only [mkV])
  (repeat' (first | with_reducible refine brn_nd (fun h => ?_) (fun h => ?_) | with_reducible refine brn_d (fun h => ?_) (fun h => ?_) | with_reducible refine brn_nn (fun h => ?_) (fun h => ?_) | with_reducible refine brn_nb (fun h => ?_) (fun h => ?_) | with_reducible refine Brn.mk (fun h => ?_) (fun h => ?_) | with_reducible refine Chk.mk ?_ ?_ | with_reducible refine Bth.mk ?_ ?_ | with_reducible refine Fct.mk (fun hf => ?_)))
  · simp [pickS, h]
  · have : pickS d l t (fun o ok => ok && decide (o = p)) = [] := by
      unfold pickS
      split
      · rw [List.eq_nil_iff_forall_not_mem]
        intro x hx
        have := (mem_selN.1 hx).2.2
        simp at this
        have h2 := own_ex this.1
        rw [this.2, h] at h2; cases h2
      · rename_i hh; exact absurd (by assumption) hh
    rw [this]; rfl
  refine up2 (fun o z => o = selN z.toNat (fun x => (ownS d l x t).2 && decide ((ownS d l x t).1 = p))) (by omega) rfl ?_ ?_
  · rintro I μ o z h0 h1 rfl nx
    obtain ⟨i, rfl, hi⟩ := natz h0 h1
    have hl := selN_len i (fun x => (ownS d l x t).2 && decide ((ownS d l x t).1 = p))
    have hs := selN_succ i (fun x => (ownS d l x t).2 && decide ((ownS d l x t).1 = p))
    have e : ((i : Int) + 1).toNat = i + 1 := by omega
    have hk := dirB_len (d := d) (l := l) (by assumption)
    (repeat' (first | with_reducible refine brn_nd (fun h => ?_) (fun h => ?_) | with_reducible refine brn_d (fun h => ?_) (fun h => ?_) | with_reducible refine brn_nn (fun h => ?_) (fun h => ?_) | with_reducible refine brn_nb (fun h => ?_) (fun h => ?_) | with_reducible refine Brn.mk (fun h => ?_) (fun h => ?_) | with_reducible refine Chk.mk ?_ ?_ | with_reducible refine Bth.mk ?_ ?_ | with_reducible refine Fct.mk (fun hf => ?_)))
    all_goals (first | omega | (simp only [Int.toNat_natCast, List.length_singleton]; omega) | refine nx _ ?_)
    all_goals (simp only [e, hs, Int.toNat_natCast]; simp [*])
  · rintro I μ o rfl
    simp [pickS, *])
noncomputable def Orphans_V (d : Dir) (l : List Stw) (t : Int) (Q : SV → Prop) : Σ' P : Prop, (P → ICt 30 [.agg (List.map .d (Dir.row d)), .one (.d (.list (List.map Stw.row l))), .one (.d (.int .i64 t))] Q) := by
  apply mkV; intro hP
  refine ic_wk (K 11) Try.func30 rfl rfl rfl rfl (fun w0 => ?_)
  apply (v_kint (x := 2)); exact rfl; exact hP; clear hP; intro hP
  repeat' (first
    | ((fail_if_success (have hTest : Hld False := hP)); (have hq := chk_c hP); (replace hP := chk_p hP))
    | ((with_reducible apply j_lst); exact rfl)
    | (with_reducible (first | apply c_seq | apply c_rg | apply j_nil | apply q_n | apply c_bl | apply c_ex | apply c_ret | apply c_sk | apply q_r | apply q_e | apply b_r | apply b_e | apply b_n | apply n_n | apply n_r | apply n_e))
    | ((with_reducible apply c_l1); exact rfl; exact rfl)
    | ((with_reducible apply c_l2); exact rfl; exact rfl)
    | ((with_reducible apply c_l3); exact rfl)
    | ((with_reducible apply j_v); exact rfl; exact rfl)
    | ((with_reducible apply j_h); exact rfl; exact rfl)
    | ((with_reducible apply b_o); exact rfl)
    | ((with_reducible apply r_g); exact rfl; (· repeat' (first | exact True.intro | refine And.intro ?_ ?_ | (show (_ : Nat) = _; (first | exact rfl | exact (List.length_map _).symm | omega | (simp only [List.length_set, List.length_map, List.length_append] <;> omega) | (simp; done))))); (exact hP.out))
    | ((with_reducible apply j_call (pu := true)); exact rfl; apply (opick_ic _ _ _ _); rotate_left 4; (focus ((repeat' (first | (apply (PsS.cfn _ (orph1_fn)); (focus (repeat' (first | exact .nil _ | refine PsL.cons ?_ ?_ | refine PsSL.cons ?_ ?_ | exact .one (.d _ _) | exact .one (.nil _) | exact .one (.tape _) | exact .one (.fn _ _) | exact .agg (.same _ _) | refine .agg ?_ | exact .d _ _ | exact .one (.sl rfl rfl) | exact .sl rfl rfl | exact .same _ _)))) | exact .nil _ | refine PsL.cons ?_ ?_ | refine PsSL.cons ?_ ?_ | exact .one (.d _ _) | exact .one psc_nilm | exact psc_nilm | exact .one (.nil _) | exact .one (.tape _) | exact .one (.fn _ _) | exact .agg (.same _ _) | refine .agg ?_ | exact .d _ _ | exact .one (.sl rfl rfl) | exact .one (.sl rfl (List.length_map _).symm) | exact .sl rfl rfl | exact .sl rfl (List.length_map _).symm | exact .same _ _)) <;> fail)); exact .inl rfl)
    | ((with_reducible apply j_call (pu := true)); exact rfl; apply (opick_ic ⟨_, _⟩ _ _ _); rotate_left 5; dsimp only [Dir.v_mk]; (focus ((repeat' (first | (apply (PsS.cfn _ (orph1_fn)); (focus (repeat' (first | exact .nil _ | refine PsL.cons ?_ ?_ | refine PsSL.cons ?_ ?_ | exact .one (.d _ _) | exact .one (.nil _) | exact .one (.tape _) | exact .one (.fn _ _) | exact .agg (.same _ _) | refine .agg ?_ | exact .d _ _ | exact .one (.sl rfl rfl) | exact .sl rfl rfl | exact .same _ _)))) | exact .nil _ | refine PsL.cons ?_ ?_ | refine PsSL.cons ?_ ?_ | exact .one (.d _ _) | exact .one psc_nilm | exact psc_nilm | exact .one (.nil _) | exact .one (.tape _) | exact .one (.fn _ _) | exact .agg (.same _ _) | refine .agg ?_ | exact .d _ _ | exact .one (.sl rfl rfl) | exact .one (.sl rfl (List.length_map _).symm) | exact .sl rfl rfl | exact .sl rfl (List.length_map _).symm | exact .same _ _)) <;> fail)); exact .inl rfl)
    | ((with_reducible apply v_gs); exact rfl; exact rfl; (exact hP); all_goals (clear hP; intro hg hP))
    | ((with_reducible apply v_if); exact rfl; (exact hP); all_goals (clear hP; intro hc hP)))
noncomputable def Owned_V (d : Dir) (l : List Stw) (p : Int) (t : Int) (Q : SV → Prop) : Σ' P : Prop, (P → ICt 31 [.agg (List.map .d (Dir.row d)), .one (.d (.list (List.map Stw.row l))), .one (.d (.int .i64 p)), .one (.d (.int .i64 t))] Q) := by
  apply mkV; intro hP
  refine ic_wk (K 14) Try.func31 rfl rfl rfl rfl (fun w0 => ?_)
  apply (v_kint (x := 2)); exact rfl; exact hP; clear hP; intro hP
  apply (v_kint (x := 3)); exact rfl; exact hP; clear hP; intro hP
  repeat' (first
    | ((apply (v_fzr (o := ⟨some 12, .makeFunc _ _ _, _, _, _, _⟩) 6)); exact rfl; exact rfl; exact rfl; exact rfl)
    | ((fail_if_success (have hTest : Hld False := hP)); (have hq := chk_c hP); (replace hP := chk_p hP))
    | ((with_reducible apply j_lst); exact rfl)
    | (with_reducible (first | apply c_seq | apply c_rg | apply j_nil | apply q_n | apply c_bl | apply c_ex | apply c_ret | apply c_sk | apply q_r | apply q_e | apply b_r | apply b_e | apply b_n | apply n_n | apply n_r | apply n_e))
    | ((with_reducible apply c_l1); exact rfl; exact rfl)
    | ((with_reducible apply c_l2); exact rfl; exact rfl)
    | ((with_reducible apply c_l3); exact rfl)
    | ((with_reducible apply j_v); exact rfl; exact rfl)
    | ((with_reducible apply j_h); exact rfl; exact rfl)
    | ((with_reducible apply b_o); exact rfl)
    | ((with_reducible apply r_g); exact rfl; (· repeat' (first | exact True.intro | refine And.intro ?_ ?_ | (show (_ : Nat) = _; (first | exact rfl | exact (List.length_map _).symm | omega | (simp only [List.length_set, List.length_map, List.length_append] <;> omega) | (simp; done))))); (exact hP.out))
    | ((with_reducible apply j_call (pu := true)); exact rfl; apply (opick_ic _ _ _ _); rotate_left 4; (focus ((repeat' (first | (apply (PsS.cfn _ (owned1_fn _)); (focus (repeat' (first | exact .nil _ | refine PsL.cons ?_ ?_ | refine PsSL.cons ?_ ?_ | exact .one (.d _ _) | exact .one (.nil _) | exact .one (.tape _) | exact .one (.fn _ _) | exact .agg (.same _ _) | refine .agg ?_ | exact .d _ _ | exact .one (.sl rfl rfl) | exact .sl rfl rfl | refine .one (PsC.ref rfl ?_) | refine PsC.ref rfl ?_ | refine .one (PsC.rp ?_) | refine PsC.rp ?_ | refine .one (PsC.clo ?_) | refine PsC.clo ?_ | exact .same _ _)))) | exact .nil _ | refine PsL.cons ?_ ?_ | refine PsSL.cons ?_ ?_ | exact .one (.d _ _) | exact .one psc_nilm | exact psc_nilm | exact .one (.nil _) | exact .one (.tape _) | exact .one (.fn _ _) | exact .agg (.same _ _) | refine .agg ?_ | exact .d _ _ | exact .one (.sl rfl rfl) | exact .one (.sl rfl (List.length_map _).symm) | exact .sl rfl rfl | exact .sl rfl (List.length_map _).symm | refine .one (PsC.ref rfl ?_) | refine PsC.ref rfl ?_ | refine .one (PsC.rp ?_) | refine PsC.rp ?_ | refine .one (PsC.clo ?_) | refine PsC.clo ?_ | exact .same _ _)) <;> fail)); exact .inl rfl)
    | ((with_reducible apply j_call (pu := true)); exact rfl; apply (opick_ic ⟨_, _⟩ _ _ _); rotate_left 5; dsimp only [Dir.v_mk]; (focus ((repeat' (first | (apply (PsS.cfn _ (owned1_fn _)); (focus (repeat' (first | exact .nil _ | refine PsL.cons ?_ ?_ | refine PsSL.cons ?_ ?_ | exact .one (.d _ _) | exact .one (.nil _) | exact .one (.tape _) | exact .one (.fn _ _) | exact .agg (.same _ _) | refine .agg ?_ | exact .d _ _ | exact .one (.sl rfl rfl) | exact .sl rfl rfl | refine .one (PsC.ref rfl ?_) | refine PsC.ref rfl ?_ | refine .one (PsC.rp ?_) | refine PsC.rp ?_ | refine .one (PsC.clo ?_) | refine PsC.clo ?_ | exact .same _ _)))) | exact .nil _ | refine PsL.cons ?_ ?_ | refine PsSL.cons ?_ ?_ | exact .one (.d _ _) | exact .one psc_nilm | exact psc_nilm | exact .one (.nil _) | exact .one (.tape _) | exact .one (.fn _ _) | exact .agg (.same _ _) | refine .agg ?_ | exact .d _ _ | exact .one (.sl rfl rfl) | exact .one (.sl rfl (List.length_map _).symm) | exact .sl rfl rfl | exact .sl rfl (List.length_map _).symm | refine .one (PsC.ref rfl ?_) | refine PsC.ref rfl ?_ | refine .one (PsC.rp ?_) | refine PsC.rp ?_ | refine .one (PsC.clo ?_) | refine PsC.clo ?_ | exact .same _ _)) <;> fail)); exact .inl rfl)
    | ((with_reducible apply v_gs); exact rfl; exact rfl; (exact hP); all_goals (clear hP; intro hg hP))
    | ((with_reducible apply v_if); exact rfl; (exact hP); all_goals (clear hP; intro hc hP)))
theorem Orphans_ic (d : Dir) (l : List Stw) (t : Int) : ICt 30 [d.v, stws l, iv t] (fun v => v = lv (pickS d l t fun _ ok => !ok)) := (Orphans_V d l t _).2 (by
  (delta Orphans_V; dsimp only [mkV])
  (repeat' (first | with_reducible refine brn_nd (fun h => ?_) (fun h => ?_) | with_reducible refine brn_d (fun h => ?_) (fun h => ?_) | with_reducible refine brn_nn (fun h => ?_) (fun h => ?_) | with_reducible refine brn_nb (fun h => ?_) (fun h => ?_) | with_reducible refine Brn.mk (fun h => ?_) (fun h => ?_) | with_reducible refine Chk.mk ?_ ?_ | with_reducible refine Bth.mk ?_ ?_ | with_reducible refine Fct.mk (fun hf => ?_)))
  rfl)
theorem Owned_ic (d : Dir) (l : List Stw) (p t : Int) : ICt 31 [d.v, stws l, iv p, iv t] (fun v => v = lv (pickS d l t fun o ok => ok && decide (o = p))) := (Owned_V d l p t _).2 (by
  (delta Owned_V; dsimp only [mkV])
  (repeat' (first | with_reducible refine brn_nd (fun h => ?_) (fun h => ?_) | with_reducible refine brn_d (fun h => ?_) (fun h => ?_) | with_reducible refine brn_nn (fun h => ?_) (fun h => ?_) | with_reducible refine brn_nb (fun h => ?_) (fun h => ?_) | with_reducible refine Brn.mk (fun h => ?_) (fun h => ?_) | with_reducible refine Chk.mk ?_ ?_ | with_reducible refine Bth.mk ?_ ?_ | with_reducible refine Fct.mk (fun hf => ?_)))
  rfl)
end Go.Proofs.Ytdpcfebfgejdmaa
