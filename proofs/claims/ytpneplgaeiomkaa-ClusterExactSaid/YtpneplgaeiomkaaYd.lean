/- Run, and functions as arguments that are only asked where they answer. -/
import Derived.Test.YtpneplgaeiomkaaYc
set_option linter.all false
set_option maxRecDepth 20000
set_option maxHeartbeats 2000000
namespace Go.Proofs.Ytpneplgaeiomkaa
open Go.RowKit Go.Shelf
noncomputable def cRun_V (c : Cl) (l : List XvR) (Q : SV → Prop) : Σ' P : Prop, (P → ICt 32 [.agg (List.map .d (Cl.row c)), .one (.d (.list (List.map XvR.row l)))] Q) := by
  apply mkV; intro hP
  refine ic_wk (K 47) Try.func32 rfl rfl rfl rfl (fun w0 => ?_)
  repeat' (first
    | ((fail_if_success (have hTest : Hld False := hP)); (have hq := chk_c hP); (replace hP := chk_p hP))
    | ((with_reducible apply j_lst); exact rfl)
    | (with_reducible (first | apply c_seq | apply c_rg | apply j_nil | apply q_n | apply c_ct | apply c_cf | apply c_bl | apply c_ex | apply c_ret | apply c_sk | apply q_r | apply q_e | apply b_r | apply b_e | apply b_n | apply n_n | apply n_r | apply n_e))
    | ((with_reducible apply c_l1); exact rfl; exact rfl)
    | ((with_reducible apply c_l2); exact rfl; exact rfl)
    | ((with_reducible apply c_l3); exact rfl)
    | ((with_reducible apply j_v); exact rfl; exact rfl)
    | ((with_reducible apply j_h); exact rfl; exact rfl)
    | ((with_reducible apply j_s); exact rfl)
    | ((with_reducible apply v_lenm); exact rfl; exact rfl; exact rfl; (exact hP); clear hP; intro hP)
    | ((with_reducible apply v_lens); exact rfl; exact rfl; exact rfl; (exact hP); clear hP; intro hP)
    | ((with_reducible apply j_len); exact rfl; exact rfl; exact rfl)
    | ((with_reducible apply j_len0); exact rfl; exact rfl; exact rfl)
    | ((with_reducible apply j_ld_el1); exact rfl; exact rfl; exact rfl; exact rfl; (first | with_reducible assumption | exact gt_row (by omega) (by omega) | exact rfl); exact rfl)
    | ((with_reducible apply j_add); exact rfl; exact rfl; exact rfl; (first | (with_reducible apply wr_i64; (first | with_reducible assumption | (apply chk_c; exact hP; (first | (guard_target = Prop; rotate_left 1) | skip)))) | exact rfl))
    | ((with_reducible apply v_ia); exact rfl; exact rfl; exact rfl; exact rfl; (case inst => exact inferInstance); exact rfl; exact rfl; (first | with_reducible assumption | (apply chk_c; exact hP; (first | (guard_target = Prop; rotate_left 1) | skip))))
    | ((with_reducible apply v_iasl); exact rfl; exact rfl; exact rfl; exact rfl; (first | with_reducible assumption | (apply chk_c; exact hP; (first | (guard_target = Prop; rotate_left 1) | skip))))
    | ((with_reducible apply j_ia_ar); exact rfl; exact rfl; exact rfl; exact rfl; ((repeat ((fail_if_success (have hTest : Hld False := hP)); (have hq := chk_c hP); (replace hP := chk_p hP))); first | with_reducible assumption | (apply chk_c; exact hP; (first | (guard_target = Prop; rotate_left 1) | skip))); ((repeat ((fail_if_success (have hTest : Hld False := hP)); (have hq := chk_c hP); (replace hP := chk_p hP))); first | with_reducible assumption | (apply chk_c; exact hP; (first | (guard_target = Prop; rotate_left 1) | skip))); (first | with_reducible exact Int.toNat_natCast _ | exact rfl))
    | ((apply (v_ste (f := irow))); exact rfl; exact rfl; (case inst => exact inferInstance); exact rfl; exact rfl; exact rfl; exact rfl; exact rfl; exact congrArg some (irow_mk _); (first | with_reducible assumption | (apply chk_c; exact hP; (first | (guard_target = Prop; rotate_left 1) | skip))))
    | ((apply (v_ste (f := RepR.row))); exact rfl; exact rfl; (case inst => exact inferInstance); exact rfl; exact rfl; exact rfl; exact rfl; exact rfl; exact congrArg some (RepR.row_mk _ _); (first | with_reducible assumption | (apply chk_c; exact hP; (first | (guard_target = Prop; rotate_left 1) | skip))))
    | ((with_reducible apply c_c); exact rfl; (first | with_reducible assumption | with_reducible exact Eq.refl true | with_reducible exact Eq.refl false | (with_reducible refine not_t ?_; with_reducible assumption) | (with_reducible refine not_f ?_; with_reducible assumption) | (refine dec_t ?_; decide) | (refine dec_f ?_; decide)))
    | ((with_reducible apply b_o); exact rfl)
    | ((with_reducible apply r_g); exact rfl; (· repeat' (first | exact True.intro | refine And.intro ?_ ?_ | (show (_ : Nat) = _; (first | exact rfl | exact (List.length_map _).symm | omega | (simp only [List.length_set, List.length_map, List.length_append] <;> omega) | (simp; done))))); (exact hP.out))
    | ((with_reducible apply j_call (pu := true)); exact rfl; apply (cApply_ic _ _); rotate_left 2; (focus ((repeat' (first | exact .nil _ | refine .cons ?_ ?_ | exact .one (.d _ _) | exact .one psc_nilm | exact psc_nilm | exact .one (.nil _) | exact .one (.tape _) | exact .one (.fn _ _) | exact .agg (.same _ _) | refine .agg ?_ | exact .d _ _ | exact .one (.sl rfl rfl) | exact .one (.sl rfl (List.length_map _).symm) | exact .sl rfl rfl | exact .sl rfl (List.length_map _).symm | exact .same _ _)) <;> fail)); exact .inl rfl)
    | ((with_reducible apply j_call (pu := true)); exact rfl; apply (cApply_ic ⟨_, _, _, _⟩ ⟨_, _, _, _⟩); rotate_left 8; dsimp only [Cl.v_mk, XvR.v_mk]; (focus ((repeat' (first | exact .nil _ | refine .cons ?_ ?_ | exact .one (.d _ _) | exact .one psc_nilm | exact psc_nilm | exact .one (.nil _) | exact .one (.tape _) | exact .one (.fn _ _) | exact .agg (.same _ _) | refine .agg ?_ | exact .d _ _ | exact .one (.sl rfl rfl) | exact .one (.sl rfl (List.length_map _).symm) | exact .sl rfl rfl | exact .sl rfl (List.length_map _).symm | exact .same _ _)) <;> fail)); exact .inl rfl)
    | ((with_reducible apply j_call (pu := false)); exact rfl; apply (check_ic _); rotate_left 1; (focus ((repeat' (first | exact .nil _ | refine .cons ?_ ?_ | exact .one (.d _ _) | exact .one psc_nilm | exact psc_nilm | exact .one (.nil _) | exact .one (.tape _) | exact .one (.fn _ _) | exact .agg (.same _ _) | refine .agg ?_ | exact .d _ _ | exact .one (.sl rfl rfl) | exact .one (.sl rfl (List.length_map _).symm) | exact .sl rfl rfl | exact .sl rfl (List.length_map _).symm | exact .same _ _)) <;> fail)); exact .inr rfl)
    | ((with_reducible apply j_call (pu := false)); exact rfl; apply (check_ic ⟨_, _, _, _⟩); rotate_left 4; dsimp only [Cl.v_mk]; (focus ((repeat' (first | exact .nil _ | refine .cons ?_ ?_ | exact .one (.d _ _) | exact .one psc_nilm | exact psc_nilm | exact .one (.nil _) | exact .one (.tape _) | exact .one (.fn _ _) | exact .agg (.same _ _) | refine .agg ?_ | exact .d _ _ | exact .one (.sl rfl rfl) | exact .one (.sl rfl (List.length_map _).symm) | exact .sl rfl rfl | exact .sl rfl (List.length_map _).symm | exact .same _ _)) <;> fail)); exact .inr rfl)
    | ((with_reducible apply (v_callo (d := 23) 1000)); exact rfl; exact ⟨rfl, rfl⟩; apply (ccopy_ics _); rotate_left 1; (focus ((repeat' (first | exact .nil _ | refine .cons ?_ ?_ | exact .one (.d _ _) | exact .one psc_nilm | exact psc_nilm | exact .one (.nil _) | exact .one (.tape _) | exact .one (.fn _ _) | exact .agg (.same _ _) | refine .agg ?_ | exact .d _ _ | exact .one (.sl rfl rfl) | exact .one (.sl rfl (List.length_map _).symm) | exact .sl rfl rfl | exact .sl rfl (List.length_map _).symm | exact .same _ _)) <;> fail)); exact rfl; exact rfl; (focus (dsimp only [SV.ren, CV.ren, List.map, Nat.reduceAdd]; try exact rfl)); (focus (dsimp only [renH, VH.ren, List.map, Nat.reduceAdd, List.cons_append, List.nil_append]; try exact rfl)); (first | with_reducible assumption | (apply chk_c; exact hP; (first | (guard_target = Prop; rotate_left 1) | skip))))
    | ((with_reducible apply (v_callo (d := 23) 1000)); exact rfl; exact ⟨rfl, rfl⟩; apply (ccopy_ics ⟨_, _, _, _⟩); rotate_left 4; dsimp only [Cl.v_mk]; (focus ((repeat' (first | exact .nil _ | refine .cons ?_ ?_ | exact .one (.d _ _) | exact .one psc_nilm | exact psc_nilm | exact .one (.nil _) | exact .one (.tape _) | exact .one (.fn _ _) | exact .agg (.same _ _) | refine .agg ?_ | exact .d _ _ | exact .one (.sl rfl rfl) | exact .one (.sl rfl (List.length_map _).symm) | exact .sl rfl rfl | exact .sl rfl (List.length_map _).symm | exact .same _ _)) <;> fail)); exact rfl; exact rfl; (focus (dsimp only [SV.ren, CV.ren, List.map, Nat.reduceAdd]; try exact rfl)); (focus (dsimp only [renH, VH.ren, List.map, Nat.reduceAdd, List.cons_append, List.nil_append]; try exact rfl)); (first | with_reducible assumption | (apply chk_c; exact hP; (first | (guard_target = Prop; rotate_left 1) | skip))))
    | ((with_reducible refine v_loopat (c := (.seq (.region 7 _ _) _)) ?_); ((with_reducible apply (c_fz 1005)); exact rfl; exact rfl; exact rfl; (· repeat' (first | exact True.intro | refine And.intro ?_ ?_ | (show (_ : Nat) = _; (first | exact rfl | exact (List.length_map _).symm | omega | (simp only [List.length_set, List.length_map, List.length_append] <;> omega) | (simp; done)))))); ((with_reducible apply (c_fz 1008)); exact rfl; exact rfl; exact rfl; (· repeat' (first | exact True.intro | refine And.intro ?_ ?_ | (show (_ : Nat) = _; (first | exact rfl | exact (List.length_map _).symm | omega | (simp only [List.length_set, List.length_map, List.length_append] <;> omega) | (simp; done)))))); ((with_reducible apply (c_fz 1011)); exact rfl; exact rfl; exact rfl; (· repeat' (first | exact True.intro | refine And.intro ?_ ?_ | (show (_ : Nat) = _; (first | exact rfl | exact (List.length_map _).symm | omega | (simp only [List.length_set, List.length_map, List.length_append] <;> omega) | (simp; done)))))); (apply (v_loop5 _ _ _ _ _ [1, 4, 7, 24, 25] [4] (fun x2 x3 x4 x5 x1 => [(26, .one (.d (.int .i64 x1)))]) (fun x2 x3 x4 x5 x1 => [(7, .blk 25 [.d (.bool x2), .d (.list (List.map irow x3)), .d (.list (List.map RepR.row x4)), .d (.list (List.map irow x5))])]) [])); exact rfl; exact rfl; exact ⟨(by repeat' (first | exact .nil | exact .nil _ | refine .cons ?_ ?_ | exact .u _ | exact SVle_pl rfl | refine .one ?_ | refine .agg ?_ | exact .d rfl | exact .ref rfl rfl | exact .sl rfl (by first | rfl | omega | (rw [List.length_append, List.length_map]; show _ + 1 = _; omega) | simp) | exact .fn _ | exact .tape | exact .nils rfl | exact .nild | exact .nil | exact .rp (by simp) | exact .clo (by simp) | exact .el rfl rfl rfl | exact .d (by first | rfl | (congr 1; omega) | (congr 1; assumption) | simp) | exact .virt rfl | exact .gone _ | refine .blk rfl ?_ | exact .arr rfl (by first | rfl | assumption | simp))), (by repeat' (first | exact .nil | exact .nil _ | refine .cons ?_ ?_ | exact .u _ | exact SVle_pl rfl | refine .one ?_ | refine .agg ?_ | exact .d rfl | exact .ref rfl rfl | exact .sl rfl (by first | rfl | omega | (rw [List.length_append, List.length_map]; show _ + 1 = _; omega) | simp) | exact .fn _ | exact .tape | exact .nils rfl | exact .nild | exact .nil | exact .rp (by simp) | exact .clo (by simp) | exact .el rfl rfl rfl | exact .d (by first | rfl | (congr 1; omega) | (congr 1; assumption) | simp) | exact .virt rfl | exact .gone _ | refine .blk rfl ?_ | exact .arr rfl (by first | rfl | assumption | simp)))⟩; (exact hP); clear hP; intro I μ x2 x3 x4 x5 x1 hP)
    | ((with_reducible apply (v_nxt5 (a1 := _) (a2 := _) (a3 := _) (a4 := _) (a5 := _))); (repeat' (first | exact .nil | exact .nil _ | refine .cons ?_ ?_ | exact .u _ | exact SVle_pl rfl | refine .one ?_ | refine .agg ?_ | exact .d rfl | exact .ref rfl rfl | exact .sl rfl (by first | rfl | exact (splT_len (by simp only [List.length_take, List.length_drop]; omega)).symm | omega | (rw [List.length_append, List.length_map]; show _ + 1 = _; omega) | simp) | exact .fn _ | exact .tape | exact .nils rfl | exact .nild | exact .nil | exact .rp (by simp) | exact .clo (by simp) | exact .el rfl rfl rfl | exact .d (by first | rfl | (congr 1; omega) | (congr 1; assumption) | simp) | exact .virt rfl | exact .gone _ | refine .blk rfl ?_ | exact .arr rfl (by first | rfl | assumption | simp))); (repeat' (first | exact .nil | exact .nil _ | refine .cons ?_ ?_ | exact .u _ | exact SVle_pl rfl | refine .one ?_ | refine .agg ?_ | exact .d rfl | exact .ref rfl rfl | exact .sl rfl (by first | rfl | exact (splT_len (by simp only [List.length_take, List.length_drop]; omega)).symm | omega | (rw [List.length_append, List.length_map]; show _ + 1 = _; omega) | simp) | exact .fn _ | exact .tape | exact .nils rfl | exact .nild | exact .nil | exact .rp (by simp) | exact .clo (by simp) | exact .el rfl rfl rfl | exact .d (by first | rfl | (congr 1; omega) | (congr 1; assumption) | simp) | exact .virt rfl | exact .gone _ | refine .blk rfl ?_ | exact .arr rfl (by first | rfl | assumption | simp))); (exact hP))
    | ((with_reducible apply v_gs); exact rfl; exact rfl; (exact hP); all_goals (clear hP; intro hg hP))
    | ((with_reducible apply v_if); exact rfl; (exact hP); all_goals (clear hP; intro hc hP)))
theorem runF_gt {c : Cl} {l : List XvR} {x : Int} (h0 : 0 ≤ x) (h : x < l.length) : runF c x.toNat (l.drop x.toNat) = if applyE c (gt l x) = 0 then runF (applyC c (gt l x)) (x.toNat + 1) (l.drop (x.toNat + 1)) else (c, x.toNat, applyE c (gt l x)) := by
  have hx : x.toNat < l.length := by omega
  rw [gt_eq hx]; exact runF_at hx
theorem cRun_ic (c : Cl) (l : List XvR) : ICt 32 [c.v, .one (.d (.list (l.map XvR.row)))] (fun v => v = .tup [(runS c l).1.v, iv (runS c l).2.1, iv (runS c l).2.2]) := (cRun_V c l _).2 (by
  (delta cRun_V; dsimp only [mkV])
  have hch := check_iff c
  by_cases hv : ¬ validB c = true
  · (repeat' (first | with_reducible refine brn_nd (fun h => ?_) (fun h => ?_) | with_reducible refine brn_d (fun h => ?_) (fun h => ?_) | with_reducible refine brn_nn (fun h => ?_) (fun h => ?_) | with_reducible refine brn_nb (fun h => ?_) (fun h => ?_) | with_reducible refine Brn.mk (fun h => ?_) (fun h => ?_) | with_reducible refine Chk.mk ?_ ?_ | with_reducible refine Bth.mk ?_ ?_ | with_reducible refine Fct.mk (fun hf => ?_)))
    · simp only [runS, hv]; rfl
    all_goals simp_all
  rw [Classical.not_not] at hv
  have hl := valid_len hv
  (repeat' (first | with_reducible refine brn_nd (fun h => ?_) (fun h => ?_) | with_reducible refine brn_d (fun h => ?_) (fun h => ?_) | with_reducible refine brn_nn (fun h => ?_) (fun h => ?_) | with_reducible refine brn_nb (fun h => ?_) (fun h => ?_) | with_reducible refine Brn.mk (fun h => ?_) (fun h => ?_) | with_reducible refine Chk.mk ?_ ?_ | with_reducible refine Bth.mk ?_ ?_ | with_reducible refine Fct.mk (fun hf => ?_)))
  · simp_all
  · simp only [runS, hv, if_true, if_pos (show 120 < l.length by omega)]; rfl
  · omega
  · have hrun : runS c l = runF c 0 l := by simp only [runS, hv, if_true]; rw [if_neg (by omega)]
    rw [hrun]
    refine ⟨fun x1 x2 x3 x4 x5 => 0 ≤ x5 ∧ x5 ≤ l.length ∧ runF ⟨x1, x2, x3, x4⟩ x5.toNat (l.drop x5.toNat) = runF c 0 l, fun _ _ _ _ x5 => (l.length - x5).toNat, ⟨by omega, by omega, by simp⟩, fun x1 x2 x3 x4 x5 ⟨h1, h2, h3⟩ => ?_⟩
    (repeat' (first | with_reducible refine brn_nd (fun h => ?_) (fun h => ?_) | with_reducible refine brn_d (fun h => ?_) (fun h => ?_) | with_reducible refine brn_nn (fun h => ?_) (fun h => ?_) | with_reducible refine brn_nb (fun h => ?_) (fun h => ?_) | with_reducible refine Brn.mk (fun h => ?_) (fun h => ?_) | with_reducible refine Chk.mk ?_ ?_ | with_reducible refine Bth.mk ?_ ?_ | with_reducible refine Fct.mk (fun hf => ?_)))
    · omega
    · rw [runF_gt h1 (by assumption), if_neg (by assumption)] at h3
      rw [← h3]
      simp only [Int.toNat_of_nonneg h1]
      rfl
    · unfold InI; omega
    · rw [runF_gt h1 (by assumption), if_pos (by assumption)] at h3
      refine ⟨⟨by omega, by omega, ?_⟩, by dsimp only; omega⟩
      rw [show (x5 + 1).toNat = x5.toNat + 1 by omega]
      exact h3
    · have : x5 = l.length := by omega
      subst this
      simp [runF] at h3
      rw [← h3]; rfl)
def pRD (D q : RepR → Bool) : List DV → Option Cell
  | [.agg [.int .i64 g, .bool b]] => if D ⟨g, b⟩ = true then some (.bool (q ⟨g, b⟩)) else none
  | _ => none
def pID (D q : Int → Bool) : List DV → Option Cell
  | [.one (.int .i64 z)] => if D z = true then some (.bool (q z)) else none
  | _ => none
theorem fnRD {f : Nat} {caps : List CV} {D q : RepR → Bool} (he : Enters Try.prog f) (h : ∀ z : RepR, D z = true → ICt f (z.v :: caps.map .one) (fun v => v = bv (q z))) (hn : CV.ntL caps = true := by rfl) : FnC f caps (pRD D q) := by
  refine ⟨he, hn, ?_⟩
  intro args r hr
  unfold pRD at hr
  split at hr
  · split at hr
    · rename_i hd; cases hr; exact ⟨⟨_, rfl⟩, h ⟨_, _⟩ hd⟩
    · cases hr
  · cases hr
theorem fnID {f : Nat} {caps : List CV} {D q : Int → Bool} (he : Enters Try.prog f) (h : ∀ z : Int, D z = true → ICt f (iv z :: caps.map .one) (fun v => v = bv (q z))) (hn : CV.ntL caps = true := by rfl) : FnC f caps (pID D q) := by
  refine ⟨he, hn, ?_⟩
  intro args r hr
  unfold pID at hr
  split at hr
  · split at hr
    · rename_i hd; cases hr; exact ⟨⟨_, rfl⟩, h _ hd⟩
    · cases hr
  · cases hr
noncomputable def idxRD_V (l : List RepR) (D q : RepR → Bool) (Q : SV → Prop) : Σ' P : Prop, (P → ICt 73 [.one (.d (.list (l.map RepR.row))), .one (.fn (pRD D q))] Q) := by
  apply mkV; intro hP
  refine ic_wk (K 19) Try.func73 rfl rfl rfl rfl (fun w0 => ?_)
  repeat' (first
    | ((fail_if_success (have hTest : Hld False := hP)); (have hq := chk_c hP); (replace hP := chk_p hP))
    | ((with_reducible apply j_lst); exact rfl)
    | (with_reducible (first | apply c_seq | apply c_rg | apply j_nil | apply q_n | apply c_ct | apply c_cf | apply c_bl | apply c_ex | apply c_ret | apply c_sk | apply q_r | apply q_e | apply b_r | apply b_e | apply b_n | apply n_n | apply n_r | apply n_e))
    | ((with_reducible apply c_l1); exact rfl; exact rfl)
    | ((with_reducible apply c_l2); exact rfl; exact rfl)
    | ((with_reducible apply c_l3); exact rfl)
    | ((with_reducible apply j_v); exact rfl; exact rfl)
    | ((with_reducible apply v_lenm); exact rfl; exact rfl; exact rfl; (exact hP); clear hP; intro hP)
    | ((with_reducible apply v_lens); exact rfl; exact rfl; exact rfl; (exact hP); clear hP; intro hP)
    | ((with_reducible apply j_len); exact rfl; exact rfl; exact rfl)
    | ((with_reducible apply j_len0); exact rfl; exact rfl; exact rfl)
    | ((with_reducible apply j_ld_el1); exact rfl; exact rfl; exact rfl; exact rfl; (first | with_reducible assumption | exact gt_row (by omega) (by omega) | exact rfl); exact rfl)
    | ((with_reducible apply j_add); exact rfl; exact rfl; exact rfl; (first | (with_reducible apply wr_i64; (first | with_reducible assumption | (apply chk_c; exact hP; (first | (guard_target = Prop; rotate_left 1) | skip)))) | exact rfl))
    | ((with_reducible apply v_ia); exact rfl; exact rfl; exact rfl; exact rfl; (case inst => exact inferInstance); exact rfl; exact rfl; (first | with_reducible assumption | (apply chk_c; exact hP; (first | (guard_target = Prop; rotate_left 1) | skip))))
    | ((with_reducible apply v_iasl); exact rfl; exact rfl; exact rfl; exact rfl; (first | with_reducible assumption | (apply chk_c; exact hP; (first | (guard_target = Prop; rotate_left 1) | skip))))
    | ((with_reducible apply j_ia_ar); exact rfl; exact rfl; exact rfl; exact rfl; ((repeat ((fail_if_success (have hTest : Hld False := hP)); (have hq := chk_c hP); (replace hP := chk_p hP))); first | with_reducible assumption | (apply chk_c; exact hP; (first | (guard_target = Prop; rotate_left 1) | skip))); ((repeat ((fail_if_success (have hTest : Hld False := hP)); (have hq := chk_c hP); (replace hP := chk_p hP))); first | with_reducible assumption | (apply chk_c; exact hP; (first | (guard_target = Prop; rotate_left 1) | skip))); (first | with_reducible exact Int.toNat_natCast _ | exact rfl))
    | ((with_reducible apply c_c); exact rfl; (first | with_reducible assumption | with_reducible exact Eq.refl true | with_reducible exact Eq.refl false | (with_reducible refine not_t ?_; with_reducible assumption) | (with_reducible refine not_f ?_; with_reducible assumption) | (refine dec_t ?_; decide) | (refine dec_f ?_; decide)))
    | ((with_reducible apply b_o); exact rfl)
    | ((with_reducible apply r_g); exact rfl; (· repeat' (first | exact True.intro | refine And.intro ?_ ?_ | (show (_ : Nat) = _; (first | exact rfl | exact (List.length_map _).symm | omega | (simp only [List.length_set, List.length_map, List.length_append] <;> omega) | (simp; done))))); (exact hP.out))
    | ((apply (j_callf (args := [.agg [.int .i64 _, .bool _]]))); exact rfl; exact rfl; exact ⟨rfl, trivial⟩; (refine if_pos ?_; (first | with_reducible assumption | (apply chk_c; exact hP; (first | (guard_target = Prop; rotate_left 1) | skip)))); exact (fun _ _ h => by cases h); exact (fun _ h => by cases h))
    | ((apply (j_callf (args := [.agg [.int .i64 _, .bool _]]))); exact rfl; exact rfl; exact ⟨rfl, trivial⟩; exact rfl; exact (fun _ _ h => by cases h); exact (fun _ h => by cases h))
    | ((with_reducible refine v_loopat (c := (.seq (.region 2 _ _) _)) ?_); (apply (v_loop1 _ [0, 1, 7] [] (fun x1 => [(8, .one (.d (.int .i64 x1)))]) (fun x1 => []) [])); exact rfl; exact rfl; exact ⟨(by repeat' (first | exact .nil | exact .nil _ | refine .cons ?_ ?_ | exact .u _ | exact SVle_pl rfl | refine .one ?_ | refine .agg ?_ | exact .d rfl | exact .ref rfl rfl | exact .sl rfl (by first | rfl | omega | (rw [List.length_append, List.length_map]; show _ + 1 = _; omega) | simp) | exact .fn _ | exact .tape | exact .nils rfl | exact .nild | exact .nil | exact .rp (by simp) | exact .clo (by simp) | exact .el rfl rfl rfl | exact .d (by first | rfl | (congr 1; omega) | (congr 1; assumption) | simp) | exact .virt rfl | exact .gone _ | refine .blk rfl ?_ | exact .arr rfl (by first | rfl | assumption | simp))), (by repeat' (first | exact .nil | exact .nil _ | refine .cons ?_ ?_ | exact .u _ | exact SVle_pl rfl | refine .one ?_ | refine .agg ?_ | exact .d rfl | exact .ref rfl rfl | exact .sl rfl (by first | rfl | omega | (rw [List.length_append, List.length_map]; show _ + 1 = _; omega) | simp) | exact .fn _ | exact .tape | exact .nils rfl | exact .nild | exact .nil | exact .rp (by simp) | exact .clo (by simp) | exact .el rfl rfl rfl | exact .d (by first | rfl | (congr 1; omega) | (congr 1; assumption) | simp) | exact .virt rfl | exact .gone _ | refine .blk rfl ?_ | exact .arr rfl (by first | rfl | assumption | simp)))⟩; (exact hP); clear hP; intro I μ x1 hP)
    | ((with_reducible apply (v_nxt1 (a1 := _))); (repeat' (first | exact .nil | exact .nil _ | refine .cons ?_ ?_ | exact .u _ | exact SVle_pl rfl | refine .one ?_ | refine .agg ?_ | exact .d rfl | exact .ref rfl rfl | exact .sl rfl (by first | rfl | exact (splT_len (by simp only [List.length_take, List.length_drop]; omega)).symm | omega | (rw [List.length_append, List.length_map]; show _ + 1 = _; omega) | simp) | exact .fn _ | exact .tape | exact .nils rfl | exact .nild | exact .nil | exact .rp (by simp) | exact .clo (by simp) | exact .el rfl rfl rfl | exact .d (by first | rfl | (congr 1; omega) | (congr 1; assumption) | simp) | exact .virt rfl | exact .gone _ | refine .blk rfl ?_ | exact .arr rfl (by first | rfl | assumption | simp))); (repeat' (first | exact .nil | exact .nil _ | refine .cons ?_ ?_ | exact .u _ | exact SVle_pl rfl | refine .one ?_ | refine .agg ?_ | exact .d rfl | exact .ref rfl rfl | exact .sl rfl (by first | rfl | exact (splT_len (by simp only [List.length_take, List.length_drop]; omega)).symm | omega | (rw [List.length_append, List.length_map]; show _ + 1 = _; omega) | simp) | exact .fn _ | exact .tape | exact .nils rfl | exact .nild | exact .nil | exact .rp (by simp) | exact .clo (by simp) | exact .el rfl rfl rfl | exact .d (by first | rfl | (congr 1; omega) | (congr 1; assumption) | simp) | exact .virt rfl | exact .gone _ | refine .blk rfl ?_ | exact .arr rfl (by first | rfl | assumption | simp))); (exact hP))
    | ((with_reducible apply v_gs); exact rfl; exact rfl; (exact hP); all_goals (clear hP; intro hg hP))
    | ((with_reducible apply v_if); exact rfl; (exact hP); all_goals (clear hP; intro hc hP)))
noncomputable def idxID_V (l : List Int) (D q : Int → Bool) (Q : SV → Prop) : Σ' P : Prop, (P → ICt 71 [.one (.d (.list (l.map irow))), .one (.fn (pID D q))] Q) := by
  apply mkV; intro hP
  refine ic_wk (K 19) Try.func71 rfl rfl rfl rfl (fun w0 => ?_)
  repeat' (first
    | ((fail_if_success (have hTest : Hld False := hP)); (have hq := chk_c hP); (replace hP := chk_p hP))
    | ((with_reducible apply j_lst); exact rfl)
    | (with_reducible (first | apply c_seq | apply c_rg | apply j_nil | apply q_n | apply c_ct | apply c_cf | apply c_bl | apply c_ex | apply c_ret | apply c_sk | apply q_r | apply q_e | apply b_r | apply b_e | apply b_n | apply n_n | apply n_r | apply n_e))
    | ((with_reducible apply c_l1); exact rfl; exact rfl)
    | ((with_reducible apply c_l2); exact rfl; exact rfl)
    | ((with_reducible apply c_l3); exact rfl)
    | ((with_reducible apply j_v); exact rfl; exact rfl)
    | ((with_reducible apply v_lenm); exact rfl; exact rfl; exact rfl; (exact hP); clear hP; intro hP)
    | ((with_reducible apply v_lens); exact rfl; exact rfl; exact rfl; (exact hP); clear hP; intro hP)
    | ((with_reducible apply j_len); exact rfl; exact rfl; exact rfl)
    | ((with_reducible apply j_len0); exact rfl; exact rfl; exact rfl)
    | ((with_reducible apply j_ld_el1); exact rfl; exact rfl; exact rfl; exact rfl; (first | with_reducible assumption | exact gt_row (by omega) (by omega) | exact rfl); exact rfl)
    | ((with_reducible apply j_add); exact rfl; exact rfl; exact rfl; (first | (with_reducible apply wr_i64; (first | with_reducible assumption | (apply chk_c; exact hP; (first | (guard_target = Prop; rotate_left 1) | skip)))) | exact rfl))
    | ((with_reducible apply v_ia); exact rfl; exact rfl; exact rfl; exact rfl; (case inst => exact inferInstance); exact rfl; exact rfl; (first | with_reducible assumption | (apply chk_c; exact hP; (first | (guard_target = Prop; rotate_left 1) | skip))))
    | ((with_reducible apply v_iasl); exact rfl; exact rfl; exact rfl; exact rfl; (first | with_reducible assumption | (apply chk_c; exact hP; (first | (guard_target = Prop; rotate_left 1) | skip))))
    | ((with_reducible apply j_ia_ar); exact rfl; exact rfl; exact rfl; exact rfl; ((repeat ((fail_if_success (have hTest : Hld False := hP)); (have hq := chk_c hP); (replace hP := chk_p hP))); first | with_reducible assumption | (apply chk_c; exact hP; (first | (guard_target = Prop; rotate_left 1) | skip))); ((repeat ((fail_if_success (have hTest : Hld False := hP)); (have hq := chk_c hP); (replace hP := chk_p hP))); first | with_reducible assumption | (apply chk_c; exact hP; (first | (guard_target = Prop; rotate_left 1) | skip))); (first | with_reducible exact Int.toNat_natCast _ | exact rfl))
    | ((with_reducible apply c_c); exact rfl; (first | with_reducible assumption | with_reducible exact Eq.refl true | with_reducible exact Eq.refl false | (with_reducible refine not_t ?_; with_reducible assumption) | (with_reducible refine not_f ?_; with_reducible assumption) | (refine dec_t ?_; decide) | (refine dec_f ?_; decide)))
    | ((with_reducible apply b_o); exact rfl)
    | ((with_reducible apply r_g); exact rfl; (· repeat' (first | exact True.intro | refine And.intro ?_ ?_ | (show (_ : Nat) = _; (first | exact rfl | exact (List.length_map _).symm | omega | (simp only [List.length_set, List.length_map, List.length_append] <;> omega) | (simp; done))))); (exact hP.out))
    | ((apply (j_callf (args := [.one (.int .i64 _)]))); exact rfl; exact rfl; exact ⟨rfl, trivial⟩; (refine if_pos ?_; (first | with_reducible assumption | (apply chk_c; exact hP; (first | (guard_target = Prop; rotate_left 1) | skip)))); exact (fun _ _ h => by cases h); exact (fun _ h => by cases h))
    | ((apply (j_callf (args := [.one (.int .i64 _)]))); exact rfl; exact rfl; exact ⟨rfl, trivial⟩; exact rfl; exact (fun _ _ h => by cases h); exact (fun _ h => by cases h))
    | ((with_reducible refine v_loopat (c := (.seq (.region 2 _ _) _)) ?_); (apply (v_loop1 _ [0, 1, 7] [] (fun x1 => [(8, .one (.d (.int .i64 x1)))]) (fun x1 => []) [])); exact rfl; exact rfl; exact ⟨(by repeat' (first | exact .nil | exact .nil _ | refine .cons ?_ ?_ | exact .u _ | exact SVle_pl rfl | refine .one ?_ | refine .agg ?_ | exact .d rfl | exact .ref rfl rfl | exact .sl rfl (by first | rfl | omega | (rw [List.length_append, List.length_map]; show _ + 1 = _; omega) | simp) | exact .fn _ | exact .tape | exact .nils rfl | exact .nild | exact .nil | exact .rp (by simp) | exact .clo (by simp) | exact .el rfl rfl rfl | exact .d (by first | rfl | (congr 1; omega) | (congr 1; assumption) | simp) | exact .virt rfl | exact .gone _ | refine .blk rfl ?_ | exact .arr rfl (by first | rfl | assumption | simp))), (by repeat' (first | exact .nil | exact .nil _ | refine .cons ?_ ?_ | exact .u _ | exact SVle_pl rfl | refine .one ?_ | refine .agg ?_ | exact .d rfl | exact .ref rfl rfl | exact .sl rfl (by first | rfl | omega | (rw [List.length_append, List.length_map]; show _ + 1 = _; omega) | simp) | exact .fn _ | exact .tape | exact .nils rfl | exact .nild | exact .nil | exact .rp (by simp) | exact .clo (by simp) | exact .el rfl rfl rfl | exact .d (by first | rfl | (congr 1; omega) | (congr 1; assumption) | simp) | exact .virt rfl | exact .gone _ | refine .blk rfl ?_ | exact .arr rfl (by first | rfl | assumption | simp)))⟩; (exact hP); clear hP; intro I μ x1 hP)
    | ((with_reducible apply (v_nxt1 (a1 := _))); (repeat' (first | exact .nil | exact .nil _ | refine .cons ?_ ?_ | exact .u _ | exact SVle_pl rfl | refine .one ?_ | refine .agg ?_ | exact .d rfl | exact .ref rfl rfl | exact .sl rfl (by first | rfl | exact (splT_len (by simp only [List.length_take, List.length_drop]; omega)).symm | omega | (rw [List.length_append, List.length_map]; show _ + 1 = _; omega) | simp) | exact .fn _ | exact .tape | exact .nils rfl | exact .nild | exact .nil | exact .rp (by simp) | exact .clo (by simp) | exact .el rfl rfl rfl | exact .d (by first | rfl | (congr 1; omega) | (congr 1; assumption) | simp) | exact .virt rfl | exact .gone _ | refine .blk rfl ?_ | exact .arr rfl (by first | rfl | assumption | simp))); (repeat' (first | exact .nil | exact .nil _ | refine .cons ?_ ?_ | exact .u _ | exact SVle_pl rfl | refine .one ?_ | refine .agg ?_ | exact .d rfl | exact .ref rfl rfl | exact .sl rfl (by first | rfl | exact (splT_len (by simp only [List.length_take, List.length_drop]; omega)).symm | omega | (rw [List.length_append, List.length_map]; show _ + 1 = _; omega) | simp) | exact .fn _ | exact .tape | exact .nils rfl | exact .nild | exact .nil | exact .rp (by simp) | exact .clo (by simp) | exact .el rfl rfl rfl | exact .d (by first | rfl | (congr 1; omega) | (congr 1; assumption) | simp) | exact .virt rfl | exact .gone _ | refine .blk rfl ?_ | exact .arr rfl (by first | rfl | assumption | simp))); (exact hP))
    | ((with_reducible apply v_gs); exact rfl; exact rfl; (exact hP); all_goals (clear hP; intro hg hP))
    | ((with_reducible apply v_if); exact rfl; (exact hP); all_goals (clear hP; intro hc hP)))
theorem idxRD_ic (l : List RepR) (D q : RepR → Bool) : ICp (∀ r ∈ l, D r = true) 73 [.one (.d (.list (l.map RepR.row))), .one (.fn (pRD D q))] (fun v => v = iv (idxOf q l)) := fun hD => (idxRD_V l D q _).2 (by
  (delta idxRD_V; dsimp only [mkV])
  (repeat' (first | with_reducible refine brn_nd (fun h => ?_) (fun h => ?_) | with_reducible refine brn_d (fun h => ?_) (fun h => ?_) | with_reducible refine brn_nn (fun h => ?_) (fun h => ?_) | with_reducible refine brn_nb (fun h => ?_) (fun h => ?_) | with_reducible refine Brn.mk (fun h => ?_) (fun h => ?_) | with_reducible refine Chk.mk ?_ ?_ | with_reducible refine Bth.mk ?_ ?_ | with_reducible refine Fct.mk (fun hf => ?_)))
  refine ⟨fun x1 => 0 ≤ x1 ∧ x1 ≤ l.length ∧ ∀ j (hj : j < l.length), (j : Int) < x1 → q l[j] = false, fun x1 => (l.length - x1).toNat, ⟨by omega, by omega, fun j hj h => by omega⟩, fun x1 ⟨h1, h2, h3⟩ => ?_⟩
  (repeat' (first | with_reducible refine brn_nd (fun h => ?_) (fun h => ?_) | with_reducible refine brn_d (fun h => ?_) (fun h => ?_) | with_reducible refine brn_nn (fun h => ?_) (fun h => ?_) | with_reducible refine brn_nb (fun h => ?_) (fun h => ?_) | with_reducible refine Brn.mk (fun h => ?_) (fun h => ?_) | with_reducible refine Chk.mk ?_ ?_ | with_reducible refine Bth.mk ?_ ?_ | with_reducible refine Fct.mk (fun hf => ?_)))
  · omega
  · exact hD _ (gt_mem h1 (by assumption))
  · rename_i hlt
    have hx : x1.toNat < l.length := by omega
    have hq' : q (gt l x1) = true := h
    rw [gt_eq hx] at hq'
    have := idxOf_at hx hq' fun j hj => h3 j (by omega) (by omega)
    rw [this, Int.toNat_of_nonneg h1]
  · unfold InI; omega
  · rename_i hlt
    have hx : x1.toNat < l.length := by omega
    have hq' : q (gt l x1) = false := h
    rw [gt_eq hx] at hq'
    refine ⟨⟨by omega, by omega, fun j hj h => ?_⟩, by dsimp only; omega⟩
    by_cases e : (j : Int) < x1
    · exact h3 j hj e
    · have : j = x1.toNat := by omega
      subst this
      simpa using hq'
  · rw [idxOf_none fun x hx => by
      obtain ⟨j, hj, rfl⟩ := List.getElem_of_mem hx
      exact h3 j hj (by omega)])
theorem idxID_ic (l : List Int) (D q : Int → Bool) : ICp (∀ r ∈ l, D r = true) 71 [.one (.d (.list (l.map irow))), .one (.fn (pID D q))] (fun v => v = iv (idxOf q l)) := fun hD => (idxID_V l D q _).2 (by
  (delta idxID_V; dsimp only [mkV])
  (repeat' (first | with_reducible refine brn_nd (fun h => ?_) (fun h => ?_) | with_reducible refine brn_d (fun h => ?_) (fun h => ?_) | with_reducible refine brn_nn (fun h => ?_) (fun h => ?_) | with_reducible refine brn_nb (fun h => ?_) (fun h => ?_) | with_reducible refine Brn.mk (fun h => ?_) (fun h => ?_) | with_reducible refine Chk.mk ?_ ?_ | with_reducible refine Bth.mk ?_ ?_ | with_reducible refine Fct.mk (fun hf => ?_)))
  refine ⟨fun x1 => 0 ≤ x1 ∧ x1 ≤ l.length ∧ ∀ j (hj : j < l.length), (j : Int) < x1 → q l[j] = false, fun x1 => (l.length - x1).toNat, ⟨by omega, by omega, fun j hj h => by omega⟩, fun x1 ⟨h1, h2, h3⟩ => ?_⟩
  (repeat' (first | with_reducible refine brn_nd (fun h => ?_) (fun h => ?_) | with_reducible refine brn_d (fun h => ?_) (fun h => ?_) | with_reducible refine brn_nn (fun h => ?_) (fun h => ?_) | with_reducible refine brn_nb (fun h => ?_) (fun h => ?_) | with_reducible refine Brn.mk (fun h => ?_) (fun h => ?_) | with_reducible refine Chk.mk ?_ ?_ | with_reducible refine Bth.mk ?_ ?_ | with_reducible refine Fct.mk (fun hf => ?_)))
  · omega
  · exact hD _ (gt_mem h1 (by assumption))
  · rename_i hlt
    have hx : x1.toNat < l.length := by omega
    have hq' : q (gt l x1) = true := h
    rw [gt_eq hx] at hq'
    have := idxOf_at hx hq' fun j hj => h3 j (by omega) (by omega)
    rw [this, Int.toNat_of_nonneg h1]
  · unfold InI; omega
  · rename_i hlt
    have hx : x1.toNat < l.length := by omega
    have hq' : q (gt l x1) = false := h
    rw [gt_eq hx] at hq'
    refine ⟨⟨by omega, by omega, fun j hj h => ?_⟩, by dsimp only; omega⟩
    by_cases e : (j : Int) < x1
    · exact h3 j hj e
    · have : j = x1.toNat := by omega
      subst this
      simpa using hq'
  · rw [idxOf_none fun x hx => by
      obtain ⟨j, hj, rfl⟩ := List.getElem_of_mem hx
      exact h3 j hj (by omega)])
noncomputable def hasRD_V (l : List RepR) (D q : RepR → Bool) (Q : SV → Prop) : Σ' P : Prop, (P → ICt 67 [.one (.d (.list (l.map RepR.row))), .one (.fn (pRD D q))] Q) := by
  apply mkV; intro hP
  refine ic_wk (K 9) Try.func67 rfl rfl rfl rfl (fun w0 => ?_)
  repeat' (first
    | ((fail_if_success (have hTest : Hld False := hP)); (have hq := chk_c hP); (replace hP := chk_p hP))
    | ((with_reducible apply j_lst); exact rfl)
    | (with_reducible (first | apply c_seq | apply c_rg | apply j_nil | apply q_n | apply c_bl | apply c_ex | apply c_ret | apply c_sk | apply q_r | apply q_e | apply b_r | apply b_e | apply b_n | apply n_n | apply n_r | apply n_e))
    | ((with_reducible apply c_l1); exact rfl; exact rfl)
    | ((with_reducible apply c_l2); exact rfl; exact rfl)
    | ((with_reducible apply c_l3); exact rfl)
    | ((with_reducible apply j_v); exact rfl; exact rfl)
    | ((with_reducible apply b_o); exact rfl)
    | ((with_reducible apply r_g); exact rfl; (· repeat' (first | exact True.intro | refine And.intro ?_ ?_ | (show (_ : Nat) = _; (first | exact rfl | exact (List.length_map _).symm | omega | (simp only [List.length_set, List.length_map, List.length_append] <;> omega) | (simp; done))))); (exact hP.out))
    | ((with_reducible apply j_call (pu := false)); exact rfl; apply (idxR_ic _ _); rotate_left 2; (focus ((repeat' (first | exact .nil _ | refine .cons ?_ ?_ | exact .one (.d _ _) | exact .one psc_nilm | exact psc_nilm | exact .one (.nil _) | exact .one (.tape _) | exact .one (.fn _ _) | exact .agg (.same _ _) | refine .agg ?_ | exact .d _ _ | exact .one (.sl rfl rfl) | exact .one (.sl rfl (List.length_map _).symm) | exact .sl rfl rfl | exact .sl rfl (List.length_map _).symm | exact .same _ _)) <;> fail)); exact .inr rfl)
    | ((with_reducible apply v_call (pu := false)); exact rfl; exact ⟨rfl, rfl⟩; apply (idxRD_ic _ _ _); rotate_left 3; (focus ((repeat' (first | exact .nil _ | refine .cons ?_ ?_ | exact .one (.d _ _) | exact .one psc_nilm | exact psc_nilm | exact .one (.nil _) | exact .one (.tape _) | exact .one (.fn _ _) | exact .agg (.same _ _) | refine .agg ?_ | exact .d _ _ | exact .one (.sl rfl rfl) | exact .one (.sl rfl (List.length_map _).symm) | exact .sl rfl rfl | exact .sl rfl (List.length_map _).symm | exact .same _ _)) <;> fail)); exact .inr rfl; (first | with_reducible assumption | (apply chk_c; exact hP; (first | (guard_target = Prop; rotate_left 1) | skip))))
    | ((with_reducible apply v_gs); exact rfl; exact rfl; (exact hP); all_goals (clear hP; intro hg hP))
    | ((with_reducible apply v_if); exact rfl; (exact hP); all_goals (clear hP; intro hc hP)))
theorem hasRD_ic (l : List RepR) (D q : RepR → Bool) : ICp (∀ r ∈ l, D r = true) 67 [.one (.d (.list (l.map RepR.row))), .one (.fn (pRD D q))] (fun v => v = bv (l.any q)) := fun hD => (hasRD_V l D q _).2 (by
  (delta hasRD_V; dsimp only [mkV])
  (repeat' (first | with_reducible refine brn_nd (fun h => ?_) (fun h => ?_) | with_reducible refine brn_d (fun h => ?_) (fun h => ?_) | with_reducible refine brn_nn (fun h => ?_) (fun h => ?_) | with_reducible refine brn_nb (fun h => ?_) (fun h => ?_) | with_reducible refine Brn.mk (fun h => ?_) (fun h => ?_) | with_reducible refine Chk.mk ?_ ?_ | with_reducible refine Bth.mk ?_ ?_ | with_reducible refine Fct.mk (fun hf => ?_)))
  all_goals first | exact hD | exact congrArg bv (idxOf_ge q l) | trace_state)
noncomputable def some1_V (c : Cl) (bit : Int) (r : RepR) (Q : SV → Prop) : Σ' P : Prop, (P → ICt 79 [r.v, .one c.p, .one (.rp [.d (.int .i64 bit)])] Q) := by
  apply mkV; intro hP
  refine ic_wk (K 9) Try.func79 rfl rfl rfl rfl (fun w0 => ?_)
  repeat' (first
    | ((fail_if_success (have hTest : Hld False := hP)); (have hq := chk_c hP); (replace hP := chk_p hP))
    | ((with_reducible apply j_lst); exact rfl)
    | (with_reducible (first | apply c_seq | apply c_rg | apply j_nil | apply q_n | apply c_bl | apply c_ex | apply c_ret | apply c_sk | apply q_r | apply q_e | apply b_r | apply b_e | apply b_n | apply n_n | apply n_r | apply n_e))
    | ((with_reducible apply c_l1); exact rfl; exact rfl)
    | ((with_reducible apply c_l2); exact rfl; exact rfl)
    | ((with_reducible apply c_l3); exact rfl)
    | ((with_reducible apply j_v); exact rfl; exact rfl)
    | ((with_reducible apply j_h); exact rfl; exact rfl)
    | ((with_reducible apply b_o); exact rfl)
    | ((with_reducible apply r_g); exact rfl; (· repeat' (first | exact True.intro | refine And.intro ?_ ?_ | (show (_ : Nat) = _; (first | exact rfl | exact (List.length_map _).symm | omega | (simp only [List.length_set, List.length_map, List.length_append] <;> omega) | (simp; done))))); (exact hP.out))
    | ((with_reducible apply v_call (pu := false)); exact rfl; exact ⟨rfl, rfl⟩; apply (accepts_icp _ _ _); rotate_left 3; (focus ((repeat' (first | exact .nil _ | refine .cons ?_ ?_ | exact .one (.d _ _) | exact .one psc_nilm | exact psc_nilm | exact .one (.nil _) | exact .one (.tape _) | exact .one (.fn _ _) | exact .agg (.same _ _) | refine .agg ?_ | exact .d _ _ | exact .one (.sl rfl rfl) | exact .one (.sl rfl (List.length_map _).symm) | exact .sl rfl rfl | exact .sl rfl (List.length_map _).symm | refine .one (PsC.ref rfl ?_) | refine PsC.ref rfl ?_ | refine .one (PsC.rp ?_) | refine PsC.rp ?_ | refine .one (PsC.clo ?_) | refine PsC.clo ?_ | exact .same _ _)) <;> fail)); exact .inr rfl; (first | with_reducible assumption | (apply chk_c; exact hP; (first | (guard_target = Prop; rotate_left 1) | skip))))
    | ((with_reducible apply v_call (pu := false)); exact rfl; exact ⟨rfl, rfl⟩; apply (accepts_icp ⟨_, _, _, _⟩ ⟨_, _⟩ _); rotate_left 7; dsimp only [Cl.v_mk, RepR.v_mk]; (focus ((repeat' (first | exact .nil _ | refine .cons ?_ ?_ | exact .one (.d _ _) | exact .one psc_nilm | exact psc_nilm | exact .one (.nil _) | exact .one (.tape _) | exact .one (.fn _ _) | exact .agg (.same _ _) | refine .agg ?_ | exact .d _ _ | exact .one (.sl rfl rfl) | exact .one (.sl rfl (List.length_map _).symm) | exact .sl rfl rfl | exact .sl rfl (List.length_map _).symm | refine .one (PsC.ref rfl ?_) | refine PsC.ref rfl ?_ | refine .one (PsC.rp ?_) | refine PsC.rp ?_ | refine .one (PsC.clo ?_) | refine PsC.clo ?_ | exact .same _ _)) <;> fail)); exact .inr rfl; (first | with_reducible assumption | (apply chk_c; exact hP; (first | (guard_target = Prop; rotate_left 1) | skip))))
    | ((with_reducible apply v_gs); exact rfl; exact rfl; (exact hP); all_goals (clear hP; intro hg hP))
    | ((with_reducible apply v_if); exact rfl; (exact hP); all_goals (clear hP; intro hc hP)))
noncomputable def rev1_V (c : Cl) (bit : Int) (g : Int) (Q : SV → Prop) : Σ' P : Prop, (P → ICt 72 [iv g, .one c.p, .one (.rp [.d (.int .i64 bit)])] Q) := by
  apply mkV; intro hP
  refine ic_wk (K 9) Try.func72 rfl rfl rfl rfl (fun w0 => ?_)
  repeat' (first
    | ((fail_if_success (have hTest : Hld False := hP)); (have hq := chk_c hP); (replace hP := chk_p hP))
    | ((with_reducible apply j_lst); exact rfl)
    | (with_reducible (first | apply c_seq | apply c_rg | apply j_nil | apply q_n | apply c_bl | apply c_ex | apply c_ret | apply c_sk | apply q_r | apply q_e | apply b_r | apply b_e | apply b_n | apply n_n | apply n_r | apply n_e))
    | ((with_reducible apply c_l1); exact rfl; exact rfl)
    | ((with_reducible apply c_l2); exact rfl; exact rfl)
    | ((with_reducible apply c_l3); exact rfl)
    | ((with_reducible apply j_v); exact rfl; exact rfl)
    | ((with_reducible apply b_o); exact rfl)
    | ((with_reducible apply r_g); exact rfl; (· repeat' (first | exact True.intro | refine And.intro ?_ ?_ | (show (_ : Nat) = _; (first | exact rfl | exact (List.length_map _).symm | omega | (simp only [List.length_set, List.length_map, List.length_append] <;> omega) | (simp; done))))); (exact hP.out))
    | ((with_reducible apply v_call (pu := false)); exact rfl; exact ⟨rfl, rfl⟩; apply (has_icp _ _ _); rotate_left 3; (focus ((repeat' (first | exact .nil _ | refine .cons ?_ ?_ | exact .one (.d _ _) | exact .one psc_nilm | exact psc_nilm | exact .one (.nil _) | exact .one (.tape _) | exact .one (.fn _ _) | exact .agg (.same _ _) | refine .agg ?_ | exact .d _ _ | exact .one (.sl rfl rfl) | exact .one (.sl rfl (List.length_map _).symm) | exact .sl rfl rfl | exact .sl rfl (List.length_map _).symm | refine .one (PsC.ref rfl ?_) | refine PsC.ref rfl ?_ | refine .one (PsC.rp ?_) | refine PsC.rp ?_ | refine .one (PsC.clo ?_) | refine PsC.clo ?_ | exact .same _ _)) <;> fail)); exact .inr rfl; (first | with_reducible assumption | (apply chk_c; exact hP; (first | (guard_target = Prop; rotate_left 1) | skip))))
    | ((with_reducible apply v_call (pu := false)); exact rfl; exact ⟨rfl, rfl⟩; apply (has_icp ⟨_, _, _, _⟩ _ _); rotate_left 6; dsimp only [Cl.v_mk]; (focus ((repeat' (first | exact .nil _ | refine .cons ?_ ?_ | exact .one (.d _ _) | exact .one psc_nilm | exact psc_nilm | exact .one (.nil _) | exact .one (.tape _) | exact .one (.fn _ _) | exact .agg (.same _ _) | refine .agg ?_ | exact .d _ _ | exact .one (.sl rfl rfl) | exact .one (.sl rfl (List.length_map _).symm) | exact .sl rfl rfl | exact .sl rfl (List.length_map _).symm | refine .one (PsC.ref rfl ?_) | refine PsC.ref rfl ?_ | refine .one (PsC.rp ?_) | refine PsC.rp ?_ | refine .one (PsC.clo ?_) | refine PsC.clo ?_ | exact .same _ _)) <;> fail)); exact .inr rfl; (first | with_reducible assumption | (apply chk_c; exact hP; (first | (guard_target = Prop; rotate_left 1) | skip))))
    | ((with_reducible apply v_gs); exact rfl; exact rfl; (exact hP); all_goals (clear hP; intro hg hP))
    | ((with_reducible apply v_if); exact rfl; (exact hP); all_goals (clear hP; intro hc hP)))
noncomputable def rev2_V (c : Cl) (bit : Int) (r : RepR) (Q : SV → Prop) : Σ' P : Prop, (P → ICt 74 [r.v, .one c.p, .one (.rp [.d (.int .i64 bit)])] Q) := by
  apply mkV; intro hP
  refine ic_wk (K 10) Try.func74 rfl rfl rfl rfl (fun w0 => ?_)
  repeat' (first
    | ((fail_if_success (have hTest : Hld False := hP)); (have hq := chk_c hP); (replace hP := chk_p hP))
    | ((with_reducible apply j_lst); exact rfl)
    | (with_reducible (first | apply c_seq | apply c_rg | apply j_nil | apply q_n | apply c_bl | apply c_ex | apply c_ret | apply c_sk | apply q_r | apply q_e | apply b_r | apply b_e | apply b_n | apply n_n | apply n_r | apply n_e))
    | ((with_reducible apply c_l1); exact rfl; exact rfl)
    | ((with_reducible apply c_l2); exact rfl; exact rfl)
    | ((with_reducible apply c_l3); exact rfl)
    | ((with_reducible apply j_v); exact rfl; exact rfl)
    | ((with_reducible apply j_h); exact rfl; exact rfl)
    | ((with_reducible apply b_o); exact rfl)
    | ((with_reducible apply r_g); exact rfl; (· repeat' (first | exact True.intro | refine And.intro ?_ ?_ | (show (_ : Nat) = _; (first | exact rfl | exact (List.length_map _).symm | omega | (simp only [List.length_set, List.length_map, List.length_append] <;> omega) | (simp; done))))); (exact hP.out))
    | ((with_reducible apply v_call (pu := false)); exact rfl; exact ⟨rfl, rfl⟩; apply (has_icp _ _ _); rotate_left 3; (focus ((repeat' (first | exact .nil _ | refine .cons ?_ ?_ | exact .one (.d _ _) | exact .one psc_nilm | exact psc_nilm | exact .one (.nil _) | exact .one (.tape _) | exact .one (.fn _ _) | exact .agg (.same _ _) | refine .agg ?_ | exact .d _ _ | exact .one (.sl rfl rfl) | exact .one (.sl rfl (List.length_map _).symm) | exact .sl rfl rfl | exact .sl rfl (List.length_map _).symm | refine .one (PsC.ref rfl ?_) | refine PsC.ref rfl ?_ | refine .one (PsC.rp ?_) | refine PsC.rp ?_ | refine .one (PsC.clo ?_) | refine PsC.clo ?_ | exact .same _ _)) <;> fail)); exact .inr rfl; (first | with_reducible assumption | (apply chk_c; exact hP; (first | (guard_target = Prop; rotate_left 1) | skip))))
    | ((with_reducible apply v_call (pu := false)); exact rfl; exact ⟨rfl, rfl⟩; apply (has_icp ⟨_, _, _, _⟩ _ _); rotate_left 6; dsimp only [Cl.v_mk]; (focus ((repeat' (first | exact .nil _ | refine .cons ?_ ?_ | exact .one (.d _ _) | exact .one psc_nilm | exact psc_nilm | exact .one (.nil _) | exact .one (.tape _) | exact .one (.fn _ _) | exact .agg (.same _ _) | refine .agg ?_ | exact .d _ _ | exact .one (.sl rfl rfl) | exact .one (.sl rfl (List.length_map _).symm) | exact .sl rfl rfl | exact .sl rfl (List.length_map _).symm | refine .one (PsC.ref rfl ?_) | refine PsC.ref rfl ?_ | refine .one (PsC.rp ?_) | refine PsC.rp ?_ | refine .one (PsC.clo ?_) | refine PsC.clo ?_ | exact .same _ _)) <;> fail)); exact .inr rfl; (first | with_reducible assumption | (apply chk_c; exact hP; (first | (guard_target = Prop; rotate_left 1) | skip))))
    | ((with_reducible apply v_gs); exact rfl; exact rfl; (exact hP); all_goals (clear hP; intro hg hP))
    | ((with_reducible apply v_if); exact rfl; (exact hP); all_goals (clear hP; intro hc hP)))
def inS (c : Cl) (g : Int) : Bool := inB g 0 ((c.sets.length : Int) - 1)
theorem inS_iff {c : Cl} {g : Int} : inS c g = true ↔ 0 ≤ g ∧ g < c.sets.length := by unfold inS; rw [inB_iff]; omega
theorem some1_fn (c : Cl) (bit : Int) : FnC 79 [c.p, .rp [.d (.int .i64 bit)]] (pRD (fun r => inS c r.gen) (fun r => liveB c r bit)) := fnRD (enters_of Try.func79 rfl rfl) fun r hr => (some1_V c bit r _).2 (by
  (delta some1_V; dsimp only [mkV])
  (repeat' (first | with_reducible refine brn_nd (fun h => ?_) (fun h => ?_) | with_reducible refine brn_d (fun h => ?_) (fun h => ?_) | with_reducible refine brn_nn (fun h => ?_) (fun h => ?_) | with_reducible refine brn_nb (fun h => ?_) (fun h => ?_) | with_reducible refine Brn.mk (fun h => ?_) (fun h => ?_) | with_reducible refine Chk.mk ?_ ?_ | with_reducible refine Bth.mk ?_ ?_ | with_reducible refine Fct.mk (fun hf => ?_)))
  · exact inS_iff.1 hr
  · rfl)
theorem rev1_fn (c : Cl) (bit : Int) : FnC 72 [c.p, .rp [.d (.int .i64 bit)]] (pID (fun g => inS c g) (fun g => bitOn (c.set g) bit)) := fnID (enters_of Try.func72 rfl rfl) fun r hr => (rev1_V c bit r _).2 (by
  (delta rev1_V; dsimp only [mkV])
  (repeat' (first | with_reducible refine brn_nd (fun h => ?_) (fun h => ?_) | with_reducible refine brn_d (fun h => ?_) (fun h => ?_) | with_reducible refine brn_nn (fun h => ?_) (fun h => ?_) | with_reducible refine brn_nb (fun h => ?_) (fun h => ?_) | with_reducible refine Brn.mk (fun h => ?_) (fun h => ?_) | with_reducible refine Chk.mk ?_ ?_ | with_reducible refine Bth.mk ?_ ?_ | with_reducible refine Fct.mk (fun hf => ?_)))
  · exact inS_iff.1 hr
  · rfl)
theorem rev2_fn (c : Cl) (bit : Int) : FnC 74 [c.p, .rp [.d (.int .i64 bit)]] (pRD (fun r => inS c r.gen) (fun r => bitOn (c.set r.gen) bit)) := fnRD (enters_of Try.func74 rfl rfl) fun r hr => (rev2_V c bit r _).2 (by
  (delta rev2_V; dsimp only [mkV])
  (repeat' (first | with_reducible refine brn_nd (fun h => ?_) (fun h => ?_) | with_reducible refine brn_d (fun h => ?_) (fun h => ?_) | with_reducible refine brn_nn (fun h => ?_) (fun h => ?_) | with_reducible refine brn_nb (fun h => ?_) (fun h => ?_) | with_reducible refine Brn.mk (fun h => ?_) (fun h => ?_) | with_reducible refine Chk.mk ?_ ?_ | with_reducible refine Bth.mk ?_ ?_ | with_reducible refine Fct.mk (fun hf => ?_)))
  · exact inS_iff.1 hr
  · rfl)
end Go.Proofs.Ytpneplgaeiomkaa
