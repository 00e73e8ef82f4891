/- Directories: Proves, Ascending, Closed. -/
import Derived.Test.YtoflahjlnbligaaEh
set_option linter.all false
set_option maxRecDepth 20000
set_option maxHeartbeats 4000000
namespace Go.Proofs.Ytoflahjlnbligaa
open Go.RowKit Go.Shelf
noncomputable def pB (P : Prop) : Bool := @decide P (Classical.propDecidable P)
theorem pB_iff {P : Prop} : pB P = true ↔ P := @decide_eq_true_iff P (Classical.propDecidable P)
theorem pB_t {P : Prop} (h : P) : bv true = bv (pB P) := congrArg bv (pB_iff.2 h).symm
theorem pB_f {P : Prop} (h : ¬ P) : bv false = bv (pB P) := congrArg bv (Bool.eq_false_iff.2 fun e => h (pB_iff.1 e)).symm
theorem pB_no {P : Prop} (h : pB P = false) : ¬ P := fun e => by rw [pB_iff.2 e] at h; cases h
theorem ok0 {d : Dir} (h : (if dirB d = true then (0 : Int) else 30) = 0) : dirB d = true := by
  by_cases e : dirB d = true
  · exact e
  · rw [if_neg e] at h; cases h
noncomputable def Asc_V (l : List Int) (Q : SV → Prop) : Σ' P : Prop, (P → ICt 71 [.one (.d (.list (List.map irow l)))] Q) := by
  apply mkV; intro hP
  refine ic_wk (K 20) Try.func71 rfl rfl rfl rfl (fun w0 => ?_)
  repeat' (first
    | ((fail_if_success (have hTest : Hld False := hP)); (have hq := chk_c hP); (replace hP := chk_p hP))
    | (with_reducible (first | apply c_seq | apply c_rg | apply j_nil | apply q_n | apply c_bl | apply c_ex | apply c_ret | apply c_sk | apply q_r | apply q_e | apply b_r | apply b_e | apply b_n | apply n_n | apply n_r | apply n_e))
    | ((with_reducible apply j_v); exact rfl; exact rfl)
    | ((with_reducible apply v_lenm); exact rfl; exact rfl; exact rfl; (exact hP); clear hP; intro hP)
    | ((with_reducible apply j_add); exact rfl; exact rfl; exact rfl; (with_reducible apply wr_i64; (apply chk_c; exact hP; (first | skip))))
    | ((with_reducible apply r_g); exact rfl; (· repeat' (first | exact True.intro | refine And.intro ?_ ?_)); (exact hP.out))
    | ((with_reducible refine v_loopat (c := (.seq (.seq (.region 2 _ _) _) _)) ?_); (apply (v_loop1 _ [0] [] (fun x1 => [(3, .one (.d (.int .i64 x1)))]) (fun x1 => []) [])); exact rfl; exact rfl; exact ⟨(by repeat' (first | exact .nil | refine .cons ?_ ?_ | exact SVle_pl rfl)), (by repeat' (first | exact .nil))⟩; (exact hP); clear hP; intro I μ x1 hP)
    | ((with_reducible apply (v_nxt1 (a1 := _))); (repeat' (first | exact .nil | refine .cons ?_ ?_ | exact SVle_pl rfl)); (repeat' (first | exact .nil | exact .nil _ | refine .cons ?_ ?_ | exact .u _ | exact SVle_pl rfl | refine .one ?_ | refine .agg ?_ | exact .d rfl | exact .ref rfl rfl | exact .sl rfl (by first | rfl | exact List.length_set.symm | exact (splT_len (by simp only [List.length_take, List.length_drop]; omega)).symm | omega | (rw [List.length_append, List.length_map]; show _ + 1 = _; omega) | simp) | exact .fn _ | exact .tape | exact .nils rfl | exact .nild | exact .nildm | exact .nil | exact .rp (by simp) | exact .clo (by simp) | exact .el rfl rfl rfl | exact .d (by first | rfl | (congr 1; omega) | (congr 1; assumption) | simp) | exact .virt rfl | exact .gone _ | refine .blk rfl ?_ | exact .arr rfl (by first | rfl | assumption | simp))); (exact hP))
    | ((with_reducible refine v_rgat (i := 4) ?_); (refine n_start (by kernel_rfl) ?_; (refine n_quiet none #[true, true, true, true, true, true, true, true, true, true] [0, 1, 2, 3, 4, 5, 6, 7, 8, 9] 0 rfl ?_; (repeat' (first | ((fail_if_success (have hTest : Hld False := hP)); (have hq := chk_c hP); (replace hP := chk_p hP)) | ((with_reducible apply (d_e (some []))); exact rfl; exact rfl; kernel_rfl; kernel_rfl; exact rfl; exact rfl; (first | ((with_reducible apply e_v); exact rfl) | ((with_reducible apply e_sub); exact rfl; exact rfl; (with_reducible apply wr_i64; (apply chk_c; exact hP; (first | skip)))) | ((with_reducible apply f_ia); exact rfl; exact rfl; exact rfl; (case inst => exact inferInstance); exact rfl; exact rfl; (apply chk_c; exact hP; (first | skip))))) | ((with_reducible apply d_leaf); exact (by decide +kernel)))); all_goals ((with_reducible apply n_doneZ); exact rfl; exact (by decide +kernel)))))
    | ((with_reducible apply v_if); exact rfl; (exact hP); all_goals (clear hP; intro hc hP)))
def AscP (l : List Int) : Prop := ∀ i : Nat, i + 1 < l.length → gt l (i : Int) < gt l ((i : Int) + 1)
theorem Asc_ic (l : List Int) : ICt 71 [lv l] (fun v => v = bv (pB (AscP l))) := (Asc_V l _).2 (by
  (delta Asc_V; dsimp only [mkV])
  refine lp1 (fun z => 1 ≤ z ∧ (z ≤ (l.length : Int) ∨ z = 1) ∧ ∀ i : Nat, (i : Int) + 1 < z → gt l (i : Int) < gt l ((i : Int) + 1)) (fun z => ((l.length : Int) - z).toNat) ⟨by omega, .inr rfl, fun i hi => by omega⟩ ?_
  rintro I μ nx z ⟨h0, h1, hj⟩
  (repeat' (first | with_reducible refine brn_nd (fun h => ?_) (fun h => ?_) | with_reducible refine brn_d (fun h => ?_) (fun h => ?_) | with_reducible refine brn_nn (fun h => ?_) (fun h => ?_) | with_reducible refine brn_nb (fun h => ?_) (fun h => ?_) | with_reducible refine Brn.mk (fun h => ?_) (fun h => ?_) | with_reducible refine Chk.mk ?_ ?_ | with_reducible refine Bth.mk ?_ ?_ | with_reducible refine Fct.mk (fun hf => ?_)))
  · omega
  · omega
  · omega
  · refine pB_f fun hh => ?_
    have := hh (z - 1).toNat (by omega)
    rw [show (((z - 1).toNat : Nat) : Int) = z - 1 by omega, show z - 1 + 1 = z by omega] at this
    omega
  · omega
  · refine nx _ _ ⟨h0, h1, hj⟩ ⟨by omega, .inl (by omega), fun i hi => ?_⟩ (by omega)
    by_cases e : (i : Int) + 1 < z
    · exact hj i e
    · rw [show (i : Int) = z - 1 by omega, show z - 1 + 1 = z by omega]; omega
  · exact pB_t fun i hi => hj i (by omega))
noncomputable def cl1_V (p : Int) (d : Dir) (Q : SV → Prop) : Σ' P : Prop, (P → ICt 82 [iv p, .one (.rp (d.row.map .d))] Q) := by
  apply mkV; intro hP
  refine ic_wk (K 8) Try.func82 rfl rfl rfl rfl (fun w0 => ?_)
  repeat' (first
    | (with_reducible (first | apply c_seq | apply c_rg | apply j_nil | apply q_n | apply c_ret))
    | ((with_reducible apply j_v); exact rfl; exact rfl)
    | ((with_reducible apply r_g); exact rfl; (· repeat' (first | exact True.intro | refine And.intro ?_ ?_)); (exact hP.out))
    | ((with_reducible apply j_call (pu := false)); exact rfl; (apply (dexists_ic _ _); rotate_left 2); (focus ((repeat' (first | exact .nil _ | refine PsL.cons ?_ ?_ | refine PsSL.cons ?_ ?_ | exact .one (.d _ _) | refine .agg ?_ | exact .d _ _)) <;> fail)); exact .inr rfl))
theorem cl1_ic (p : Int) (d : Dir) : ICt 82 [iv p, .one (.rp (d.row.map .d))] (fun v => v = bv (!d.ex p)) := (cl1_V p d _).2 (by
  (delta cl1_V; dsimp only [mkV]))
theorem cl1_fn (d : Dir) : FnC 82 [.rp (d.row.map .d)] (pI fun p => !d.ex p) := fnI (fun p => cl1_ic p d) 0
noncomputable def Closed_V (d : Dir) (t : Int) (set : List Int) (Q : SV → Prop) : Σ' P : Prop, (P → ICt 43 [.agg (List.map .d (Dir.row d)), .one (.d (.int .i64 t)), .one (.d (.list (List.map irow set)))] Q) := by
  apply mkV; intro hP
  refine ic_wk (K 50) Try.func43 rfl rfl rfl rfl (fun w0 => ?_)
  apply (v_kint (x := 1)); exact rfl; exact hP; clear hP; intro hP
  repeat' (first
    | ((fail_if_success (have hTest : Hld False := hP)); (have hq := chk_c hP); (replace hP := chk_p hP))
    | (with_reducible (first | apply c_seq | apply c_rg | apply j_nil | apply q_n | apply g_ff | apply c_ct | apply c_bl | apply c_ex | apply c_ret | apply c_sk | apply q_r | apply q_e | apply b_r | apply b_e | apply b_n | apply n_n | apply n_r | apply n_e))
    | ((with_reducible apply c_l1); exact rfl; exact rfl)
    | ((with_reducible apply j_v); exact rfl; exact rfl)
    | ((with_reducible apply j_h); exact rfl; exact rfl)
    | ((with_reducible apply j_g); exact rfl; exact rfl; (first | with_reducible assumption | with_reducible exact Eq.refl true))
    | ((with_reducible apply g_tf); exact rfl)
    | ((with_reducible apply v_lenm); exact rfl; exact rfl; exact rfl; (exact hP); clear hP; intro hP)
    | ((with_reducible apply v_lens); exact rfl; exact rfl; exact rfl; (exact hP); clear hP; intro hP)
    | ((with_reducible apply j_pk); exact rfl; exact rfl; (first | with_reducible assumption | with_reducible exact Eq.refl true); exact rfl)
    | ((with_reducible apply j_ld_el1); exact rfl; exact rfl; exact rfl; exact rfl; (first | exact gt_row (by omega) (by omega)); exact rfl)
    | ((with_reducible apply j_add); exact rfl; exact rfl; exact rfl; (with_reducible apply wr_i64; (apply chk_c; exact hP; (first | skip))))
    | ((with_reducible apply v_ia); exact rfl; exact rfl; exact rfl; exact rfl; (case inst => exact inferInstance); exact rfl; exact rfl; (apply chk_c; exact hP; (first | skip)))
    | ((with_reducible apply v_iasl); exact rfl; exact rfl; exact rfl; exact rfl; (apply chk_c; exact hP; (first | skip)))
    | ((with_reducible apply c_c); exact rfl; (first | with_reducible exact Eq.refl true))
    | ((with_reducible apply r_g); exact rfl; (· repeat' (first | exact True.intro | refine And.intro ?_ ?_)); (exact hP.out))
    | ((with_reducible apply j_call (pu := false)); exact rfl; (first | (apply (dCheck_ic _); rotate_left 1) | (apply (Asc_ic _); rotate_left 1) | (apply (sContains_ic _ _); rotate_left 2) | (apply (hasI_ic _ _); rotate_left 2)); (focus ((repeat' (first | (apply (PsS.cfn _ (cl1_fn _)); (focus (repeat' (first | exact .nil _ | refine PsL.cons ?_ ?_ | refine PsSL.cons ?_ ?_ | exact .one (.d _ _) | exact .one (.nil _) | exact .one (.tape _) | exact .one (.fn _ _) | exact .agg (.same _ _) | refine .agg ?_ | exact .d _ _ | exact .one (.sl rfl rfl) | exact .sl rfl rfl | refine .one (PsC.ref rfl ?_) | refine PsC.ref rfl ?_ | refine .one (PsC.rp ?_) | refine PsC.rp ?_ | refine .one (PsC.clo ?_) | refine PsC.clo ?_ | exact .same _ _)))) | exact .nil _ | refine PsL.cons ?_ ?_ | refine PsSL.cons ?_ ?_ | exact .one (.d _ _) | refine .agg ?_ | exact .d _ _ | refine PsC.ref rfl ?_)) <;> fail)); exact .inr rfl)
    | ((with_reducible apply v_call (pu := true)); exact rfl; exact ⟨rfl, rfl⟩; (apply (at23_ic _ _); rotate_left 2); (focus ((repeat' (first | exact .nil _ | refine PsL.cons ?_ ?_ | refine PsSL.cons ?_ ?_ | exact .one (.d _ _) | refine .agg ?_ | exact .d _ _)) <;> fail)); exact .inl rfl; (apply chk_c; exact hP; (first | skip)))
    | ((with_reducible apply v_colp); exact rfl; exact ⟨rfl, rfl⟩; (apply (those_ico _); rotate_left 1); (focus ((repeat' (first | exact .nil _ | refine PsSL.cons ?_ ?_ | exact .one (.d _ _))) <;> fail)); exact (fun _ => rfl); exact rfl; (apply chk_c; exact hP; (first | skip)))
    | ((with_reducible refine v_loopat (c := (.seq (.region 5 _ _) _)) ?_); (apply (v_loop1 _ [2, 7, 28, 29] [] (fun x1 => [(30, .one (.d (.int .i64 x1)))]) (fun x1 => []) [])); exact rfl; exact rfl; exact ⟨(by repeat' (first | exact .nil | refine .cons ?_ ?_ | exact SVle_pl rfl)), (by repeat' (first | exact .nil))⟩; (exact hP); clear hP; intro I μ x1 hP)
    | ((with_reducible apply (v_nxt1 (a1 := _))); (repeat' (first | exact .nil | refine .cons ?_ ?_ | exact SVle_pl rfl | refine .one ?_ | exact .sl rfl (by first | rfl | exact List.length_set.symm | exact (splT_len (by simp only [List.length_take, List.length_drop]; omega)).symm | omega | (rw [List.length_append, List.length_map]; show _ + 1 = _; omega) | simp) | exact .arr rfl (by first | rfl | assumption | simp))); (repeat' (first | exact .nil | exact .nil _ | refine .cons ?_ ?_ | exact .u _ | exact SVle_pl rfl | refine .one ?_ | refine .agg ?_ | exact .d rfl | exact .ref rfl rfl | exact .sl rfl (by first | rfl | exact List.length_set.symm | exact (splT_len (by simp only [List.length_take, List.length_drop]; omega)).symm | omega | (rw [List.length_append, List.length_map]; show _ + 1 = _; omega) | simp) | exact .fn _ | exact .tape | exact .nils rfl | exact .nild | exact .nildm | exact .nil | exact .rp (by simp) | exact .clo (by simp) | exact .el rfl rfl rfl | exact .d (by first | rfl | (congr 1; omega) | (congr 1; assumption) | simp) | exact .virt rfl | exact .gone _ | refine .blk rfl ?_ | exact .arr rfl (by first | rfl | assumption | simp))); (exact hP))
    | ((with_reducible refine v_loopat (c := (.seq (.region 8 _ _) _)) ?_); (apply (v_loop1 _ [2, 7, 28, 29, 30, 38, 39] [38] (fun x1 => [(40, .one (.d (.int .i64 x1)))]) (fun x1 => []) [])); exact rfl; exact rfl; exact ⟨(by repeat' (first | exact .nil | refine .cons ?_ ?_ | exact SVle_pl rfl | refine .one ?_ | exact .sl rfl (by first | rfl | omega | (rw [List.length_append, List.length_map]; show _ + 1 = _; omega) | simp))), (by repeat' (first | exact .nil | refine .cons ?_ ?_ | exact .arr rfl (by first | rfl | assumption | simp)))⟩; (exact hP); clear hP; intro I μ x1 hP)
    | ((with_reducible apply v_gs); exact rfl; exact rfl; (exact hP); all_goals (clear hP; intro hg hP))
    | ((with_reducible apply v_if); exact rfl; (exact hP); all_goals (clear hP; intro hc hP)))
noncomputable def Proves_V (d : Dir) (t : Int) (c : List Int) (Q : SV → Prop) : Σ' P : Prop, (P → ICt 46 [.agg (List.map .d (Dir.row d)), .one (.d (.int .i64 t)), .one (.d (.list (List.map irow c)))] Q) := by
  apply mkV; intro hP
  refine ic_wk (K 58) Try.func46 rfl rfl rfl rfl (fun w0 => ?_)
  apply (v_kint (x := 1)); exact rfl; exact hP; clear hP; intro hP
  repeat' (first
    | ((fail_if_success (have hTest : Hld False := hP)); (have hq := chk_c hP); (replace hP := chk_p hP))
    | (with_reducible (first | apply c_seq | apply c_rg | apply j_nil | apply q_n | apply g_tt | apply g_ff | apply c_ct | apply c_cf | apply c_bl | apply c_ex | apply c_ret | apply c_sk | apply q_r | apply q_e | apply b_r | apply b_e | apply b_n | apply n_n | apply n_r | apply n_e))
    | ((with_reducible apply v_sh); exact rfl; exact rfl; exact rfl; exact rfl; exact (fun _ => rfl); (apply chk_c; exact hP; (first | skip)))
    | ((with_reducible apply c_l1); exact rfl; exact rfl)
    | ((with_reducible apply j_v); exact rfl; exact rfl)
    | ((with_reducible apply j_h); exact rfl; exact rfl)
    | ((with_reducible apply j_g); exact rfl; exact rfl; (first | with_reducible assumption | with_reducible exact Eq.refl true))
    | ((with_reducible apply g_tf); exact rfl)
    | ((with_reducible apply g_ft); exact rfl)
    | ((with_reducible apply j_gz); exact rfl; exact rfl; exact rfl)
    | ((with_reducible apply v_lenm); exact rfl; exact rfl; exact rfl; (exact hP); clear hP; intro hP)
    | ((with_reducible apply j_pk); exact rfl; exact rfl; (first | with_reducible assumption | with_reducible exact Eq.refl true); exact rfl)
    | ((with_reducible apply j_add); exact rfl; exact rfl; exact rfl; (with_reducible apply wr_i64; (apply chk_c; exact hP; (first | skip))))
    | ((with_reducible apply j_sub); exact rfl; exact rfl; exact rfl; (with_reducible apply wr_i64; (apply chk_c; exact hP; (first | skip))))
    | ((with_reducible apply v_ia); exact rfl; exact rfl; exact rfl; exact rfl; (case inst => exact inferInstance); exact rfl; exact rfl; (apply chk_c; exact hP; (first | skip)))
    | ((with_reducible apply c_c); exact rfl; (first | with_reducible exact Eq.refl true | with_reducible exact Eq.refl false))
    | ((with_reducible apply r_g); exact rfl; (· repeat' (first | exact True.intro | refine And.intro ?_ ?_)); (exact hP.out))
    | ((with_reducible apply j_call (pu := false)); exact rfl; (first | (apply (dCheck_ic _); rotate_left 1) | (apply (sContains_ic _ _); rotate_left 2) | (apply (dexists_ic _ _); rotate_left 2)); (focus ((repeat' (first | exact .nil _ | refine PsL.cons ?_ ?_ | refine PsSL.cons ?_ ?_ | exact .one (.d _ _) | refine .agg ?_ | exact .d _ _)) <;> fail)); exact .inr rfl)
    | ((with_reducible apply v_call (pu := true)); exact rfl; exact ⟨rfl, rfl⟩; (apply (at23_ic _ _); rotate_left 2); (focus ((repeat' (first | exact .nil _ | refine PsL.cons ?_ ?_ | refine PsSL.cons ?_ ?_ | exact .one (.d _ _) | refine .agg ?_ | exact .d _ _)) <;> fail)); exact .inl rfl; (apply chk_c; exact hP; (first | skip)))
    | ((with_reducible refine v_loopat (c := (.seq (.region 5 _ _) _)) ?_); (apply (v_loop1 _ [2, 3, 7, 21, 22] [3] (fun x1 => [(23, .one (.d (.int .i64 x1)))]) (fun x1 => []) [])); exact rfl; exact rfl; exact ⟨(by repeat' (first | exact .nil | refine .cons ?_ ?_ | exact SVle_pl rfl | refine .one ?_ | exact .ref rfl rfl)), (by repeat' (first | exact .nil | refine .cons ?_ ?_ | exact .d rfl | refine .blk rfl ?_))⟩; (exact hP); clear hP; intro I μ x1 hP)
    | ((with_reducible apply (v_nxt1 (a1 := _))); (repeat' (first | exact .nil | refine .cons ?_ ?_ | exact SVle_pl rfl | refine .one ?_ | exact .d rfl | exact .ref rfl rfl | refine .blk rfl ?_)); (repeat' (first | exact .nil | exact .nil _ | refine .cons ?_ ?_ | exact .u _ | exact SVle_pl rfl | refine .one ?_ | refine .agg ?_ | exact .d rfl | exact .ref rfl rfl | exact .sl rfl (by first | rfl | exact List.length_set.symm | exact (splT_len (by simp only [List.length_take, List.length_drop]; omega)).symm | omega | (rw [List.length_append, List.length_map]; show _ + 1 = _; omega) | simp) | exact .fn _ | exact .tape | exact .nils rfl | exact .nild | exact .nildm | exact .nil | exact .rp (by simp) | exact .clo (by simp) | exact .el rfl rfl rfl | exact .d (by first | rfl | (congr 1; omega) | (congr 1; assumption) | simp) | exact .virt rfl | exact .gone _ | refine .blk rfl ?_ | exact .arr rfl (by first | rfl | assumption | simp))); (exact hP))
    | ((with_reducible apply v_gs); exact rfl; exact rfl; (exact hP); all_goals (clear hP; intro hg hP))
    | ((with_reducible apply v_if); exact rfl; (exact hP); all_goals (clear hP; intro hc hP)))
def ClsP (d : Dir) (t : Int) (s : List Int) : Prop := dirB d = true ∧ AscP s ∧ (∀ p ∈ s, d.ex p = true) ∧ ∀ p ∈ s, ∀ g : Int, 0 ≤ g → g < (d.kinds.length : Int) → d.edge t p g = true → g ∈ s
def PrvP (d : Dir) (t : Int) (c : List Int) : Prop := dirB d = true ∧ 2 ≤ c.length ∧ (∀ x ∈ c, d.ex x = true) ∧ c.Nodup ∧ ∀ i : Nat, i + 1 < c.length → d.edge t (gt c (i : Int)) (gt c ((i : Int) + 1)) = true
theorem atT_row {d : Dir} {t p : Int} (h0 : 0 ≤ p) (h : p < (d.kinds.length : Int)) : (gt (atT d t) p).length = d.kinds.length := tblL_rowlen h0 h
theorem atT_cell {d : Dir} {t p g : Int} (h0 : 0 ≤ p) (h : p < (d.kinds.length : Int)) (g0 : 0 ≤ g) (g1 : g < (d.kinds.length : Int)) : gt (gt (atT d t) p) g = d.edge t p g := tblL_cell h0 h g0 g1
theorem Closed_ic (d : Dir) (t : Int) (s : List Int) : ICt 43 [d.v, iv t, lv s] (fun v => v = bv (pB (ClsP d t s))) := (Closed_V d t s _).2 (by
  have hal := atT_len d t
  (delta Closed_V; dsimp only [mkV])
  (repeat' (first | with_reducible refine brn_nd (fun h => ?_) (fun h => ?_) | with_reducible refine brn_d (fun h => ?_) (fun h => ?_) | with_reducible refine brn_nn (fun h => ?_) (fun h => ?_) | with_reducible refine brn_nb (fun h => ?_) (fun h => ?_) | with_reducible refine Brn.mk (fun h => ?_) (fun h => ?_) | with_reducible refine Chk.mk ?_ ?_ | with_reducible refine Bth.mk ?_ ?_ | with_reducible refine Fct.mk (fun hf => ?_)))
  · refine pB_f fun hh => ?_
    rw [if_pos hh.1] at *
    simp_all
  · exact pB_f fun hh => pB_no (by assumption) hh.2.1
  · refine pB_f fun hh => ?_
    have := (by assumption : (s.any fun p => !d.ex p) = true)
    obtain ⟨q, hq, hq2⟩ := List.any_eq_true.1 this
    rw [hh.2.2.1 q hq] at hq2
    cases hq2
  all_goals (have hd := ok0 (by assumption))
  · exact hd
  have hasc : AscP s := pB_iff.1 (by assumption)
  have hex : ∀ p ∈ s, d.ex p = true := fun p hp => by
    have := List.any_eq_false.1 (by assumption : (s.any fun p => !d.ex p) = false) p hp
    simpa using this
  have hxn := (dirB_iff.1 hd).1
  refine up1 (fun z => ∀ i : Nat, (i : Int) < z → ∀ g : Int, 0 ≤ g → g < (d.kinds.length : Int) → d.edge t (gt s (i : Int)) g = true → g ∈ s) (by omega) (fun i hi => by omega) ?_ ?_
  · rintro I μ z h0 h1 hj nx
    have hp := ex_iff.1 (hex _ (gt_mem h0 h1))
    have hrl := atT_row (t := t) hp.1 hp.2
    (repeat' (first | with_reducible refine brn_nd (fun h => ?_) (fun h => ?_) | with_reducible refine brn_d (fun h => ?_) (fun h => ?_) | with_reducible refine brn_nn (fun h => ?_) (fun h => ?_) | with_reducible refine brn_nb (fun h => ?_) (fun h => ?_) | with_reducible refine Brn.mk (fun h => ?_) (fun h => ?_) | with_reducible refine Chk.mk ?_ ?_ | with_reducible refine Bth.mk ?_ ?_ | with_reducible refine Fct.mk (fun hf => ?_)))
    · omega
    · exact ⟨hp.1, by omega⟩
    · omega
    · refine up1 (fun y => ∀ k : Nat, (k : Int) < y → gt (thoS (gt (atT d t) (gt s z))) (k : Int) ∈ s) (by omega) (fun i hi => by omega) ?_ ?_
      · rintro I1 μ1 y y0 y1 hk nx1
        (repeat' (first | with_reducible refine brn_nd (fun h => ?_) (fun h => ?_) | with_reducible refine brn_d (fun h => ?_) (fun h => ?_) | with_reducible refine brn_nn (fun h => ?_) (fun h => ?_) | with_reducible refine brn_nb (fun h => ?_) (fun h => ?_) | with_reducible refine Brn.mk (fun h => ?_) (fun h => ?_) | with_reducible refine Chk.mk ?_ ?_ | with_reducible refine Bth.mk ?_ ?_ | with_reducible refine Fct.mk (fun hf => ?_)))
        · omega
        · refine pB_f fun hh => ?_
          have h5 := mem_thoS.1 (gt_mem y0 y1)
          rw [hrl] at h5
          rw [atT_cell hp.1 hp.2 h5.1.1 h5.1.2] at h5
          have h6 := hh.2.2.2 _ (gt_mem h0 h1) _ h5.1.1 h5.1.2 h5.2
          have h7 : hasB s (gt (thoS (gt (atT d t) (gt s z))) y) = false := by assumption
          exact of_decide_eq_false h7 h6
        · omega
        · refine nx1 fun k hk' => ?_
          by_cases e : (k : Int) < y
          · exact hk k e
          · have h7 : hasB s (gt (thoS (gt (atT d t) (gt s z))) y) = true := by assumption
            rw [show (k : Int) = y by omega]
            exact of_decide_eq_true h7
      · rintro I1 μ1 hk
        (repeat' (first | with_reducible refine brn_nd (fun h => ?_) (fun h => ?_) | with_reducible refine brn_d (fun h => ?_) (fun h => ?_) | with_reducible refine brn_nn (fun h => ?_) (fun h => ?_) | with_reducible refine brn_nb (fun h => ?_) (fun h => ?_) | with_reducible refine Brn.mk (fun h => ?_) (fun h => ?_) | with_reducible refine Chk.mk ?_ ?_ | with_reducible refine Bth.mk ?_ ?_ | with_reducible refine Fct.mk (fun hf => ?_)))
        · omega
        · refine nx fun i hi g g0 g1 hg => ?_
          by_cases e : (i : Int) < z
          · exact hj i e g g0 g1 hg
          · rw [show (i : Int) = z by omega] at hg
            have hm : g ∈ thoS (gt (atT d t) (gt s z)) := mem_thoS.2 ⟨⟨g0, by rw [hrl]; exact g1⟩, by rw [atT_cell hp.1 hp.2 g0 g1]; exact hg⟩
            obtain ⟨k, hk1, rfl⟩ := mem_gt hm
            exact hk k (by omega)
  · rintro I μ hj
    refine pB_t ⟨hd, hasc, hex, fun p hp g g0 g1 hg => ?_⟩
    obtain ⟨i, hi, rfl⟩ := mem_gt hp
    exact hj i (by omega) g g0 g1 hg)
theorem Proves_ic (d : Dir) (t : Int) (c : List Int) : ICt 46 [d.v, iv t, lv c] (fun v => v = bv (pB (PrvP d t c))) := (Proves_V d t c _).2 (by
  have hal := atT_len d t
  (delta Proves_V; dsimp only [mkV])
  (repeat' (first | with_reducible refine brn_nd (fun h => ?_) (fun h => ?_) | with_reducible refine brn_d (fun h => ?_) (fun h => ?_) | with_reducible refine brn_nn (fun h => ?_) (fun h => ?_) | with_reducible refine brn_nb (fun h => ?_) (fun h => ?_) | with_reducible refine Brn.mk (fun h => ?_) (fun h => ?_) | with_reducible refine Chk.mk ?_ ?_ | with_reducible refine Bth.mk ?_ ?_ | with_reducible refine Fct.mk (fun hf => ?_)))
  · refine pB_f fun hh => ?_
    rw [if_pos hh.1] at *
    simp_all
  · exact pB_f fun hh => by have := hh.2.1; omega
  all_goals (have hd := ok0 (by assumption))
  · exact hd
  have hxn := (dirB_iff.1 hd).1
  refine up1 (fun z => (∀ i : Nat, (i : Int) < z → d.ex (gt c (i : Int)) = true) ∧ (c.take z.toNat).Nodup ∧ ∀ i : Nat, (i : Int) + 1 < z → d.edge t (gt c (i : Int)) (gt c ((i : Int) + 1)) = true) (by omega) ⟨fun i hi => by omega, by simp, fun i hi => by omega⟩ ?_ ?_
  · rintro I μ z h0 h1 ⟨j1, j2, j3⟩ nx
    have pz : ∀ h : 0 < z, 0 ≤ gt c (z - 1) ∧ gt c (z - 1) < (d.kinds.length : Int) := fun h => by
      have := j1 (z - 1).toNat (by omega)
      rw [show (((z - 1).toNat : Nat) : Int) = z - 1 by omega] at this
      exact ex_iff.1 this
    have hnx : d.ex (gt c z) = true → hasB (c.take z.toNat) (gt c z) = false → (0 < z → d.edge t (gt c (z - 1)) (gt c z) = true) → I (z + 1) ∧ μ (z + 1) < μ z := fun a1 a2 a3 => by
      refine nx ⟨fun i hi => ?_, ?_, fun i hi => ?_⟩
      · by_cases e : (i : Int) < z
        · exact j1 i e
        · rw [show (i : Int) = z by omega]; exact a1
      · rw [show (z + 1).toNat = z.toNat + 1 by omega, take_snoc (by omega), show ((z.toNat : Nat) : Int) = z by omega]
        refine List.nodup_append.2 ⟨j2, by simp, fun a ha b hb => ?_⟩
        simp at hb
        subst hb
        intro e
        subst e
        exact of_decide_eq_false a2 ha
      · by_cases e : (i : Int) + 1 < z
        · exact j3 i e
        · have := a3 (by omega)
          rw [show (i : Int) = z - 1 by omega, show z - 1 + 1 = z by omega]; exact this
    (repeat' (first | with_reducible refine brn_nd (fun h => ?_) (fun h => ?_) | with_reducible refine brn_d (fun h => ?_) (fun h => ?_) | with_reducible refine brn_nn (fun h => ?_) (fun h => ?_) | with_reducible refine brn_nb (fun h => ?_) (fun h => ?_) | with_reducible refine Brn.mk (fun h => ?_) (fun h => ?_) | with_reducible refine Chk.mk ?_ ?_ | with_reducible refine Bth.mk ?_ ?_ | with_reducible refine Fct.mk (fun hf => ?_)))
    · omega
    · refine pB_f fun hh => ?_
      have := hh.2.2.1 _ (gt_mem h0 h1)
      simp_all
    · omega
    · refine pB_f fun hh => ?_
      have h5 : hasB (c.take z.toNat) (gt c z) = true := by assumption
      have h6 := of_decide_eq_true h5
      have h7 := hh.2.2.2.1
      have h8 := h7.sublist (List.take_sublist (z.toNat + 1) c)
      rw [take_snoc (by omega), show ((z.toNat : Nat) : Int) = z by omega] at h8
      exact (List.nodup_append.1 h8).2.2 _ h6 _ (by simp) rfl
    all_goals (have hez := ex_iff.1 (by assumption : d.ex (gt c z) = true))
    · omega
    · omega
    · rw [hal]; exact pz (by omega)
    · rw [atT_row (pz (by omega)).1 (pz (by omega)).2]; exact hez
    · refine pB_f fun hh => ?_
      have hq := (pz (by omega))
      have h5 : gt (gt (atT d t) (gt c (z - 1))) (gt c z) = false := by assumption
      rw [atT_cell hq.1 hq.2 hez.1 hez.2] at h5
      have h6 := hh.2.2.2.2 (z - 1).toNat (by omega)
      rw [show (((z - 1).toNat : Nat) : Int) = z - 1 by omega, show z - 1 + 1 = z by omega, h5] at h6
      cases h6
    · omega
    · refine hnx (by assumption) (by assumption) fun h => ?_
      have hq := (pz (by omega))
      have h5 : gt (gt (atT d t) (gt c (z - 1))) (gt c z) = true := by assumption
      rwa [atT_cell hq.1 hq.2 hez.1 hez.2] at h5
    · omega
    · exact hnx (by assumption) (by assumption) fun h => by omega
  · rintro I μ ⟨j1, j2, j3⟩
    rw [List.take_of_length_le (by omega)] at j2
    refine pB_t ⟨hd, by omega, fun x hx => ?_, j2, fun i hi => j3 i (by omega)⟩
    obtain ⟨i, hi, rfl⟩ := mem_gt hx
    exact j1 i (by omega))
end Go.Proofs.Ytoflahjlnbligaa
