/- Findings in order. -/
import Derived.Test.YtcbppkfnfbdkhaaJg
set_option linter.all false
set_option maxRecDepth 20000
set_option maxHeartbeats 4000000
namespace Go.Proofs.Ytcbppkfnfbdkhaa
open Go.RowKit Go.Shelf
open Classical in
noncomputable def pSp : List DV → Option Cell
  | [.agg [.int .i64 s1, .str p1, .int .i64 t1, .list l1, .int .i64 f1, .int .i64 o1], .agg [.int .i64 s2, .str p2, .int .i64 t2, .list l2, .int .i64 f2, .int .i64 o2]] => if l1 = [] ∧ l2 = [] then some (.int .i64 (cmpSp ⟨⟨s1, p1, t1⟩, [], f1, o1⟩ ⟨⟨s2, p2, t2⟩, [], f2, o2⟩)) else none
  | _ => none
theorem cmpP_fn : FnC 102 [] pSp := by
  refine ⟨(cmpP_x 0 ⟨#[]⟩ 0 0 0 0 ⟨#[]⟩ 0 0 0).1, rfl, ?_⟩
  intro args r hr
  unfold pSp at hr
  split at hr
  · split at hr
    · rename_i h
      obtain ⟨rfl, rfl⟩ := h
      cases hr; exact ⟨⟨_, rfl⟩, cmpP_x ..⟩
    · cases hr
  · cases hr
def SpsOk (l : List Spt) : Prop := (∀ s ∈ l, s.ly = []) ∧ ∀ z : Int, 1 ≤ z → z < l.length → cmpSp (gt l (z - 1)) (gt l z) < 0
noncomputable def ascS_V (l : List Spt) (Q : SV → Prop) : Σ' P : Prop, (P → ICt 101 [.one (.d (.list (l.map Spt.row))), .one (.fn pSp)] Q) := by
  apply mkV; intro hP
  refine ic_wk (K 24) Try.func101 rfl rfl rfl rfl (fun w0 => ?_)
  repeat' (first
    | ((fail_if_success (have hTest : Hld False := hP)); (have hq := chk_c hP); (replace hP := chk_p hP))
    | (with_reducible (first | apply c_seq | apply c_rg | apply j_nil | apply q_n | apply c_bl | apply c_ex | apply c_ret | apply c_sk | apply q_r | apply q_e | apply b_r | apply b_e | apply b_n | apply n_n | apply n_r | apply n_e))
    | ((with_reducible apply j_v); exact rfl; exact rfl)
    | ((with_reducible apply v_lenm); exact rfl; exact rfl; exact rfl; (exact hP); clear hP; intro hP)
    | ((with_reducible apply j_add); exact rfl; exact rfl; exact rfl; (with_reducible apply wr_i64; (apply chk_c; exact hP; (first | skip))))
    | ((with_reducible apply r_g); exact rfl; (· repeat' (first | exact True.intro | refine And.intro ?_ ?_)); (exact hP.out))
    | ((with_reducible refine v_loopat (c := (.seq (.seq (.region 2 _ _) _) _)) ?_); (apply (v_loop1 _ [0, 1] [] (fun x1 => [(5, .one (.d (.int .i64 x1)))]) (fun x1 => []) [])); exact rfl; exact rfl; exact ⟨(by repeat' (first | exact .nil | refine .cons ?_ ?_ | exact SVle_pl rfl | refine .one ?_ | exact .fn _)), (by repeat' (first | exact .nil))⟩; (exact hP); clear hP; intro I μ x1 hP)
    | ((with_reducible apply (v_nxt1 (a1 := _))); (repeat' (first | exact .nil | refine .cons ?_ ?_ | exact SVle_pl rfl | refine .one ?_ | exact .fn _)); (repeat' (first | exact .nil | exact .nil _ | refine .cons ?_ ?_ | exact .u _ | exact SVle_pl rfl | refine .one ?_ | refine .agg ?_ | exact .d rfl | exact .ref rfl rfl | exact .sl rfl (by first | rfl | exact List.length_set.symm | exact (splT_len (by simp only [List.length_take, List.length_drop]; omega)).symm | omega | (rw [List.length_append, List.length_map]; show _ + 1 = _; omega) | simp) | exact .fn _ | exact .tape | exact .nils rfl | exact .nild | exact .nildm | exact .nil | exact .rp (by simp) | exact .clo (by simp) | exact .el rfl rfl rfl | exact .d (by first | rfl | (congr 1; omega) | (congr 1; assumption) | simp) | exact .virt rfl | exact .gone _ | refine .blk rfl ?_ | exact .arr rfl (by first | rfl | assumption | simp))); (exact hP))
    | ((with_reducible refine v_rgat (i := 4) ?_); (refine n_start (by kernel_rfl) ?_; (refine n_quiet none #[true, true, true, true, true, true, true, true, true, true, true, true] [0, 1, 2, 3, 4, 5, 6, 7, 8, 9, 10, 11] 0 rfl ?_; (repeat' (first | ((fail_if_success (have hTest : Hld False := hP)); (have hq := chk_c hP); (replace hP := chk_p hP)) | ((with_reducible apply (d_e (some []))); exact rfl; exact rfl; kernel_rfl; kernel_rfl; exact rfl; exact rfl; (first | ((with_reducible apply e_v); exact rfl) | ((with_reducible apply e_sub); exact rfl; exact rfl; (with_reducible apply wr_i64; (apply chk_c; exact hP; (first | skip)))) | ((with_reducible apply f_ia); exact rfl; exact rfl; exact rfl; (case inst => exact inferInstance); exact rfl; exact rfl; (apply chk_c; exact hP; (first | skip))) | ((with_reducible apply (f_callf (args := [.agg [.int .i64 _, .str _, .int .i64 _, .list _, .int .i64 _, .int .i64 _], .agg [.int .i64 _, .str _, .int .i64 _, .list _, .int .i64 _, .int .i64 _]]))); exact rfl; exact rfl; exact ⟨rfl, rfl, trivial⟩; (refine if_pos ?_; (apply chk_c; exact hP; (first | skip))); (focus (intro _ _ h; cases h; exact sg3_wf _)); exact (fun _ h => by cases h)))) | ((with_reducible apply d_leaf); exact (by decide +kernel)))); all_goals ((with_reducible apply n_doneZ); exact rfl; exact (by decide +kernel)))))
    | ((with_reducible apply v_if); exact rfl; (exact hP); all_goals (clear hP; intro hc hP)))
theorem ascS_ic (l : List Spt) : ICp (SpsOk l) 101 [.one (.d (.list (l.map Spt.row))), .one (.fn pSp)] (fun v => v = bv true) := fun hh => (ascS_V l _).2 (by
  (delta ascS_V; dsimp only [mkV])
  refine lp1 (fun z => 1 ≤ z) (fun z => (l.length - z).toNat) (by show (1 : Int) ≤ 1; omega) ?_
  intro I μ nx z h1
  (repeat' (first | with_reducible refine brn_nd (fun h => ?_) (fun h => ?_) | with_reducible refine brn_d (fun h => ?_) (fun h => ?_) | with_reducible refine brn_nn (fun h => ?_) (fun h => ?_) | with_reducible refine brn_nb (fun h => ?_) (fun h => ?_) | with_reducible refine Brn.mk (fun h => ?_) (fun h => ?_) | with_reducible refine Chk.mk ?_ ?_ | with_reducible refine Bth.mk ?_ ?_ | with_reducible refine Fct.mk (fun hf => ?_)))
  all_goals first | (unfold InI; omega) | omega | skip
  · exact ⟨by rw [hh.1 _ (gt_mem (by omega) (by omega))]; rfl, by rw [hh.1 _ (gt_mem (by omega) (by omega))]; rfl⟩
  · exfalso
    have := hh.2 z h1 (by assumption)
    have h2 : 0 ≤ cmpSp (gt l (z - 1)) (gt l z) := by assumption
    omega
  · exact nx _ _ h1 (by show (1 : Int) ≤ z + 1; omega) (by omega)
  · rfl)
def fcmp (a b : Fnd) : Int := sg3 (orS [cmpN a.kd b.kd, cmpN a.pr b.pr])
noncomputable def ascF_V (l : List Fnd) (Q : SV → Prop) : Σ' P : Prop, (P → ICt 97 [.one (.d (.list (l.map Fnd.row))), .one (.fn pFn)] Q) := by
  apply mkV; intro hP
  refine ic_wk (K 24) Try.func97 rfl rfl rfl rfl (fun w0 => ?_)
  repeat' (first
    | ((fail_if_success (have hTest : Hld False := hP)); (have hq := chk_c hP); (replace hP := chk_p hP))
    | (with_reducible (first | apply c_seq | apply c_rg | apply j_nil | apply q_n | apply c_bl | apply c_ex | apply c_ret | apply c_sk | apply q_r | apply q_e | apply b_r | apply b_e | apply b_n | apply n_n | apply n_r | apply n_e))
    | ((with_reducible apply j_v); exact rfl; exact rfl)
    | ((with_reducible apply v_lenm); exact rfl; exact rfl; exact rfl; (exact hP); clear hP; intro hP)
    | ((with_reducible apply j_add); exact rfl; exact rfl; exact rfl; (with_reducible apply wr_i64; (apply chk_c; exact hP; (first | skip))))
    | ((with_reducible apply r_g); exact rfl; (· repeat' (first | exact True.intro | refine And.intro ?_ ?_)); (exact hP.out))
    | ((with_reducible refine v_loopat (c := (.seq (.seq (.region 2 _ _) _) _)) ?_); (apply (v_loop1 _ [0, 1] [] (fun x1 => [(5, .one (.d (.int .i64 x1)))]) (fun x1 => []) [])); exact rfl; exact rfl; exact ⟨(by repeat' (first | exact .nil | refine .cons ?_ ?_ | exact SVle_pl rfl | refine .one ?_ | exact .fn _)), (by repeat' (first | exact .nil))⟩; (exact hP); clear hP; intro I μ x1 hP)
    | ((with_reducible apply (v_nxt1 (a1 := _))); (repeat' (first | exact .nil | refine .cons ?_ ?_ | exact SVle_pl rfl | refine .one ?_ | exact .fn _)); (repeat' (first | exact .nil | exact .nil _ | refine .cons ?_ ?_ | exact .u _ | exact SVle_pl rfl | refine .one ?_ | refine .agg ?_ | exact .d rfl | exact .ref rfl rfl | exact .sl rfl (by first | rfl | exact List.length_set.symm | exact (splT_len (by simp only [List.length_take, List.length_drop]; omega)).symm | omega | (rw [List.length_append, List.length_map]; show _ + 1 = _; omega) | simp) | exact .fn _ | exact .tape | exact .nils rfl | exact .nild | exact .nildm | exact .nil | exact .rp (by simp) | exact .clo (by simp) | exact .el rfl rfl rfl | exact .d (by first | rfl | (congr 1; omega) | (congr 1; assumption) | simp) | exact .virt rfl | exact .gone _ | refine .blk rfl ?_ | exact .arr rfl (by first | rfl | assumption | simp))); (exact hP))
    | ((with_reducible refine v_rgat (i := 4) ?_); (refine n_start (by kernel_rfl) ?_; (refine n_quiet none #[true, true, true, true, true, true, true, true, true, true, true, true] [0, 1, 2, 3, 4, 5, 6, 7, 8, 9, 10, 11] 0 rfl ?_; (repeat' (first | ((fail_if_success (have hTest : Hld False := hP)); (have hq := chk_c hP); (replace hP := chk_p hP)) | ((with_reducible apply (d_e (some []))); exact rfl; exact rfl; kernel_rfl; kernel_rfl; exact rfl; exact rfl; (first | ((with_reducible apply e_v); exact rfl) | ((with_reducible apply e_sub); exact rfl; exact rfl; (with_reducible apply wr_i64; (apply chk_c; exact hP; (first | skip)))) | ((with_reducible apply f_ia); exact rfl; exact rfl; exact rfl; (case inst => exact inferInstance); exact rfl; exact rfl; (apply chk_c; exact hP; (first | skip))) | ((with_reducible apply (f_callf (args := [.agg [.int .i64 _, .int .u64 _, .list _], .agg [.int .i64 _, .int .u64 _, .list _]]))); exact rfl; exact rfl; exact ⟨rfl, rfl, trivial⟩; exact rfl; (focus (intro _ _ h; cases h; exact sg3_wf _)); exact (fun _ h => by cases h)))) | ((with_reducible apply d_leaf); exact (by decide +kernel)))); all_goals ((with_reducible apply n_doneZ); exact rfl; exact (by decide +kernel)))))
    | ((with_reducible apply v_if); exact rfl; (exact hP); all_goals (clear hP; intro hc hP)))
theorem ascF_ic (l : List Fnd) : ICp (∀ z : Int, 1 ≤ z → z < l.length → fcmp (gt l (z - 1)) (gt l z) < 0) 97 [.one (.d (.list (l.map Fnd.row))), .one (.fn pFn)] (fun v => v = bv true) := fun hh => (ascF_V l _).2 (by
  (delta ascF_V; dsimp only [mkV])
  refine lp1 (fun z => 1 ≤ z) (fun z => (l.length - z).toNat) (by show (1 : Int) ≤ 1; omega) ?_
  intro I μ nx z h1
  (repeat' (first | with_reducible refine brn_nd (fun h => ?_) (fun h => ?_) | with_reducible refine brn_d (fun h => ?_) (fun h => ?_) | with_reducible refine brn_nn (fun h => ?_) (fun h => ?_) | with_reducible refine brn_nb (fun h => ?_) (fun h => ?_) | with_reducible refine Brn.mk (fun h => ?_) (fun h => ?_) | with_reducible refine Chk.mk ?_ ?_ | with_reducible refine Bth.mk ?_ ?_ | with_reducible refine Fct.mk (fun hf => ?_)))
  all_goals first | (unfold InI; omega) | omega | skip
  · exfalso
    have := hh z h1 (by assumption)
    have h2 : 0 ≤ fcmp (gt l (z - 1)) (gt l z) := by assumption
    omega
  · exact nx _ _ h1 (by show (1 : Int) ≤ z + 1; omega) (by omega)
  · rfl)
open Classical in
noncomputable def pOr : List DV → Option Cell
  | [.agg [.int .i64 _, .int .u64 _, .list rows]] => if ∃ wh : List Spt, rows = wh.map Spt.row ∧ 0 < wh.length ∧ SpsOk wh then some (.bool false) else none
  | _ => none
noncomputable def ord1_V (kd pr : Int) (wh : List Spt) (Q : SV → Prop) : Σ' P : Prop, (P → ICt 100 [.agg [.d (.int .i64 kd), .d (.int .u64 pr), .d (.list (wh.map Spt.row))]] Q) := by
  apply mkV; intro hP
  refine ic_wk (K 13) Try.func100 rfl rfl rfl rfl (fun w0 => ?_)
  repeat' (first
    | ((fail_if_success (have hTest : Hld False := hP)); (have hq := chk_c hP); (replace hP := chk_p hP))
    | (with_reducible (first | apply c_seq | apply c_rg | apply j_nil | apply q_n | apply g_ff | apply c_ret))
    | ((with_reducible apply j_v); exact rfl; exact rfl)
    | ((with_reducible apply j_h); exact rfl; exact rfl)
    | ((with_reducible apply j_g); exact rfl; exact rfl; (first | with_reducible assumption))
    | ((with_reducible apply g_tf); exact rfl)
    | ((with_reducible apply v_lenm); exact rfl; exact rfl; exact rfl; (exact hP); clear hP; intro hP)
    | ((with_reducible apply j_pk); exact rfl; exact rfl; (first | with_reducible assumption); exact rfl)
    | ((with_reducible apply r_g); exact rfl; (· repeat' (first | exact True.intro | refine And.intro ?_ ?_)); (exact hP.out))
    | ((with_reducible apply v_call (pu := false)); exact rfl; exact ⟨rfl, rfl⟩; (apply (ascS_ic _); rotate_left 1); (focus ((repeat' (first | (apply (PsS.cfn _ (cmpP_fn)); (focus (repeat' (first | exact .nil _)))) | exact .nil _ | refine PsSL.cons ?_ ?_ | exact .one (.d _ _))) <;> fail)); exact .inr rfl; (apply chk_c; exact hP; (first | skip)))
    | ((with_reducible apply v_gs); exact rfl; exact rfl; (exact hP); all_goals (clear hP; intro hg hP)))
theorem ord1_x (kd pr : Int) (wh : List Spt) (hh : 0 < wh.length ∧ SpsOk wh) : ICt 100 [.agg [.d (.int .i64 kd), .d (.int .u64 pr), .d (.list (wh.map Spt.row))]] (fun v => v = bv false) := (ord1_V kd pr wh _).2 (by
  (delta ord1_V; dsimp only [mkV])
  (repeat' (first | with_reducible refine brn_nd (fun h => ?_) (fun h => ?_) | with_reducible refine brn_d (fun h => ?_) (fun h => ?_) | with_reducible refine brn_nn (fun h => ?_) (fun h => ?_) | with_reducible refine brn_nb (fun h => ?_) (fun h => ?_) | with_reducible refine Brn.mk (fun h => ?_) (fun h => ?_) | with_reducible refine Chk.mk ?_ ?_ | with_reducible refine Bth.mk ?_ ?_ | with_reducible refine Fct.mk (fun hf => ?_)))
  · exfalso; omega
  · exact hh.2
  · rfl)
theorem ord1_fn : FnC 100 [] pOr := by
  refine ⟨enters_of Try.func100 rfl rfl, rfl, ?_⟩
  intro args r hr
  unfold pOr at hr
  split at hr
  · split at hr
    · rename_i h
      obtain ⟨wh, rfl, h⟩ := h
      cases hr; exact ⟨⟨_, rfl⟩, ord1_x _ _ wh h⟩
    · cases hr
  · cases hr
noncomputable def idxF_V (l : List Fnd) (Q : SV → Prop) : Σ' P : Prop, (P → ICt 144 [.one (.d (.list (l.map Fnd.row))), .one (.fn pOr)] Q) := by
  apply mkV; intro hP
  refine ic_wk (K 19) Try.func144 rfl rfl rfl rfl (fun w0 => ?_)
  repeat' (first
    | ((fail_if_success (have hTest : Hld False := hP)); (have hq := chk_c hP); (replace hP := chk_p hP))
    | (with_reducible (first | apply c_seq | apply c_rg | apply j_nil | apply q_n | apply c_cf | apply c_bl | apply c_ex | apply c_ret | apply c_sk | apply q_e | apply b_e | apply b_n | apply n_n | apply n_e))
    | ((with_reducible apply c_l1); exact rfl; exact rfl)
    | ((with_reducible apply j_v); exact rfl; exact rfl)
    | ((with_reducible apply v_lenm); exact rfl; exact rfl; exact rfl; (exact hP); clear hP; intro hP)
    | ((with_reducible apply j_add); exact rfl; exact rfl; exact rfl; (with_reducible apply wr_i64; (apply chk_c; exact hP; (first | skip))))
    | ((with_reducible apply v_ia); exact rfl; exact rfl; exact rfl; exact rfl; (case inst => exact inferInstance); exact rfl; exact rfl; (apply chk_c; exact hP; (first | skip)))
    | ((with_reducible apply c_c); exact rfl; (first | with_reducible exact Eq.refl false))
    | ((with_reducible apply r_g); exact rfl; (· repeat' (first | exact True.intro | refine And.intro ?_ ?_)); (exact hP.out))
    | ((apply (j_callf (args := [.agg [.int .i64 _, .int .u64 _, .list _]]))); exact rfl; exact rfl; exact ⟨rfl, trivial⟩; (refine if_pos ?_; (apply chk_c; exact hP; (first | skip))); (focus (intro _ _ h; cases h; done)); exact (fun _ h => by cases h))
    | ((with_reducible refine v_loopat (c := (.seq (.region 2 _ _) _)) ?_); (apply (v_loop1 _ [0, 1, 7] [] (fun x1 => [(8, .one (.d (.int .i64 x1)))]) (fun x1 => []) [])); exact rfl; exact rfl; exact ⟨(by repeat' (first | exact .nil | refine .cons ?_ ?_ | exact SVle_pl rfl | refine .one ?_ | exact .fn _)), (by repeat' (first | exact .nil))⟩; (exact hP); clear hP; intro I μ x1 hP)
    | ((with_reducible apply (v_nxt1 (a1 := _))); (repeat' (first | exact .nil | refine .cons ?_ ?_ | exact SVle_pl rfl | refine .one ?_ | exact .fn _)); (repeat' (first | exact .nil | exact .nil _ | refine .cons ?_ ?_ | exact .u _ | exact SVle_pl rfl | refine .one ?_ | refine .agg ?_ | exact .d rfl | exact .ref rfl rfl | exact .sl rfl (by first | rfl | exact List.length_set.symm | exact (splT_len (by simp only [List.length_take, List.length_drop]; omega)).symm | omega | (rw [List.length_append, List.length_map]; show _ + 1 = _; omega) | simp) | exact .fn _ | exact .tape | exact .nils rfl | exact .nild | exact .nildm | exact .nil | exact .rp (by simp) | exact .clo (by simp) | exact .el rfl rfl rfl | exact .d (by first | rfl | (congr 1; omega) | (congr 1; assumption) | simp) | exact .virt rfl | exact .gone _ | refine .blk rfl ?_ | exact .arr rfl (by first | rfl | assumption | simp))); (exact hP))
    | ((with_reducible apply v_if); exact rfl; (exact hP); all_goals (clear hP; intro hc hP)))
theorem idxF_ic (l : List Fnd) : ICp (∀ f ∈ l, 0 < f.wh.length ∧ SpsOk f.wh) 144 [.one (.d (.list (l.map Fnd.row))), .one (.fn pOr)] (fun v => v = iv (-1)) := fun hh => (idxF_V l _).2 (by
  (delta idxF_V; dsimp only [mkV])
  (repeat' (first | with_reducible refine brn_nd (fun h => ?_) (fun h => ?_) | with_reducible refine brn_d (fun h => ?_) (fun h => ?_) | with_reducible refine brn_nn (fun h => ?_) (fun h => ?_) | with_reducible refine brn_nb (fun h => ?_) (fun h => ?_) | with_reducible refine Brn.mk (fun h => ?_) (fun h => ?_) | with_reducible refine Chk.mk ?_ ?_ | with_reducible refine Bth.mk ?_ ?_ | with_reducible refine Fct.mk (fun hf => ?_)))
  refine up1 (fun _ => True) (by omega) True.intro (fun I μ z h0 hz _ nx => ?_) (fun I μ _ => ?_)
  · (repeat' (first | with_reducible refine brn_nd (fun h => ?_) (fun h => ?_) | with_reducible refine brn_d (fun h => ?_) (fun h => ?_) | with_reducible refine brn_nn (fun h => ?_) (fun h => ?_) | with_reducible refine brn_nb (fun h => ?_) (fun h => ?_) | with_reducible refine Brn.mk (fun h => ?_) (fun h => ?_) | with_reducible refine Chk.mk ?_ ?_ | with_reducible refine Bth.mk ?_ ?_ | with_reducible refine Fct.mk (fun hf => ?_)))
    · exact ⟨h0, hz⟩
    · exact ⟨_, rfl, hh _ (gt_mem h0 hz)⟩
    all_goals first | (unfold InI; omega) | exact nx True.intro | trace_state
  · rfl)
noncomputable def hasF_V (l : List Fnd) (Q : SV → Prop) : Σ' P : Prop, (P → ICt 99 [.one (.d (.list (l.map Fnd.row))), .one (.fn pOr)] Q) := by
  apply mkV; intro hP
  refine ic_wk (K 9) Try.func99 rfl rfl rfl rfl (fun w0 => ?_)
  repeat' (first
    | ((fail_if_success (have hTest : Hld False := hP)); (have hq := chk_c hP); (replace hP := chk_p hP))
    | (with_reducible (first | apply c_seq | apply c_rg | apply j_nil | apply q_n | apply c_ret))
    | ((with_reducible apply j_v); exact rfl; exact rfl)
    | ((with_reducible apply r_g); exact rfl; (· repeat' (first | exact True.intro | refine And.intro ?_ ?_)); (exact hP.out))
    | ((with_reducible apply v_call (pu := false)); exact rfl; exact ⟨rfl, rfl⟩; (apply (idxF_ic _); rotate_left 1); (focus ((repeat' (first | exact .nil _ | refine PsSL.cons ?_ ?_ | exact .one (.d _ _) | exact .one (.fn _ _))) <;> fail)); exact .inr rfl; (apply chk_c; exact hP; (first | skip))))
theorem hasF_ic (l : List Fnd) : ICp (∀ f ∈ l, 0 < f.wh.length ∧ SpsOk f.wh) 99 [.one (.d (.list (l.map Fnd.row))), .one (.fn pOr)] (fun v => v = bv false) := fun hh => (hasF_V l _).2 (by
  (delta hasF_V; dsimp only [mkV])
  (repeat' (first | with_reducible refine brn_nd (fun h => ?_) (fun h => ?_) | with_reducible refine brn_d (fun h => ?_) (fun h => ?_) | with_reducible refine brn_nn (fun h => ?_) (fun h => ?_) | with_reducible refine brn_nb (fun h => ?_) (fun h => ?_) | with_reducible refine Brn.mk (fun h => ?_) (fun h => ?_) | with_reducible refine Chk.mk ?_ ?_ | with_reducible refine Bth.mk ?_ ?_ | with_reducible refine Fct.mk (fun hf => ?_)))
  · exact hh
  all_goals rfl)
def FndOk (l : List Fnd) : Prop := (∀ f ∈ l, 0 < f.wh.length ∧ SpsOk f.wh) ∧ ∀ z : Int, 1 ≤ z → z < l.length → fcmp (gt l (z - 1)) (gt l z) < 0
noncomputable def ordered_V (l : List Fnd) (Q : SV → Prop) : Σ' P : Prop, (P → ICt 50 [.one (.d (.list (List.map Fnd.row l)))] Q) := by
  apply mkV; intro hP
  refine ic_wk (K 10) Try.func50 rfl rfl rfl rfl (fun w0 => ?_)
  repeat' (first
    | ((fail_if_success (have hTest : Hld False := hP)); (have hq := chk_c hP); (replace hP := chk_p hP))
    | (with_reducible (first | apply c_seq | apply c_rg | apply j_nil | apply q_n | apply g_tt | apply c_ret))
    | ((with_reducible apply j_v); exact rfl; exact rfl)
    | ((with_reducible apply j_g); exact rfl; exact rfl; (first | with_reducible exact Eq.refl true))
    | ((with_reducible apply j_pk); exact rfl; exact rfl; (first | with_reducible exact Eq.refl true); exact rfl)
    | ((with_reducible apply r_g); exact rfl; (· repeat' (first | exact True.intro | refine And.intro ?_ ?_)); (exact hP.out))
    | ((with_reducible apply v_call (pu := false)); exact rfl; exact ⟨rfl, rfl⟩; (first | (apply (ascF_ic _); rotate_left 1) | (apply (hasF_ic _); rotate_left 1)); (focus ((repeat' (first | (apply (PsS.cfn _ (cmpF_fn)); (focus (repeat' (first | exact .nil _)))) | (apply (PsS.cfn _ (ord1_fn)); (focus (repeat' (first | exact .nil _)))) | exact .nil _ | refine PsSL.cons ?_ ?_ | exact .one (.d _ _))) <;> fail)); exact .inr rfl; (apply chk_c; exact hP; (first | skip))))
theorem ordered_ic (l : List Fnd) : ICp (FndOk l) 50 [fnv l] (fun v => v = bv true) := fun hh => (ordered_V l _).2 (by
  (delta ordered_V; dsimp only [mkV])
  (repeat' (first | with_reducible refine brn_nd (fun h => ?_) (fun h => ?_) | with_reducible refine brn_d (fun h => ?_) (fun h => ?_) | with_reducible refine brn_nn (fun h => ?_) (fun h => ?_) | with_reducible refine brn_nb (fun h => ?_) (fun h => ?_) | with_reducible refine Brn.mk (fun h => ?_) (fun h => ?_) | with_reducible refine Chk.mk ?_ ?_ | with_reducible refine Bth.mk ?_ ?_ | with_reducible refine Fct.mk (fun hf => ?_)))
  · exact hh.2
  · exact hh.1
  · rfl)
end Go.Proofs.Ytcbppkfnfbdkhaa
