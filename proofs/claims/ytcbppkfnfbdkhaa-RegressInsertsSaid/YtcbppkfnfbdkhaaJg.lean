/- Comparing. -/
import Derived.Test.YtcbppkfnfbdkhaaJf
set_option linter.all false
set_option maxRecDepth 20000
set_option maxHeartbeats 4000000
namespace Go.Proofs.Ytcbppkfnfbdkhaa
open Go.RowKit Go.Shelf
noncomputable def nanI_V (a : Int) (Q : SV → Prop) : Σ' P : Prop, (P → ICt 176 [.one (.d (.int .i64 a))] Q) := by
  apply mkV; intro hP
  refine ic_wk (K 6) Try.func176 rfl rfl rfl rfl (fun w0 => ?_)
  apply (v_kint (x := 0)); exact rfl; exact hP; clear hP; intro hP
  repeat' (first
    | (with_reducible (first | apply c_seq | apply c_rg | apply j_nil | apply q_n | apply c_ret))
    | ((with_reducible apply j_v); exact rfl; exact rfl)
    | ((with_reducible apply r_g); exact rfl; (· repeat' (first | exact True.intro | refine And.intro ?_ ?_)); (exact hP.out)))
theorem nanI_ic (a : Int) : ICt 176 [iv a] (fun v => v = bv false) := (nanI_V a _).2 (by
  (delta nanI_V; dsimp only [mkV])
  (repeat' (first | with_reducible refine brn_nd (fun h => ?_) (fun h => ?_) | with_reducible refine brn_d (fun h => ?_) (fun h => ?_) | with_reducible refine brn_nn (fun h => ?_) (fun h => ?_) | with_reducible refine brn_nb (fun h => ?_) (fun h => ?_) | with_reducible refine Brn.mk (fun h => ?_) (fun h => ?_) | with_reducible refine Chk.mk ?_ ?_ | with_reducible refine Bth.mk ?_ ?_ | with_reducible refine Fct.mk (fun hf => ?_)))
  all_goals simp)
noncomputable def nanU_V (a : Int) (Q : SV → Prop) : Σ' P : Prop, (P → ICt 177 [.one (.d (.int .u64 a))] Q) := by
  apply mkV; intro hP
  refine ic_wk (K 6) Try.func177 rfl rfl rfl rfl (fun w0 => ?_)
  repeat' (first
    | (with_reducible (first | apply c_seq | apply c_rg | apply j_nil | apply q_n | apply c_ret))
    | ((with_reducible apply j_v); exact rfl; exact rfl)
    | ((with_reducible apply r_g); exact rfl; (· repeat' (first | exact True.intro | refine And.intro ?_ ?_)); (exact hP.out)))
theorem nanU_ic (a : Int) : ICt 177 [.one (.d (.int .u64 a))] (fun v => v = bv false) := (nanU_V a _).2 (by
  (delta nanU_V; dsimp only [mkV])
  (repeat' (first | with_reducible refine brn_nd (fun h => ?_) (fun h => ?_) | with_reducible refine brn_d (fun h => ?_) (fun h => ?_) | with_reducible refine brn_nn (fun h => ?_) (fun h => ?_) | with_reducible refine brn_nb (fun h => ?_) (fun h => ?_) | with_reducible refine Brn.mk (fun h => ?_) (fun h => ?_) | with_reducible refine Chk.mk ?_ ?_ | with_reducible refine Bth.mk ?_ ?_ | with_reducible refine Fct.mk (fun hf => ?_)))
  all_goals simp)
noncomputable def nanS_V (a : ByteArray) (Q : SV → Prop) : Σ' P : Prop, (P → ICt 178 [.one (.d (.str a))] Q) := by
  apply mkV; intro hP
  refine ic_wk (K 6) Try.func178 rfl rfl rfl rfl (fun w0 => ?_)
  repeat' (first
    | (with_reducible (first | apply c_seq | apply c_rg | apply j_nil | apply q_n | apply c_ret))
    | ((with_reducible apply j_v); exact rfl; exact rfl)
    | ((with_reducible apply v_strne); exact rfl; kernel_rfl; exact rfl; exact rfl)
    | ((with_reducible apply r_g); exact rfl; (· repeat' (first | exact True.intro | refine And.intro ?_ ?_)); (exact hP.out)))
theorem nanS_ic (a : ByteArray) : ICt 178 [.one (.d (.str a))] (fun v => v = bv false) := (nanS_V a _).2 (by
  (delta nanS_V; dsimp only [mkV])
  (repeat' (first | with_reducible refine brn_nd (fun h => ?_) (fun h => ?_) | with_reducible refine brn_d (fun h => ?_) (fun h => ?_) | with_reducible refine brn_nn (fun h => ?_) (fun h => ?_) | with_reducible refine brn_nb (fun h => ?_) (fun h => ?_) | with_reducible refine Brn.mk (fun h => ?_) (fun h => ?_) | with_reducible refine Chk.mk ?_ ?_ | with_reducible refine Bth.mk ?_ ?_ | with_reducible refine Fct.mk (fun hf => ?_)))
  all_goals simp)
def cmpN (a b : Int) : Int := if a < b then -1 else if b < a then 1 else 0
noncomputable def cmpI_V (a : Int) (b : Int) (Q : SV → Prop) : Σ' P : Prop, (P → ICt 142 [.one (.d (.int .i64 a)), .one (.d (.int .i64 b))] Q) := by
  apply mkV; intro hP
  refine ic_wk (K 20) Try.func142 rfl rfl rfl rfl (fun w0 => ?_)
  apply (v_kint (x := 0)); exact rfl; exact hP; clear hP; intro hP
  apply (v_kint (x := 1)); exact rfl; exact hP; clear hP; intro hP
  repeat' (first
    | (with_reducible (first | apply c_seq | apply c_rg | apply j_nil | apply q_n | apply c_cf | apply c_ret | apply c_sk | apply q_r))
    | ((with_reducible apply j_v); exact rfl; exact rfl)
    | ((with_reducible apply c_c); exact rfl; (first | with_reducible exact Eq.refl false))
    | ((with_reducible apply r_g); exact rfl; (· repeat' (first | exact True.intro | refine And.intro ?_ ?_)); (exact hP.out))
    | ((with_reducible apply j_call (pu := false)); exact rfl; (apply (nanI_ic _); rotate_left 1); (focus ((repeat' (first | exact .nil _ | refine PsSL.cons ?_ ?_ | exact .one (.d _ _))) <;> fail)); exact .inr rfl)
    | ((with_reducible apply v_if); exact rfl; (exact hP); all_goals (clear hP; intro hc hP)))
theorem cmpI_ic (a b : Int) : ICt 142 [iv a, iv b] (fun v => v = iv (cmpN a b)) := (cmpI_V a b _).2 (by
  (delta cmpI_V; dsimp only [mkV])
  unfold cmpN
  (repeat' (first | with_reducible refine brn_nd (fun h => ?_) (fun h => ?_) | with_reducible refine brn_d (fun h => ?_) (fun h => ?_) | with_reducible refine brn_nn (fun h => ?_) (fun h => ?_) | with_reducible refine brn_nb (fun h => ?_) (fun h => ?_) | with_reducible refine Brn.mk (fun h => ?_) (fun h => ?_) | with_reducible refine Chk.mk ?_ ?_ | with_reducible refine Bth.mk ?_ ?_ | with_reducible refine Fct.mk (fun hf => ?_)))
  all_goals (simp [*]; try rfl))
noncomputable def cmpU_V (a : Int) (b : Int) (Q : SV → Prop) : Σ' P : Prop, (P → ICt 143 [.one (.d (.int .u64 a)), .one (.d (.int .u64 b))] Q) := by
  apply mkV; intro hP
  refine ic_wk (K 20) Try.func143 rfl rfl rfl rfl (fun w0 => ?_)
  repeat' (first
    | (with_reducible (first | apply c_seq | apply c_rg | apply j_nil | apply q_n | apply c_cf | apply c_ret | apply c_sk | apply q_r))
    | ((with_reducible apply j_v); exact rfl; exact rfl)
    | ((with_reducible apply c_c); exact rfl; (first | with_reducible exact Eq.refl false))
    | ((with_reducible apply r_g); exact rfl; (· repeat' (first | exact True.intro | refine And.intro ?_ ?_)); (exact hP.out))
    | ((with_reducible apply j_call (pu := false)); exact rfl; (apply (nanU_ic _); rotate_left 1); (focus ((repeat' (first | exact .nil _ | refine PsSL.cons ?_ ?_ | exact .one (.d _ _))) <;> fail)); exact .inr rfl)
    | ((with_reducible apply v_if); exact rfl; (exact hP); all_goals (clear hP; intro hc hP)))
theorem cmpU_ic (a b : Int) : ICt 143 [.one (.d (.int .u64 a)), .one (.d (.int .u64 b))] (fun v => v = iv (cmpN a b)) := (cmpU_V a b _).2 (by
  (delta cmpU_V; dsimp only [mkV])
  unfold cmpN
  (repeat' (first | with_reducible refine brn_nd (fun h => ?_) (fun h => ?_) | with_reducible refine brn_d (fun h => ?_) (fun h => ?_) | with_reducible refine brn_nn (fun h => ?_) (fun h => ?_) | with_reducible refine brn_nb (fun h => ?_) (fun h => ?_) | with_reducible refine Brn.mk (fun h => ?_) (fun h => ?_) | with_reducible refine Chk.mk ?_ ?_ | with_reducible refine Bth.mk ?_ ?_ | with_reducible refine Fct.mk (fun hf => ?_)))
  all_goals (simp [*]; try rfl))
def sCmp (a b : ByteArray) : Int := if sLt a b = true then -1 else if (!(sLt a b || decide (a = b))) = true then 1 else 0
noncomputable def cmpS_V (a : ByteArray) (b : ByteArray) (Q : SV → Prop) : Σ' P : Prop, (P → ICt 145 [.one (.d (.str a)), .one (.d (.str b))] Q) := by
  apply mkV; intro hP
  refine ic_wk (K 20) Try.func145 rfl rfl rfl rfl (fun w0 => ?_)
  repeat' (first
    | (with_reducible (first | apply c_seq | apply c_rg | apply j_nil | apply q_n | apply c_cf | apply c_ret | apply c_sk | apply q_r))
    | ((with_reducible apply v_strlt); exact rfl; exact rfl; exact rfl)
    | ((with_reducible apply v_strgt); exact rfl; exact rfl; exact rfl)
    | ((with_reducible apply j_v); exact rfl; exact rfl)
    | ((with_reducible apply c_c); exact rfl; (first | with_reducible exact Eq.refl false))
    | ((with_reducible apply r_g); exact rfl; (· repeat' (first | exact True.intro | refine And.intro ?_ ?_)); (exact hP.out))
    | ((with_reducible apply j_call (pu := false)); exact rfl; (apply (nanS_ic _); rotate_left 1); (focus ((repeat' (first | exact .nil _ | refine PsSL.cons ?_ ?_ | exact .one (.d _ _))) <;> fail)); exact .inr rfl)
    | ((with_reducible apply v_if); exact rfl; (exact hP); all_goals (clear hP; intro hc hP)))
theorem cmpS_ic (a b : ByteArray) : ICt 145 [.one (.d (.str a)), .one (.d (.str b))] (fun v => v = iv (sCmp a b)) := (cmpS_V a b _).2 (by
  (delta cmpS_V; dsimp only [mkV])
  unfold sCmp
  (repeat' (first | with_reducible refine brn_nd (fun h => ?_) (fun h => ?_) | with_reducible refine brn_d (fun h => ?_) (fun h => ?_) | with_reducible refine brn_nn (fun h => ?_) (fun h => ?_) | with_reducible refine brn_nb (fun h => ?_) (fun h => ?_) | with_reducible refine Brn.mk (fun h => ?_) (fun h => ?_) | with_reducible refine Chk.mk ?_ ?_ | with_reducible refine Bth.mk ?_ ?_ | with_reducible refine Fct.mk (fun hf => ?_)))
  all_goals (simp_all; try rfl))
def orS (l : List Int) : Int := (l.find? fun x => !decide (x = 0)).getD 0
noncomputable def cor_V (l : List Int) (Q : SV → Prop) : Σ' P : Prop, (P → ICt 141 [.one (.d (.list (List.map irow l)))] Q) := by
  apply mkV; intro hP
  refine ic_wk (K 18) Try.func141 rfl rfl rfl rfl (fun w0 => ?_)
  repeat' (first
    | ((fail_if_success (have hTest : Hld False := hP)); (have hq := chk_c hP); (replace hP := chk_p hP))
    | (with_reducible (first | apply c_seq | apply c_rg | apply j_nil | apply q_n | apply c_bl | apply c_ex | apply c_ret | apply c_sk | apply q_r | apply q_e | apply b_r | apply b_e | apply b_n | apply n_n | apply n_r | apply n_e))
    | ((with_reducible apply c_l1); exact rfl; exact rfl)
    | ((with_reducible apply j_v); exact rfl; exact rfl)
    | ((with_reducible apply v_lenm); exact rfl; exact rfl; exact rfl; (exact hP); clear hP; intro hP)
    | ((with_reducible apply j_add); exact rfl; exact rfl; exact rfl; (with_reducible apply wr_i64; (apply chk_c; exact hP; (first | skip))))
    | ((with_reducible apply v_ia); exact rfl; exact rfl; exact rfl; exact rfl; (case inst => exact inferInstance); exact rfl; exact rfl; (apply chk_c; exact hP; (first | skip)))
    | ((with_reducible apply r_g); exact rfl; (· repeat' (first | exact True.intro | refine And.intro ?_ ?_)); (exact hP.out))
    | ((with_reducible refine v_loopat (c := (.seq (.region 3 _ _) _)) ?_); (apply (v_loop1 _ [3, 6, 7] [] (fun x1 => [(8, .one (.d (.int .i64 x1)))]) (fun x1 => []) [])); exact rfl; exact rfl; exact ⟨(by repeat' (first | exact .nil | refine .cons ?_ ?_ | exact SVle_pl rfl)), (by repeat' (first | exact .nil))⟩; (exact hP); clear hP; intro I μ x1 hP)
    | ((with_reducible apply (v_nxt1 (a1 := _))); (repeat' (first | exact .nil | refine .cons ?_ ?_ | exact SVle_pl rfl)); (repeat' (first | exact .nil | exact .nil _ | refine .cons ?_ ?_ | exact .u _ | exact SVle_pl rfl | refine .one ?_ | refine .agg ?_ | exact .d rfl | exact .ref rfl rfl | exact .sl rfl (by first | rfl | exact List.length_set.symm | exact (splT_len (by simp only [List.length_take, List.length_drop]; omega)).symm | omega | (rw [List.length_append, List.length_map]; show _ + 1 = _; omega) | simp) | exact .fn _ | exact .tape | exact .nils rfl | exact .nild | exact .nildm | exact .nil | exact .rp (by simp) | exact .clo (by simp) | exact .el rfl rfl rfl | exact .d (by first | rfl | (congr 1; omega) | (congr 1; assumption) | simp) | exact .virt rfl | exact .gone _ | refine .blk rfl ?_ | exact .arr rfl (by first | rfl | assumption | simp))); (exact hP))
    | ((with_reducible apply v_if); exact rfl; (exact hP); all_goals (clear hP; intro hc hP)))
theorem cor_ic (l : List Int) : ICt 141 [lv l] (fun v => v = iv (orS l)) := (cor_V l _).2 (by
  (delta cor_V; dsimp only [mkV])
  (repeat' (first | with_reducible refine brn_nd (fun h => ?_) (fun h => ?_) | with_reducible refine brn_d (fun h => ?_) (fun h => ?_) | with_reducible refine brn_nn (fun h => ?_) (fun h => ?_) | with_reducible refine brn_nb (fun h => ?_) (fun h => ?_) | with_reducible refine Brn.mk (fun h => ?_) (fun h => ?_) | with_reducible refine Chk.mk ?_ ?_ | with_reducible refine Bth.mk ?_ ?_ | with_reducible refine Fct.mk (fun hf => ?_)))
  refine up1 (fun z => orS l = orS (l.drop z.toNat)) (by omega) rfl (fun I μ z h0 h1 hj nx => ?_) (fun I μ hj => ?_)
  · have hd : l.drop z.toNat = gt l z :: l.drop (z + 1).toNat := by
      rw [gt_eq (xs := l) (by omega), show (z + 1).toNat = z.toNat + 1 by omega]
      exact List.drop_eq_getElem_cons (by omega)
    (repeat' (first | with_reducible refine brn_nd (fun h => ?_) (fun h => ?_) | with_reducible refine brn_d (fun h => ?_) (fun h => ?_) | with_reducible refine brn_nn (fun h => ?_) (fun h => ?_) | with_reducible refine brn_nb (fun h => ?_) (fun h => ?_) | with_reducible refine Brn.mk (fun h => ?_) (fun h => ?_) | with_reducible refine Chk.mk ?_ ?_ | with_reducible refine Bth.mk ?_ ?_ | with_reducible refine Fct.mk (fun hf => ?_)))
    · exact ⟨h0, h1⟩
    · have hn : ¬ gt l z = 0 := by assumption
      rw [hj, hd]; unfold orS; rw [List.find?_cons_of_pos (by simp [hn])]; rfl
    · unfold InI; omega
    · have hn : gt l z = 0 := by assumption
      refine nx ?_
      rw [hj, hd]; unfold orS; rw [List.find?_cons_of_neg (by simp [hn])]
  · rw [hj, show (((l.length : Nat) : Int)).toNat = l.length from rfl, List.drop_length]; rfl)
abbrev fnv (l : List Fnd) : SV := .one (.d (.list (l.map Fnd.row)))
def sg3 (x : Int) : Int := if x < 0 then -1 else if 0 < x then 1 else 0
theorem sg3_wf (x : Int) : (Lit.int .i64 (sg3 x)).wf = true := by
  unfold sg3
  split
  · decide
  · split <;> decide
theorem sg3_cmpN (a b : Int) : sg3 (cmpN a b) = cmpN a b := by unfold cmpN sg3; split <;> (try split) <;> simp <;> omega
theorem sg3_sCmp (a b : ByteArray) : sg3 (sCmp a b) = sCmp a b := by unfold sCmp; split <;> (try split) <;> rfl
theorem orS_cons (x : Int) (l : List Int) : orS (x :: l) = if x = 0 then orS l else x := by
  unfold orS
  by_cases h : x = 0
  · rw [if_pos h, List.find?_cons_of_neg (by simp [h])]
  · rw [if_neg h, List.find?_cons_of_pos (by simp [h])]; rfl
theorem sg3_orS {l : List Int} (h : ∀ x ∈ l, sg3 x = x) : sg3 (orS l) = orS l := by
  induction l with
  | nil => rfl
  | cons x l ih =>
    rw [orS_cons]
    split
    · exact ih fun y hy => h y (List.mem_cons_of_mem _ hy)
    · exact h x (List.mem_cons_self ..)
def pLy : List DV → Option Cell
  | [.agg [.int .i64 a, .int .i64 b, .int .i64 c], .agg [.int .i64 a', .int .i64 b', .int .i64 c']] => some (.int .i64 (sg3 (orS [cmpN b b', cmpN a a', cmpN c c'])))
  | _ => none
noncomputable def cmpL_V (a : Lyr) (b : Lyr) (Q : SV → Prop) : Σ' P : Prop, (P → ICt 147 [.agg (List.map .d (Lyr.row a)), .agg (List.map .d (Lyr.row b))] Q) := by
  apply mkV; intro hP
  refine ic_wk (K 22) Try.func147 rfl rfl rfl rfl (fun w0 => ?_)
  repeat' (first
    | (with_reducible (first | apply c_seq | apply c_rg | apply j_nil | apply q_n | apply c_ret))
    | ((with_reducible apply j_v); exact rfl; exact rfl)
    | ((with_reducible apply j_h); exact rfl; exact rfl)
    | ((with_reducible apply r_g); exact rfl; (· repeat' (first | exact True.intro | refine And.intro ?_ ?_)); (exact hP.out))
    | ((with_reducible refine v_rgat (i := 1) ?_); (refine n_start (by kernel_rfl) ?_; (refine n_quiet none #[true, true, true, true, true, true, true, true, true, true, true, true, true, true, true, true, true, true] [0, 1, 2, 3, 4, 5, 6, 7, 8, 9, 10, 11, 12, 13, 14, 15, 16, 17] 0 rfl ?_; (repeat' (first | ((with_reducible apply (d_e (some []))); exact rfl; exact rfl; kernel_rfl; kernel_rfl; exact rfl; exact rfl; (first | ((with_reducible apply e_v); exact rfl) | ((with_reducible apply e_call (pu := false)); exact rfl; apply (cor_ic _); rotate_left 1; (focus ((repeat' (first | exact .nil _ | refine PsSL.cons ?_ ?_ | exact .one (.d _ _))) <;> fail)); exact .inr rfl) | ((with_reducible apply e_call (pu := false)); exact rfl; apply (cmpI_ic _ _); rotate_left 2; (focus ((repeat' (first | exact .nil _ | refine PsSL.cons ?_ ?_ | exact .one (.d _ _))) <;> fail)); exact .inr rfl))) | ((with_reducible apply (v_dbsf (d := 20) (irow))); exact rfl; exact rfl; exact (by decide +kernel); exact rfl; exact rfl; exact rfl; exact rfl; exact rfl; exact rfl; exact rfl; exact rfl; exact rfl; exact (row_cons (irow_mk _) (row_cons (irow_mk _) (row_cons (irow_mk _) row_nil))); exact rfl) | ((with_reducible apply d_leaf); exact (by decide +kernel)))); all_goals ((with_reducible apply n_doneZ); exact rfl; exact (by decide +kernel))))))
theorem cmpL_ic (a b : Lyr) : ICt 147 [a.v, b.v] (fun v => v = iv (sg3 (orS [cmpN a.fr b.fr, cmpN a.cd b.cd, cmpN a.to b.to]))) := (cmpL_V a b _).2 (by
  rw [sg3_orS (by simp [sg3_cmpN])]
  (delta cmpL_V; dsimp only [mkV])
  all_goals rfl)
theorem cmpL_fn : FnC 147 [] pLy := by
  refine ⟨(cmpL_ic default default).1, rfl, ?_⟩
  intro args r hr
  unfold pLy at hr
  split at hr
  · cases hr; exact ⟨⟨_, rfl⟩, cmpL_ic ⟨_, _, _⟩ ⟨_, _, _⟩⟩
  · cases hr
noncomputable def cl_V (x y : List Lyr) (Q : SV → Prop) : Σ' P : Prop, (P → ICt 146 [.one (.d (.list (x.map Lyr.row))), .one (.d (.list (y.map Lyr.row))), .one (.fn pLy)] Q) := by
  apply mkV; intro hP
  refine ic_wk (K 39) Try.func146 rfl rfl rfl rfl (fun w0 => ?_)
  repeat' (first
    | ((fail_if_success (have hTest : Hld False := hP)); (have hq := chk_c hP); (replace hP := chk_p hP))
    | (with_reducible (first | apply c_seq | apply c_rg | apply j_nil | apply q_n | apply c_bl | apply c_ex | apply c_ret | apply c_sk | apply q_r | apply q_e | apply b_r | apply b_e | apply b_n | apply n_n | apply n_r | apply n_e))
    | ((with_reducible apply c_l1); exact rfl; exact rfl)
    | ((with_reducible apply j_v); exact rfl; exact rfl)
    | ((with_reducible apply j_h); exact rfl; exact rfl)
    | ((with_reducible apply j_s); exact rfl)
    | ((with_reducible apply v_lenm); exact rfl; exact rfl; exact rfl; (exact hP); clear hP; intro hP)
    | ((with_reducible apply j_add); exact rfl; exact rfl; exact rfl; (with_reducible apply wr_i64; (apply chk_c; exact hP; (first | skip))))
    | ((with_reducible apply v_ia); exact rfl; exact rfl; exact rfl; exact rfl; (case inst => exact inferInstance); exact rfl; exact rfl; (apply chk_c; exact hP; (first | skip)))
    | ((with_reducible apply r_g); exact rfl; (· repeat' (first | exact True.intro | refine And.intro ?_ ?_)); (exact hP.out))
    | ((apply (j_callf (args := [.agg [.int .i64 _, .int .i64 _, .int .i64 _], .agg [.int .i64 _, .int .i64 _, .int .i64 _]]))); exact rfl; exact rfl; exact ⟨rfl, rfl, trivial⟩; exact rfl; (focus (intro _ _ h; cases h; exact sg3_wf _)); exact (fun _ h => by cases h))
    | ((with_reducible refine v_loopat (c := (.seq (.region 2 _ _) _)) ?_); (apply (v_loop1 _ [0, 1, 2, 11, 12] [] (fun x1 => [(13, .one (.d (.int .i64 x1)))]) (fun x1 => []) [])); exact rfl; exact rfl; exact ⟨(by repeat' (first | exact .nil | refine .cons ?_ ?_ | exact SVle_pl rfl | refine .one ?_ | exact .fn _)), (by repeat' (first | exact .nil))⟩; (exact hP); clear hP; intro I μ x1 hP)
    | ((with_reducible apply (v_nxt1 (a1 := _))); (repeat' (first | exact .nil | refine .cons ?_ ?_ | exact SVle_pl rfl | refine .one ?_ | exact .fn _)); (repeat' (first | exact .nil | exact .nil _ | refine .cons ?_ ?_ | exact .u _ | exact SVle_pl rfl | refine .one ?_ | refine .agg ?_ | exact .d rfl | exact .ref rfl rfl | exact .sl rfl (by first | rfl | exact List.length_set.symm | exact (splT_len (by simp only [List.length_take, List.length_drop]; omega)).symm | omega | (rw [List.length_append, List.length_map]; show _ + 1 = _; omega) | simp) | exact .fn _ | exact .tape | exact .nils rfl | exact .nild | exact .nildm | exact .nil | exact .rp (by simp) | exact .clo (by simp) | exact .el rfl rfl rfl | exact .d (by first | rfl | (congr 1; omega) | (congr 1; assumption) | simp) | exact .virt rfl | exact .gone _ | refine .blk rfl ?_ | exact .arr rfl (by first | rfl | assumption | simp))); (exact hP))
    | ((with_reducible apply v_if); exact rfl; (exact hP); all_goals (clear hP; intro hc hP)))
theorem cl_ic : ICt 146 [.one (.d (.list [])), .one (.d (.list [])), .one (.fn pLy)] (fun v => v = iv 0) := (cl_V [] [] _).2 (by
  (delta cl_V; dsimp only [mkV])
  (repeat' (first | with_reducible refine brn_nd (fun h => ?_) (fun h => ?_) | with_reducible refine brn_d (fun h => ?_) (fun h => ?_) | with_reducible refine brn_nn (fun h => ?_) (fun h => ?_) | with_reducible refine brn_nb (fun h => ?_) (fun h => ?_) | with_reducible refine Brn.mk (fun h => ?_) (fun h => ?_) | with_reducible refine Chk.mk ?_ ?_ | with_reducible refine Bth.mk ?_ ?_ | with_reducible refine Fct.mk (fun hf => ?_)))
  refine up1 (fun _ => True) (by simp) True.intro (fun I μ z h0 h1 _ nx => ?_) (fun I μ _ => ?_)
  · exfalso; simp at h1; omega
  · (repeat' (first | with_reducible refine brn_nd (fun h => ?_) (fun h => ?_) | with_reducible refine brn_d (fun h => ?_) (fun h => ?_) | with_reducible refine brn_nn (fun h => ?_) (fun h => ?_) | with_reducible refine brn_nb (fun h => ?_) (fun h => ?_) | with_reducible refine Brn.mk (fun h => ?_) (fun h => ?_) | with_reducible refine Chk.mk ?_ ?_ | with_reducible refine Bth.mk ?_ ?_ | with_reducible refine Fct.mk (fun hf => ?_)))
    all_goals first | rfl | (exfalso; simp_all; done))
noncomputable def cmpF_V (a b c d : Int) (r1 r2 : List (List Cell)) (Q : SV → Prop) : Σ' P : Prop, (P → ICt 98 [.agg [.d (.int .i64 a), .d (.int .u64 b), .d (.list r1)], .agg [.d (.int .i64 c), .d (.int .u64 d), .d (.list r2)]] Q) := by
  apply mkV; intro hP
  refine ic_wk (K 17) Try.func98 rfl rfl rfl rfl (fun w0 => ?_)
  repeat' (first
    | (with_reducible (first | apply c_seq | apply c_rg | apply j_nil | apply q_n | apply c_ret))
    | ((with_reducible apply j_v); exact rfl; exact rfl)
    | ((with_reducible apply j_h); exact rfl; exact rfl)
    | ((with_reducible apply r_g); exact rfl; (· repeat' (first | exact True.intro | refine And.intro ?_ ?_)); (exact hP.out))
    | ((with_reducible refine v_rgat (i := 1) ?_); (refine n_start (by kernel_rfl) ?_; (refine n_quiet none #[true, true, true, true, true, true, true, true, true, true, true, true, true] [0, 1, 2, 3, 4, 5, 6, 7, 8, 9, 10, 11, 12] 0 rfl ?_; (repeat' (first | ((with_reducible apply (d_e (some []))); exact rfl; exact rfl; kernel_rfl; kernel_rfl; exact rfl; exact rfl; (first | ((with_reducible apply e_v); exact rfl) | ((with_reducible apply e_call (pu := false)); exact rfl; apply (cor_ic _); rotate_left 1; (focus ((repeat' (first | exact .nil _ | refine PsSL.cons ?_ ?_ | exact .one (.d _ _))) <;> fail)); exact .inr rfl) | ((with_reducible apply e_call (pu := false)); exact rfl; apply (cmpI_ic _ _); rotate_left 2; (focus ((repeat' (first | exact .nil _ | refine PsSL.cons ?_ ?_ | exact .one (.d _ _))) <;> fail)); exact .inr rfl) | ((with_reducible apply e_call (pu := false)); exact rfl; apply (cmpU_ic _ _); rotate_left 2; (focus ((repeat' (first | exact .nil _ | refine PsSL.cons ?_ ?_ | exact .one (.d _ _))) <;> fail)); exact .inr rfl))) | ((with_reducible apply (v_dbsf (d := 15) (irow))); exact rfl; exact rfl; exact (by decide +kernel); exact rfl; exact rfl; exact rfl; exact rfl; exact rfl; exact rfl; exact rfl; exact rfl; exact rfl; exact (row_cons (irow_mk _) (row_cons (irow_mk _) row_nil)); exact rfl) | ((with_reducible apply d_leaf); exact (by decide +kernel)))); all_goals ((with_reducible apply n_doneZ); exact rfl; exact (by decide +kernel))))))
theorem cmpF_x (a b c d : Int) (r1 r2 : List (List Cell)) : ICt 98 [.agg [.d (.int .i64 a), .d (.int .u64 b), .d (.list r1)], .agg [.d (.int .i64 c), .d (.int .u64 d), .d (.list r2)]] (fun v => v = iv (sg3 (orS [cmpN a c, cmpN b d]))) := (cmpF_V a b c d r1 r2 _).2 (by
  rw [sg3_orS (by simp [sg3_cmpN])]
  (delta cmpF_V; dsimp only [mkV])
  all_goals rfl)
def pFn : List DV → Option Cell
  | [.agg [.int .i64 a, .int .u64 b, .list _], .agg [.int .i64 c, .int .u64 d, .list _]] => some (.int .i64 (sg3 (orS [cmpN a c, cmpN b d])))
  | _ => none
theorem cmpF_fn : FnC 98 [] pFn := by
  refine ⟨(cmpF_x 0 0 0 0 [] []).1, rfl, ?_⟩
  intro args r hr
  unfold pFn at hr
  split at hr
  · cases hr; exact ⟨⟨_, rfl⟩, cmpF_x ..⟩
  · cases hr
def cmpSp (a b : Spt) : Int := sg3 (orS [cmpN a.pl.sr b.pl.sr, sCmp a.pl.pa b.pl.pa, cmpN a.pl.tm b.pl.tm, 0, cmpN a.fr b.fr, cmpN a.to b.to])
noncomputable def cmpP_V (s1 : Int) (p1 : ByteArray) (t1 f1 o1 s2 : Int) (p2 : ByteArray) (t2 f2 o2 : Int) (Q : SV → Prop) : Σ' P : Prop, (P → ICt 102 [.agg [.d (.int .i64 s1), .d (.str p1), .d (.int .i64 t1), .d (.list []), .d (.int .i64 f1), .d (.int .i64 o1)], .agg [.d (.int .i64 s2), .d (.str p2), .d (.int .i64 t2), .d (.list []), .d (.int .i64 f2), .d (.int .i64 o2)]] Q) := by
  apply mkV; intro hP
  refine ic_wk (K 43) Try.func102 rfl rfl rfl rfl (fun w0 => ?_)
  repeat' (first
    | (with_reducible (first | apply c_seq | apply c_rg | apply j_nil | apply q_n | apply c_ret))
    | ((with_reducible apply j_v); exact rfl; exact rfl)
    | ((with_reducible apply j_h); exact rfl; exact rfl)
    | ((with_reducible apply r_g); exact rfl; (· repeat' (first | exact True.intro | refine And.intro ?_ ?_)); (exact hP.out))
    | ((with_reducible refine v_rgat (i := 1) ?_); (refine n_start (by kernel_rfl) ?_; (refine n_quiet none #[true, true, true, true, true, true, true, true, true, true, true, true, true, true, true, true, true, true, true, true, true, true, true, true, true, true, true, true, true, true, true, true, true, true, true, true, true, true, true] [0, 1, 2, 3, 4, 5, 6, 7, 8, 9, 10, 11, 12, 13, 14, 15, 16, 17, 18, 19, 20, 21, 22, 23, 24, 25, 26, 27, 28, 29, 30, 31, 32, 33, 34, 35, 36, 37, 38] 0 rfl ?_; (repeat' (first | ((with_reducible apply (d_e (some []))); exact rfl; exact rfl; kernel_rfl; kernel_rfl; exact rfl; exact rfl; (first | ((with_reducible apply e_v); exact rfl) | ((with_reducible apply e_call (pu := false)); exact rfl; apply (cor_ic _); rotate_left 1; (focus ((repeat' (first | exact .nil _ | refine PsSL.cons ?_ ?_ | exact .one (.d _ _))) <;> fail)); exact .inr rfl) | ((with_reducible apply e_call (pu := false)); exact rfl; apply (cmpI_ic _ _); rotate_left 2; (focus ((repeat' (first | exact .nil _ | refine PsSL.cons ?_ ?_ | exact .one (.d _ _))) <;> fail)); exact .inr rfl) | ((with_reducible apply e_call (pu := false)); exact rfl; apply (cmpS_ic _ _); rotate_left 2; (focus ((repeat' (first | exact .nil _ | refine PsSL.cons ?_ ?_ | exact .one (.d _ _))) <;> fail)); exact .inr rfl) | ((with_reducible apply e_call (pu := false)); exact rfl; exact cl_ic; (focus ((repeat' (first | (apply (PsS.cfn _ (cmpL_fn)); (focus (repeat' (first | exact .nil _)))) | exact .nil _ | refine PsSL.cons ?_ ?_ | exact .one (.d _ _))) <;> fail)); exact .inr rfl))) | ((with_reducible apply (v_dbsf (d := 41) (irow))); exact rfl; exact rfl; exact (by decide +kernel); exact rfl; exact rfl; exact rfl; exact rfl; exact rfl; exact rfl; exact rfl; exact rfl; exact rfl; exact (row_cons (irow_mk _) (row_cons (irow_mk _) (row_cons (irow_mk _) (row_cons (irow_mk _) (row_cons (irow_mk _) (row_cons (irow_mk _) row_nil)))))); exact rfl) | ((with_reducible apply d_leaf); exact (by decide +kernel)))); all_goals ((with_reducible apply n_doneZ); exact rfl; exact (by decide +kernel))))))
theorem cmpP_x (s1 : Int) (p1 : ByteArray) (t1 f1 o1 s2 : Int) (p2 : ByteArray) (t2 f2 o2 : Int) : ICt 102 [.agg [.d (.int .i64 s1), .d (.str p1), .d (.int .i64 t1), .d (.list []), .d (.int .i64 f1), .d (.int .i64 o1)], .agg [.d (.int .i64 s2), .d (.str p2), .d (.int .i64 t2), .d (.list []), .d (.int .i64 f2), .d (.int .i64 o2)]] (fun v => v = iv (cmpSp ⟨⟨s1, p1, t1⟩, [], f1, o1⟩ ⟨⟨s2, p2, t2⟩, [], f2, o2⟩)) := (cmpP_V s1 p1 t1 f1 o1 s2 p2 t2 f2 o2 _).2 (by
  unfold cmpSp
  rw [sg3_orS (by simp [sg3_cmpN, sg3_sCmp]; rfl)]
  (delta cmpP_V; dsimp only [mkV])
  all_goals rfl)
end Go.Proofs.Ytcbppkfnfbdkhaa
