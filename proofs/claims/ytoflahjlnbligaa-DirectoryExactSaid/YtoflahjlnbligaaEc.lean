/- Directories: Groups, In, Direct, Members. -/
import Derived.Test.YtoflahjlnbligaaEb
set_option linter.all false
set_option maxRecDepth 20000
set_option maxHeartbeats 4000000
namespace Go.Proofs.Ytoflahjlnbligaa
open Go.RowKit Go.Shelf
noncomputable def sIndex_V (l : List Int) (x : Int) (Q : SV → Prop) : Σ' P : Prop, (P → ICt 100 [.one (.d (.list (List.map irow l))), .one (.d (.int .i64 x))] Q) := by
  apply mkV; intro hP
  refine ic_wk (K 19) Try.func100 rfl rfl rfl rfl (fun w0 => ?_)
  apply (v_kint (x := 1)); exact rfl; exact hP; clear hP; intro hP
  repeat' (first
    | ((fail_if_success (have hTest : Hld False := hP)); (have hq := chk_c hP); (replace hP := chk_p hP))
    | (with_reducible (first | apply c_seq | apply c_rg | apply j_nil | apply q_n | apply c_bl | apply c_ex | apply c_ret | apply c_sk | apply q_r | apply q_e | apply b_r | apply b_e | apply b_n | apply n_n | apply n_r | apply n_e))
    | ((with_reducible apply c_l1); exact rfl; exact rfl)
    | ((with_reducible apply j_v); exact rfl; exact rfl)
    | ((with_reducible apply v_lenm); exact rfl; exact rfl; exact rfl; (exact hP); clear hP; intro hP)
    | ((with_reducible apply j_add); exact rfl; exact rfl; exact rfl; (with_reducible apply wr_i64; (apply chk_c; exact hP; (first | skip))))
    | ((with_reducible apply v_ia); exact rfl; exact rfl; exact rfl; exact rfl; (case inst => exact inferInstance); exact rfl; exact rfl; (apply chk_c; exact hP; (first | skip)))
    | ((with_reducible apply r_g); exact rfl; (· repeat' (first | exact True.intro | refine And.intro ?_ ?_)); (exact hP.out))
    | ((with_reducible refine v_loopat (c := (.seq (.region 2 _ _) _)) ?_); (apply (v_loop1 _ [0, 1, 7] [] (fun x1 => [(8, .one (.d (.int .i64 x1)))]) (fun x1 => []) [])); exact rfl; exact rfl; exact ⟨(by repeat' (first | exact .nil | refine .cons ?_ ?_ | exact SVle_pl rfl)), (by repeat' (first | exact .nil))⟩; (exact hP); clear hP; intro I μ x1 hP)
    | ((with_reducible apply (v_nxt1 (a1 := _))); (repeat' (first | exact .nil | refine .cons ?_ ?_ | exact SVle_pl rfl)); (repeat' (first | exact .nil | exact .nil _ | refine .cons ?_ ?_ | exact .u _ | exact SVle_pl rfl | refine .one ?_ | refine .agg ?_ | exact .d rfl | exact .ref rfl rfl | exact .sl rfl (by first | rfl | exact List.length_set.symm | exact (splT_len (by simp only [List.length_take, List.length_drop]; omega)).symm | omega | (rw [List.length_append, List.length_map]; show _ + 1 = _; omega) | simp) | exact .fn _ | exact .tape | exact .nils rfl | exact .nild | exact .nildm | exact .nil | exact .rp (by simp) | exact .clo (by simp) | exact .el rfl rfl rfl | exact .d (by first | rfl | (congr 1; omega) | (congr 1; assumption) | simp) | exact .virt rfl | exact .gone _ | refine .blk rfl ?_ | exact .arr rfl (by first | rfl | assumption | simp))); (exact hP))
    | ((with_reducible apply v_if); exact rfl; (exact hP); all_goals (clear hP; intro hc hP)))
noncomputable def rHas_V (l : List Int) (x : Int) (Q : SV → Prop) : Σ' P : Prop, (P → ICt 23 [.one (.d (.list (List.map irow l))), .one (.d (.int .i64 x))] Q) := by
  apply mkV; intro hP
  refine ic_wk (K 17) Try.func23 rfl rfl rfl rfl (fun w0 => ?_)
  apply (v_kint (x := 1)); exact rfl; exact hP; clear hP; intro hP
  repeat' (first
    | ((fail_if_success (have hTest : Hld False := hP)); (have hq := chk_c hP); (replace hP := chk_p hP))
    | (with_reducible (first | apply c_seq | apply c_rg | apply j_nil | apply q_n | apply c_bl | apply c_ex | apply c_ret | apply c_sk | apply q_r | apply q_e | apply b_r | apply b_e | apply b_n | apply n_n | apply n_r | apply n_e))
    | ((with_reducible apply c_l1); exact rfl; exact rfl)
    | ((with_reducible apply j_v); exact rfl; exact rfl)
    | ((with_reducible apply v_lenm); exact rfl; exact rfl; exact rfl; (exact hP); clear hP; intro hP)
    | ((with_reducible apply j_add); exact rfl; exact rfl; exact rfl; (with_reducible apply wr_i64; (apply chk_c; exact hP; (first | skip))))
    | ((with_reducible apply v_ia); exact rfl; exact rfl; exact rfl; exact rfl; (case inst => exact inferInstance); exact rfl; exact rfl; (apply chk_c; exact hP; (first | skip)))
    | ((with_reducible apply r_g); exact rfl; (· repeat' (first | exact True.intro | refine And.intro ?_ ?_)); (exact hP.out))
    | ((with_reducible refine v_loopat (c := (.seq (.region 2 _ _) _)) ?_); (apply (v_loop1 _ [1, 7, 8] [] (fun x1 => [(9, .one (.d (.int .i64 x1)))]) (fun x1 => []) [])); exact rfl; exact rfl; exact ⟨(by repeat' (first | exact .nil | refine .cons ?_ ?_ | exact SVle_pl rfl)), (by repeat' (first | exact .nil))⟩; (exact hP); clear hP; intro I μ x1 hP)
    | ((with_reducible apply (v_nxt1 (a1 := _))); (repeat' (first | exact .nil | refine .cons ?_ ?_ | exact SVle_pl rfl)); (repeat' (first | exact .nil | exact .nil _ | refine .cons ?_ ?_ | exact .u _ | exact SVle_pl rfl | refine .one ?_ | refine .agg ?_ | exact .d rfl | exact .ref rfl rfl | exact .sl rfl (by first | rfl | exact List.length_set.symm | exact (splT_len (by simp only [List.length_take, List.length_drop]; omega)).symm | omega | (rw [List.length_append, List.length_map]; show _ + 1 = _; omega) | simp) | exact .fn _ | exact .tape | exact .nils rfl | exact .nild | exact .nildm | exact .nil | exact .rp (by simp) | exact .clo (by simp) | exact .el rfl rfl rfl | exact .d (by first | rfl | (congr 1; omega) | (congr 1; assumption) | simp) | exact .virt rfl | exact .gone _ | refine .blk rfl ?_ | exact .arr rfl (by first | rfl | assumption | simp))); (exact hP))
    | ((with_reducible apply v_if); exact rfl; (exact hP); all_goals (clear hP; intro hc hP)))
def at_ (l : List Int) (x : Int) : Int := idxOf (fun y => decide (y = x)) l
def hasB (l : List Int) (x : Int) : Bool := decide (x ∈ l)
theorem hasB_at (l : List Int) (x : Int) : decide (0 ≤ at_ l x) = hasB l x := by
  unfold at_ hasB
  rw [idxOf_ge, Bool.eq_iff_iff]
  simp
theorem sIndex_ic (l : List Int) (x : Int) : ICt 100 [lv l, iv x] (fun v => v = iv (at_ l x)) := (sIndex_V l x _).2 (by
  (delta sIndex_V; dsimp only [mkV])
  (repeat' (first | with_reducible refine brn_nd (fun h => ?_) (fun h => ?_) | with_reducible refine brn_d (fun h => ?_) (fun h => ?_) | with_reducible refine brn_nn (fun h => ?_) (fun h => ?_) | with_reducible refine brn_nb (fun h => ?_) (fun h => ?_) | with_reducible refine Brn.mk (fun h => ?_) (fun h => ?_) | with_reducible refine Chk.mk ?_ ?_ | with_reducible refine Bth.mk ?_ ?_ | with_reducible refine Fct.mk (fun hf => ?_)))
  refine up1 (fun z => x ∉ l.take z.toNat) (by omega) (by simp) ?_ ?_
  · rintro I μ z h0 h1 hj nx
    obtain ⟨i, rfl, hi⟩ := natz h0 h1
    simp only [Int.toNat_natCast] at hj
    (repeat' (first | with_reducible refine brn_nd (fun h => ?_) (fun h => ?_) | with_reducible refine brn_d (fun h => ?_) (fun h => ?_) | with_reducible refine brn_nn (fun h => ?_) (fun h => ?_) | with_reducible refine brn_nb (fun h => ?_) (fun h => ?_) | with_reducible refine Brn.mk (fun h => ?_) (fun h => ?_) | with_reducible refine Chk.mk ?_ ?_ | with_reducible refine Bth.mk ?_ ?_ | with_reducible refine Fct.mk (fun hf => ?_)))
    · omega
    · refine congrArg iv (idxOf_at (i := i) (by omega) (by rw [← gt_nat (by omega)]; simp [h]) fun j hj' => ?_).symm
      have : l[j] ∈ l.take i := by rw [List.mem_take_iff_getElem]; exact ⟨j, by omega, rfl⟩
      simp only [decide_eq_false_iff_not]
      intro e; exact hj (e ▸ this)
    · omega
    · refine nx ?_
      have e : ((i : Int) + 1).toNat = i + 1 := by omega
      rw [e, take_snoc (by omega)]
      simp [hj, h]
  · intro I μ hj
    simp only [Int.toNat_natCast, List.take_length] at hj
    refine congrArg iv (idxOf_none fun y hy => ?_).symm
    simp only [decide_eq_false_iff_not]
    intro e; exact hj (e ▸ hy))
theorem rHas_ic (l : List Int) (x : Int) : ICt 23 [lv l, iv x] (fun v => v = bv (hasB l x)) := (rHas_V l x _).2 (by
  (delta rHas_V; dsimp only [mkV])
  (repeat' (first | with_reducible refine brn_nd (fun h => ?_) (fun h => ?_) | with_reducible refine brn_d (fun h => ?_) (fun h => ?_) | with_reducible refine brn_nn (fun h => ?_) (fun h => ?_) | with_reducible refine brn_nb (fun h => ?_) (fun h => ?_) | with_reducible refine Brn.mk (fun h => ?_) (fun h => ?_) | with_reducible refine Chk.mk ?_ ?_ | with_reducible refine Bth.mk ?_ ?_ | with_reducible refine Fct.mk (fun hf => ?_)))
  refine up1 (fun z => x ∉ l.take z.toNat) (by omega) (by simp) ?_ ?_
  · rintro I μ z h0 h1 hj nx
    obtain ⟨i, rfl, hi⟩ := natz h0 h1
    simp only [Int.toNat_natCast] at hj
    (repeat' (first | with_reducible refine brn_nd (fun h => ?_) (fun h => ?_) | with_reducible refine brn_d (fun h => ?_) (fun h => ?_) | with_reducible refine brn_nn (fun h => ?_) (fun h => ?_) | with_reducible refine brn_nb (fun h => ?_) (fun h => ?_) | with_reducible refine Brn.mk (fun h => ?_) (fun h => ?_) | with_reducible refine Chk.mk ?_ ?_ | with_reducible refine Bth.mk ?_ ?_ | with_reducible refine Fct.mk (fun hf => ?_)))
    · omega
    · have := gt_mem (xs := l) h0 h1
      rw [h] at this
      simp [hasB, this]
    · omega
    · refine nx ?_
      have e : ((i : Int) + 1).toNat = i + 1 := by omega
      rw [e, take_snoc (by omega)]
      simp only [List.mem_append, List.mem_singleton, not_or]
      exact ⟨hj, fun e => h e.symm⟩
  · intro I μ hj
    simp only [Int.toNat_natCast, List.take_length] at hj
    simp [hasB, hj])
noncomputable def sContains_V (l : List Int) (x : Int) (Q : SV → Prop) : Σ' P : Prop, (P → ICt 76 [.one (.d (.list (List.map irow l))), .one (.d (.int .i64 x))] Q) := by
  apply mkV; intro hP
  refine ic_wk (K 9) Try.func76 rfl rfl rfl rfl (fun w0 => ?_)
  apply (v_kint (x := 1)); exact rfl; exact hP; clear hP; intro hP
  repeat' (first
    | (with_reducible (first | apply c_seq | apply c_rg | apply j_nil | apply q_n | apply c_ret))
    | ((with_reducible apply j_v); exact rfl; exact rfl)
    | ((with_reducible apply r_g); exact rfl; (· repeat' (first | exact True.intro | refine And.intro ?_ ?_)); (exact hP.out))
    | ((with_reducible apply j_call (pu := false)); exact rfl; (apply (sIndex_ic _ _); rotate_left 2); (focus ((repeat' (first | exact .nil _ | refine PsSL.cons ?_ ?_ | exact .one (.d _ _))) <;> fail)); exact .inr rfl))
theorem sContains_ic (l : List Int) (x : Int) : ICt 76 [lv l, iv x] (fun v => v = bv (hasB l x)) := (sContains_V l x _).2 (by
  (delta sContains_V; dsimp only [mkV])
  (repeat' (first | with_reducible refine brn_nd (fun h => ?_) (fun h => ?_) | with_reducible refine brn_d (fun h => ?_) (fun h => ?_) | with_reducible refine brn_nn (fun h => ?_) (fun h => ?_) | with_reducible refine brn_nb (fun h => ?_) (fun h => ?_) | with_reducible refine Brn.mk (fun h => ?_) (fun h => ?_) | with_reducible refine Chk.mk ?_ ?_ | with_reducible refine Bth.mk ?_ ?_ | with_reducible refine Fct.mk (fun hf => ?_)))
  exact congrArg bv (hasB_at l x))
theorem thoS_len (l : List Bool) : (thoS l).length ≤ l.length := selN_len ..
theorem upwS_len (d : Dir) (p t : Int) : (upwS d p t).length ≤ 1000000000 := by
  unfold upwS
  split
  · rename_i h
    have hh := Bool.and_eq_true_iff.1 h
    have h1 := thoS_len (upS (atT d t) p)
    have h2 := (atT_sq (t := t) hh.1).n
    rw [upS_len] at h1
    omega
  · simp
noncomputable def Groups_V (d : Dir) (p : Int) (t : Int) (Q : SV → Prop) : Σ' P : Prop, (P → ICt 40 [.agg (List.map .d (Dir.row d)), .one (.d (.int .i64 p)), .one (.d (.int .i64 t))] Q) := by
  apply mkV; intro hP
  refine ic_wk (K 13) Try.func40 rfl rfl rfl rfl (fun w0 => ?_)
  apply (v_kint (x := 1)); exact rfl; exact hP; clear hP; intro hP
  apply (v_kint (x := 2)); exact rfl; exact hP; clear hP; intro hP
  repeat' (first
    | ((fail_if_success (have hTest : Hld False := hP)); (have hq := chk_c hP); (replace hP := chk_p hP))
    | (with_reducible (first | apply c_seq | apply c_rg | apply j_nil | apply q_n | apply c_ret))
    | ((with_reducible apply j_v); exact rfl; exact rfl)
    | ((with_reducible apply j_h); exact rfl; exact rfl)
    | ((with_reducible apply r_g); exact rfl; (· repeat' (first | exact True.intro | refine And.intro ?_ ?_ | (show (_ : Nat) = _; (first | exact (List.length_map _).symm)))); (exact hP.out))
    | ((with_reducible apply v_colp); exact rfl; exact ⟨rfl, rfl⟩; (apply (Upward_ico _ _ _); rotate_left 3); (focus ((repeat' (first | exact .nil _ | refine PsL.cons ?_ ?_ | refine PsSL.cons ?_ ?_ | exact .one (.d _ _) | refine .agg ?_ | exact .d _ _)) <;> fail)); exact (fun _ => rfl); exact rfl; (apply chk_c; exact hP; (first | skip)))
    | ((with_reducible apply v_del); exact rfl; exact del_c; exact rfl; exact rfl; exact rfl; exact rfl; (first | exact rfl); (apply chk_c; exact hP; (first | skip))))
noncomputable def grpsS (d : Dir) (p t : Int) : List Int := (upwS d p t).filter fun q => !decide (q = p)
theorem Groups_ic (d : Dir) (p t : Int) : ICt 40 [d.v, iv p, iv t] (fun v => v = lv (grpsS d p t)) := (Groups_V d p t _).2 (by 
  (delta Groups_V; dsimp only [mkV])
  (repeat' (first | with_reducible refine brn_nd (fun h => ?_) (fun h => ?_) | with_reducible refine brn_d (fun h => ?_) (fun h => ?_) | with_reducible refine brn_nn (fun h => ?_) (fun h => ?_) | with_reducible refine brn_nb (fun h => ?_) (fun h => ?_) | with_reducible refine Brn.mk (fun h => ?_) (fun h => ?_) | with_reducible refine Chk.mk ?_ ?_ | with_reducible refine Bth.mk ?_ ?_ | with_reducible refine Fct.mk (fun hf => ?_)))
  · exact True.intro
  · exact upwS_len d p t
  · rfl)
noncomputable def dIn_V (d : Dir) (p : Int) (g : Int) (t : Int) (Q : SV → Prop) : Σ' P : Prop, (P → ICt 38 [.agg (List.map .d (Dir.row d)), .one (.d (.int .i64 p)), .one (.d (.int .i64 g)), .one (.d (.int .i64 t))] Q) := by
  apply mkV; intro hP
  refine ic_wk (K 15) Try.func38 rfl rfl rfl rfl (fun w0 => ?_)
  apply (v_kint (x := 1)); exact rfl; exact hP; clear hP; intro hP
  apply (v_kint (x := 2)); exact rfl; exact hP; clear hP; intro hP
  apply (v_kint (x := 3)); exact rfl; exact hP; clear hP; intro hP
  repeat' (first
    | (with_reducible (first | apply c_seq | apply c_rg | apply j_nil | apply q_n | apply c_ret))
    | ((with_reducible apply j_v); exact rfl; exact rfl)
    | ((with_reducible apply j_h); exact rfl; exact rfl)
    | ((with_reducible apply r_g); exact rfl; (· repeat' (first | exact True.intro | refine And.intro ?_ ?_)); (exact hP.out))
    | ((with_reducible apply j_call (pu := true)); exact rfl; (apply (Groups_ic _ _ _); rotate_left 3); (focus ((repeat' (first | exact .nil _ | refine PsL.cons ?_ ?_ | refine PsSL.cons ?_ ?_ | exact .one (.d _ _) | refine .agg ?_ | exact .d _ _)) <;> fail)); exact .inl rfl)
    | ((with_reducible apply j_call (pu := false)); exact rfl; (apply (sContains_ic _ _); rotate_left 2); (focus ((repeat' (first | exact .nil _ | refine PsSL.cons ?_ ?_ | exact .one (.d _ _))) <;> fail)); exact .inr rfl))
theorem dIn_ic (d : Dir) (p g t : Int) : ICt 38 [d.v, iv p, iv g, iv t] (fun v => v = bv (hasB (grpsS d p t) g)) := (dIn_V d p g t _).2 (by 
  (delta dIn_V; dsimp only [mkV])
  (repeat' (first | with_reducible refine brn_nd (fun h => ?_) (fun h => ?_) | with_reducible refine brn_d (fun h => ?_) (fun h => ?_) | with_reducible refine brn_nn (fun h => ?_) (fun h => ?_) | with_reducible refine brn_nb (fun h => ?_) (fun h => ?_) | with_reducible refine Brn.mk (fun h => ?_) (fun h => ?_) | with_reducible refine Chk.mk ?_ ?_ | with_reducible refine Bth.mk ?_ ?_ | with_reducible refine Fct.mk (fun hf => ?_)))
  rfl)
theorem grp_no {d : Dir} {g : Int} (h : (dirB d && d.ex g) = false) : ¬ (dirB d && d.grp g) = true := fun hh => by
  have h1 := Bool.and_eq_true_iff.1 hh
  have h2 := h1.2
  simp only [Dir.grp, Bool.and_eq_true] at h2
  rw [h1.1, h2.1] at h
  cases h
noncomputable def Direct_V (d : Dir) (g : Int) (t : Int) (Q : SV → Prop) : Σ' P : Prop, (P → ICt 37 [.agg (List.map .d (Dir.row d)), .one (.d (.int .i64 g)), .one (.d (.int .i64 t))] Q) := by
  apply mkV; intro hP
  refine ic_wk (K 39) Try.func37 rfl rfl rfl rfl (fun w0 => ?_)
  apply (v_kint (x := 1)); exact rfl; exact hP; clear hP; intro hP
  apply (v_kint (x := 2)); exact rfl; exact hP; clear hP; intro hP
  repeat' (first
    | ((fail_if_success (have hTest : Hld False := hP)); (have hq := chk_c hP); (replace hP := chk_p hP))
    | (with_reducible (first | apply c_seq | apply c_rg | apply j_nil | apply q_n | apply g_ff | apply c_ct | apply c_bl | apply c_ex | apply c_ret | apply c_sk | apply q_r | apply q_e | apply b_e | apply b_n | apply n_n | apply n_e))
    | ((with_reducible apply c_l1); exact rfl; exact rfl)
    | ((with_reducible apply j_v); exact rfl; exact rfl)
    | ((with_reducible apply (v_bsf (d := 35) (irow))); exact rfl; exact rfl; exact (row_cons (irow_mk _) row_nil); exact rfl; exact rfl)
    | ((with_reducible apply j_h); exact rfl; exact rfl)
    | ((with_reducible apply j_g); exact rfl; exact rfl; (first | with_reducible assumption))
    | ((with_reducible apply g_tf); exact rfl)
    | ((with_reducible apply v_lenm); exact rfl; exact rfl; exact rfl; (exact hP); clear hP; intro hP)
    | ((with_reducible apply j_pk); exact rfl; exact rfl; (first | with_reducible assumption); exact rfl)
    | ((with_reducible apply j_add); exact rfl; exact rfl; exact rfl; (with_reducible apply wr_i64; (apply chk_c; exact hP; (first | skip))))
    | ((with_reducible apply v_ia); exact rfl; exact rfl; exact rfl; exact rfl; (case inst => exact inferInstance); exact rfl; exact rfl; (apply chk_c; exact hP; (first | skip)))
    | ((with_reducible apply (v_ap (irow))); exact rfl; exact rfl; exact rfl; exact rfl; exact rfl; exact rfl; exact rfl; (first | exact rfl); exact rfl; exact rfl; exact rfl; (apply src_d; exact rfl; (intro row hrow; obtain ⟨q, _, rfl⟩ := List.mem_map.1 hrow; rfl)); (first | exact rfl); exact rfl; exact rfl; exact rfl; (apply chk_c; exact hP; (first | skip)))
    | ((with_reducible apply c_c); exact rfl; (first | with_reducible exact Eq.refl true))
    | ((with_reducible apply r_g); exact rfl; (· repeat' (first | exact True.intro | refine And.intro ?_ ?_ | (show (_ : Nat) = _; (first | exact (List.length_map _).symm)))); (exact hP.out))
    | ((with_reducible apply j_call (pu := false)); exact rfl; (first | (apply (known_ic _ _); rotate_left 2) | (apply (dgroup_ic _ _); rotate_left 2)); (focus ((repeat' (first | exact .nil _ | refine PsL.cons ?_ ?_ | refine PsSL.cons ?_ ?_ | exact .one (.d _ _) | refine .agg ?_ | exact .d _ _)) <;> fail)); exact .inr rfl)
    | ((with_reducible apply v_call (pu := true)); exact rfl; exact ⟨rfl, rfl⟩; (apply (at23_ic _ _); rotate_left 2); (focus ((repeat' (first | exact .nil _ | refine PsL.cons ?_ ?_ | refine PsSL.cons ?_ ?_ | exact .one (.d _ _) | refine .agg ?_ | exact .d _ _)) <;> fail)); exact .inl rfl; (apply chk_c; exact hP; (first | skip)))
    | ((with_reducible refine v_loopat (c := (.seq (.region 5 _ _) _)) ?_); (apply (v_loop2 [] _ [1, 22, 23] [] (fun x1 x2 => [(7, .one (.sl 207 (List.length x1) 1)), (24, .one (.d (.int .i64 x2)))]) (fun x1 x2 => [(207, .arr 3 1 (List.map irow x1))]) [207])); exact rfl; exact rfl; (focus (refine ⟨?_, ?_⟩; rotate_left 1; (focus (repeat' (first | exact .nil | refine .cons ?_ ?_ | exact .virt rfl))); (focus (repeat' (first | exact .nil | refine .cons ?_ ?_ | exact SVle_pl rfl | refine .one ?_ | exact .nils rfl))))); (exact hP); clear hP; intro I μ x1 x2 hP)
    | ((with_reducible apply (v_nxt2 (a1 := _) (a2 := _))); rotate_left 1; (focus (repeat' (first | exact .nil | refine .cons ?_ ?_ | exact .arr rfl (by first | rfl | assumption | simp)))); rotate_right 1; (focus (repeat' (first | exact .nil | refine .cons ?_ ?_ | exact SVle_pl rfl | refine .one ?_ | exact .sl rfl (by first | rfl | exact List.length_set.symm | exact (splT_len (by simp only [List.length_take, List.length_drop]; omega)).symm | omega | (rw [List.length_append, List.length_map]; show _ + 1 = _; omega) | simp)))); (exact hP))
    | ((with_reducible apply v_gs); exact rfl; exact rfl; (exact hP); all_goals (clear hP; intro hg hP))
    | ((with_reducible apply v_if); exact rfl; (exact hP); all_goals (clear hP; intro hc hP)))
def dirS (d : Dir) (g t : Int) : List Int := if (dirB d && d.grp g) = true then selN d.kinds.length (fun p => d.edge t p g) else []
theorem Direct_ic (d : Dir) (g t : Int) : ICt 37 [d.v, iv g, iv t] (fun v => v = lv (dirS d g t)) := (Direct_V d g t _).2 (by 
  (delta Direct_V; dsimp only [mkV])
  (repeat' (first | with_reducible refine brn_nd (fun h => ?_) (fun h => ?_) | with_reducible refine brn_d (fun h => ?_) (fun h => ?_) | with_reducible refine brn_nn (fun h => ?_) (fun h => ?_) | with_reducible refine brn_nb (fun h => ?_) (fun h => ?_) | with_reducible refine Brn.mk (fun h => ?_) (fun h => ?_) | with_reducible refine Chk.mk ?_ ?_ | with_reducible refine Bth.mk ?_ ?_ | with_reducible refine Fct.mk (fun hf => ?_)))
  · rw [dirS, if_neg (grp_no (by assumption))]; rfl
  · simp [dirS, *]
  all_goals (have hh := Bool.and_eq_true_iff.1 (show (dirB d && d.ex g) = true by assumption))
  · exact hh.1
  have hg := ex_iff.1 hh.2
  have hn := (dirB_iff.1 hh.1).1
  rw [show ((atT d t).length : Int) = (d.kinds.length : Int) by rw [atT_len]]
  refine upSel (fun p => d.edge t p g) (by omega) (fun I μ o z h0 h1 hl a b => ?_) (fun I μ => ?_)
  · have e1 : (gt (atT d t) z).length = d.kinds.length := tblL_rowlen h0 h1
    have e2 : gt (gt (atT d t) z) g = d.edge t z g := tblL_cell h0 h1 hg.1 hg.2
    rw [e2]
    (repeat' (first | with_reducible refine brn_nd (fun h => ?_) (fun h => ?_) | with_reducible refine brn_d (fun h => ?_) (fun h => ?_) | with_reducible refine brn_nn (fun h => ?_) (fun h => ?_) | with_reducible refine brn_nb (fun h => ?_) (fun h => ?_) | with_reducible refine Brn.mk (fun h => ?_) (fun h => ?_) | with_reducible refine Chk.mk ?_ ?_ | with_reducible refine Bth.mk ?_ ?_ | with_reducible refine Fct.mk (fun hf => ?_)))
    all_goals (first | omega | (simp; omega) | skip)
    · exact a (by assumption)
    · exact b (by assumption)
  · rw [dirS, if_pos (by rw [hh.1]; simpa using (by assumption : d.grp g = true))])
noncomputable def Members_V (d : Dir) (g : Int) (t : Int) (Q : SV → Prop) : Σ' P : Prop, (P → ICt 39 [.agg (List.map .d (Dir.row d)), .one (.d (.int .i64 g)), .one (.d (.int .i64 t))] Q) := by
  apply mkV; intro hP
  refine ic_wk (K 47) Try.func39 rfl rfl rfl rfl (fun w0 => ?_)
  apply (v_kint (x := 1)); exact rfl; exact hP; clear hP; intro hP
  apply (v_kint (x := 2)); exact rfl; exact hP; clear hP; intro hP
  repeat' (first
    | ((fail_if_success (have hTest : Hld False := hP)); (have hq := chk_c hP); (replace hP := chk_p hP))
    | (with_reducible (first | apply c_seq | apply c_rg | apply j_nil | apply q_n | apply g_tt | apply g_ff | apply c_ct | apply c_cf | apply c_bl | apply c_ex | apply c_ret | apply c_sk | apply q_r | apply q_e | apply b_e | apply b_n | apply n_n | apply n_e))
    | ((with_reducible apply c_l1); exact rfl; exact rfl)
    | ((with_reducible apply j_v); exact rfl; exact rfl)
    | ((with_reducible apply (v_bsf (d := 43) (irow))); exact rfl; exact rfl; exact (row_cons (irow_mk _) row_nil); exact rfl; exact rfl)
    | ((with_reducible apply j_h); exact rfl; exact rfl)
    | ((with_reducible apply j_g); exact rfl; exact rfl; (first | with_reducible assumption))
    | ((with_reducible apply g_tf); exact rfl)
    | ((with_reducible apply g_ft); exact rfl)
    | ((with_reducible apply v_lenm); exact rfl; exact rfl; exact rfl; (exact hP); clear hP; intro hP)
    | ((with_reducible apply j_pk); exact rfl; exact rfl; (first | with_reducible assumption); exact rfl)
    | ((with_reducible apply j_add); exact rfl; exact rfl; exact rfl; (with_reducible apply wr_i64; (apply chk_c; exact hP; (first | skip))))
    | ((with_reducible apply v_ia); exact rfl; exact rfl; exact rfl; exact rfl; (case inst => exact inferInstance); exact rfl; exact rfl; (apply chk_c; exact hP; (first | skip)))
    | ((with_reducible apply (v_ap (irow))); exact rfl; exact rfl; exact rfl; exact rfl; exact rfl; exact rfl; exact rfl; (first | exact rfl); exact rfl; exact rfl; exact rfl; (apply src_d; exact rfl; (intro row hrow; obtain ⟨q, _, rfl⟩ := List.mem_map.1 hrow; rfl)); (first | exact rfl); exact rfl; exact rfl; exact rfl; (apply chk_c; exact hP; (first | skip)))
    | ((with_reducible apply c_c); exact rfl; (first | with_reducible exact Eq.refl true | with_reducible exact Eq.refl false))
    | ((with_reducible apply r_g); exact rfl; (· repeat' (first | exact True.intro | refine And.intro ?_ ?_ | (show (_ : Nat) = _; (first | exact (List.length_map _).symm)))); (exact hP.out))
    | ((with_reducible apply j_call (pu := false)); exact rfl; (first | (apply (known_ic _ _); rotate_left 2) | (apply (dgroup_ic _ _); rotate_left 2)); (focus ((repeat' (first | exact .nil _ | refine PsL.cons ?_ ?_ | refine PsSL.cons ?_ ?_ | exact .one (.d _ _) | refine .agg ?_ | exact .d _ _)) <;> fail)); exact .inr rfl)
    | ((with_reducible apply v_call (pu := true)); exact rfl; exact ⟨rfl, rfl⟩; (first | (apply (at23_ic _ _); rotate_left 2) | (apply (upw_ic _ _); rotate_left 2)); (focus ((repeat' (first | exact .nil _ | refine PsL.cons ?_ ?_ | refine PsSL.cons ?_ ?_ | exact .one (.d _ _) | refine .agg ?_ | exact .d _ _)) <;> fail)); exact .inl rfl; (apply chk_c; exact hP; (first | skip)))
    | ((with_reducible refine v_loopat (c := (.seq (.region 6 _ _) _)) ?_); (apply (v_loop2 [] _ [1, 3, 7, 25] [3] (fun x1 x2 => [(8, .one (.sl 208 (List.length x1) 1)), (26, .one (.d (.int .i64 x2)))]) (fun x1 x2 => [(208, .arr 3 1 (List.map irow x1))]) [208])); exact rfl; exact rfl; (focus (refine ⟨?_, ?_⟩; rotate_left 1; (focus (repeat' (first | exact .nil | refine .cons ?_ ?_ | exact .d rfl | exact .virt rfl | refine .blk rfl ?_))); (focus (repeat' (first | exact .nil | refine .cons ?_ ?_ | exact SVle_pl rfl | refine .one ?_ | exact .ref rfl rfl | exact .nils rfl))))); (exact hP); clear hP; intro I μ x1 x2 hP)
    | ((with_reducible apply (v_nxt2 (a1 := _) (a2 := _))); rotate_left 1; (focus (repeat' (first | exact .nil | refine .cons ?_ ?_ | exact .d rfl | refine .blk rfl ?_ | exact .arr rfl (by first | rfl | assumption | simp)))); rotate_right 1; (focus (repeat' (first | exact .nil | refine .cons ?_ ?_ | exact SVle_pl rfl | refine .one ?_ | exact .ref rfl rfl | exact .sl rfl (by first | rfl | exact List.length_set.symm | exact (splT_len (by simp only [List.length_take, List.length_drop]; omega)).symm | omega | (rw [List.length_append, List.length_map]; show _ + 1 = _; omega) | simp)))); (exact hP))
    | ((with_reducible apply v_gs); exact rfl; exact rfl; (exact hP); all_goals (clear hP; intro hg hP))
    | ((with_reducible apply v_if); exact rfl; (exact hP); all_goals (clear hP; intro hc hP)))
noncomputable def memS (d : Dir) (g t : Int) : List Int := if (dirB d && d.grp g) = true then selN d.kinds.length (fun p => !d.grp p && gt (upS (atT d t) p) g) else []
theorem Members_ic (d : Dir) (g t : Int) : ICt 39 [d.v, iv g, iv t] (fun v => v = lv (memS d g t)) := (Members_V d g t _).2 (by 
  (delta Members_V; dsimp only [mkV])
  (repeat' (first | with_reducible refine brn_nd (fun h => ?_) (fun h => ?_) | with_reducible refine brn_d (fun h => ?_) (fun h => ?_) | with_reducible refine brn_nn (fun h => ?_) (fun h => ?_) | with_reducible refine brn_nb (fun h => ?_) (fun h => ?_) | with_reducible refine Brn.mk (fun h => ?_) (fun h => ?_) | with_reducible refine Chk.mk ?_ ?_ | with_reducible refine Bth.mk ?_ ?_ | with_reducible refine Fct.mk (fun hf => ?_)))
  · rw [memS, if_neg (grp_no (by assumption))]; rfl
  · simp [memS, *]
  all_goals (have hh := Bool.and_eq_true_iff.1 (show (dirB d && d.ex g) = true by assumption))
  · exact hh.1
  have hg := ex_iff.1 hh.2
  have hn := (dirB_iff.1 hh.1).1
  refine upSel (fun p => !d.grp p && gt (upS (atT d t) p) g) (by omega) (fun I μ o z h0 h1 hl a b => ?_) (fun I μ => ?_)
  · have e1 : (upS (atT d t) z).length = d.kinds.length := by rw [upS_len, atT_len]
    have e2 := atT_len d t
    (repeat' (first | with_reducible refine brn_nd (fun h => ?_) (fun h => ?_) | with_reducible refine brn_d (fun h => ?_) (fun h => ?_) | with_reducible refine brn_nn (fun h => ?_) (fun h => ?_) | with_reducible refine brn_nb (fun h => ?_) (fun h => ?_) | with_reducible refine Brn.mk (fun h => ?_) (fun h => ?_) | with_reducible refine Chk.mk ?_ ?_ | with_reducible refine Bth.mk ?_ ?_ | with_reducible refine Fct.mk (fun hf => ?_)))
    all_goals (first | omega | (simp; omega) | (exact ⟨atT_sq hh.1, by omega, by omega⟩) | skip)
    · exact a (by simp_all)
    · exact b (by simp_all)
    · exact b (by simp_all)
  · rw [memS, if_pos (by rw [hh.1]; simpa using (by assumption : d.grp g = true))])
end Go.Proofs.Ytoflahjlnbligaa
