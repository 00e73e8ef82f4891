/- plan.From; who is fit. -/
import Derived.Test.YtcbppkfnfbdkhaaPs
set_option linter.all false
set_option maxRecDepth 20000
set_option maxHeartbeats 4000000
namespace Go.Proofs.Ytcbppkfnfbdkhaa
open Go.RowKit Go.Shelf
noncomputable def Fit_V (f : Flt) (p : Int) (Q : SV → Prop) : Σ' P : Prop, (P → ICt 130 [.agg (List.map .d (Flt.row f)), .one (.d (.int .i64 p))] Q) := by
  apply mkV; intro hP
  refine ic_wk (K 34) Try.func130 rfl rfl rfl rfl (fun w0 => ?_)
  apply (v_kint (x := 1)); exact rfl; exact hP; clear hP; intro hP
  repeat' (first
    | (with_reducible (first | apply c_seq | apply c_rg | apply j_nil | apply q_n | apply g_tt | apply g_ff | apply c_ret | apply c_sk | apply q_r))
    | ((with_reducible apply j_v); exact rfl; exact rfl)
    | ((with_reducible apply j_h); exact rfl; exact rfl)
    | ((with_reducible apply j_g); exact rfl; exact rfl; (first | with_reducible assumption))
    | ((with_reducible apply g_tf); exact rfl)
    | ((with_reducible apply g_ft); exact rfl)
    | ((with_reducible apply j_gz); exact rfl; exact rfl; exact rfl)
    | ((with_reducible apply v_lenm); exact rfl; exact rfl; exact rfl; (exact hP); clear hP; intro hP)
    | ((with_reducible apply j_pk); exact rfl; exact rfl; (first | with_reducible assumption); exact rfl)
    | ((with_reducible apply r_g); exact rfl; (· repeat' (first | exact True.intro | refine And.intro ?_ ?_)); (exact hP.out))
    | ((with_reducible apply j_call (pu := true)); exact rfl; (apply (Units_ic _ _); rotate_left 2); (focus ((repeat' (first | exact .nil _ | refine PsL.cons ?_ ?_ | refine PsSL.cons ?_ ?_ | exact .one (.d _ _) | refine .agg ?_ | exact .d _ _)) <;> fail)); exact .inl rfl)
    | ((with_reducible refine v_rgat (i := 4) ?_); (refine n_start (by kernel_rfl) ?_; (refine n_quiet (some [6]) #[true, true, true, true, true, true, true, true, true] [0, 1, 2, 3, 4, 5, 6, 7, 8] 0 rfl ?_; (repeat' (first | ((fail_if_success (have hTest : Hld False := hP)); (have hq := chk_c hP); (replace hP := chk_p hP)) | ((with_reducible apply (d_e (some []))); exact rfl; exact rfl; kernel_rfl; exact (by decide +kernel); exact rfl; exact rfl; (first | ((with_reducible apply e_v); exact rfl) | ((with_reducible apply f_ia); exact rfl; exact rfl; exact rfl; (case inst => exact inferInstance); exact rfl; exact rfl; (apply chk_c; exact hP; (first | skip))))) | ((with_reducible apply d_st); exact rfl; exact (by decide +kernel); exact rfl; exact rfl; exact rfl; exact rfl; exact rfl; exact rfl; exact rfl) | ((with_reducible apply d_al); exact rfl; exact rfl; exact (by decide +kernel); exact rfl; exact rfl) | ((with_reducible apply d_leaf); exact (by decide +kernel)))); all_goals ((with_reducible apply n_doneZ); exact rfl; exact (by decide +kernel)))))
    | ((with_reducible apply v_gs); exact rfl; exact rfl; (exact hP); all_goals (clear hP; intro hg hP))
    | ((with_reducible apply v_if); exact rfl; (exact hP); all_goals (clear hP; intro hc hP)))
theorem Fit_ic (f : Flt) (p : Int) : ICt 130 [f.v, iv p] (fun v => v = bv (fitB f p)) := (Fit_V f p _).2 (by
  have hm : (unitsS f p).length = 1 → 0 ≤ gt (unitsS f p) 0 ∧ gt (unitsS f p) 0 < f.cons.length := fun h => by
    have hf : fltB f = true := by
      cases hc : fltB f with
      | true => rfl
      | false => unfold unitsS at h; rw [hc] at h; cases h
    obtain ⟨a, b, _⟩ := (mem_units hf).1 (gt_mem (xs := unitsS f p) (i := 0) (by omega) (by omega))
    exact ⟨a, b⟩
  (delta Fit_V; dsimp only [mkV])
  (repeat' (first | with_reducible refine brn_nd (fun h => ?_) (fun h => ?_) | with_reducible refine brn_d (fun h => ?_) (fun h => ?_) | with_reducible refine brn_nn (fun h => ?_) (fun h => ?_) | with_reducible refine brn_nb (fun h => ?_) (fun h => ?_) | with_reducible refine Brn.mk (fun h => ?_) (fun h => ?_) | with_reducible refine Chk.mk ?_ ?_ | with_reducible refine Bth.mk ?_ ?_ | with_reducible refine Fct.mk (fun hf => ?_)))
  · refine congrArg bv ?_
    unfold fitB
    rw [if_neg (by omega)]
    rw [decide_eq_decide]; omega
  · omega
  · exact hm (by omega)
  all_goals
    refine congrArg bv ?_
    have h1 : (unitsS f p).length = 1 := by omega
    unfold fitB
    rw [if_pos h1]
    simp [*])
noncomputable def Why35_V (f : Flt) (Q : SV → Prop) : Σ' P : Prop, (P → ICt 78 [.agg (List.map .d (Flt.row f))] Q) := by
  apply mkV; intro hP
  refine ic_wk (K 21) Try.func78 rfl rfl rfl rfl (fun w0 => ?_)
  repeat' (first
    | ((fail_if_success (have hTest : Hld False := hP)); (have hq := chk_c hP); (replace hP := chk_p hP))
    | (with_reducible (first | apply c_seq | apply c_rg | apply j_nil | apply q_n | apply c_bl | apply c_ex | apply c_ret | apply c_sk | apply q_r | apply q_e | apply b_r | apply b_e | apply b_n | apply n_n | apply n_r | apply n_e))
    | ((with_reducible apply c_l1); exact rfl; exact rfl)
    | ((with_reducible apply j_v); exact rfl; exact rfl)
    | ((with_reducible apply j_h); exact rfl; exact rfl)
    | ((with_reducible apply j_s); exact rfl)
    | ((with_reducible apply v_lenm); exact rfl; exact rfl; exact rfl; (exact hP); clear hP; intro hP)
    | ((with_reducible apply j_add); exact rfl; exact rfl; exact rfl; (with_reducible apply wr_i64; (apply chk_c; exact hP; (first | skip))))
    | ((with_reducible apply v_ia); exact rfl; exact rfl; exact rfl; exact rfl; (case inst => exact inferInstance); exact rfl; exact rfl; (apply chk_c; exact hP; (first | skip)))
    | ((with_reducible apply r_g); exact rfl; (· repeat' (first | exact True.intro | refine And.intro ?_ ?_)); (exact hP.out))
    | ((with_reducible apply j_call (pu := true)); exact rfl; (apply (Pools_ic _); rotate_left 1); (focus ((repeat' (first | exact .nil _ | refine PsL.cons ?_ ?_ | refine PsSL.cons ?_ ?_ | refine .agg ?_ | exact .d _ _)) <;> fail)); exact .inl rfl)
    | ((with_reducible apply j_call (pu := false)); exact rfl; (apply (Fit_ic _ _); rotate_left 2); (focus ((repeat' (first | exact .nil _ | refine PsL.cons ?_ ?_ | refine PsSL.cons ?_ ?_ | exact .one (.d _ _) | refine .agg ?_ | exact .d _ _)) <;> fail)); exact .inr rfl)
    | ((with_reducible refine v_loopat (c := (.seq (.region 2 _ _) _)) ?_); (apply (v_loop1 _ [1, 2, 7, 8] [1, 2] (fun x1 => [(9, .one (.d (.int .i64 x1)))]) (fun x1 => []) [])); exact rfl; exact rfl; exact ⟨(by repeat' (first | exact .nil | refine .cons ?_ ?_ | exact SVle_pl rfl | refine .one ?_ | exact .ref rfl rfl)), (by repeat' (first | exact .nil | refine .cons ?_ ?_ | exact .d rfl | refine .blk rfl ?_))⟩; (exact hP); clear hP; intro I μ x1 hP)
    | ((with_reducible apply (v_nxt1 (a1 := _))); (repeat' (first | exact .nil | refine .cons ?_ ?_ | exact SVle_pl rfl | refine .one ?_ | exact .d rfl | exact .ref rfl rfl | refine .blk rfl ?_)); (repeat' (first | exact .nil | exact .nil _ | refine .cons ?_ ?_ | exact .u _ | exact SVle_pl rfl | refine .one ?_ | refine .agg ?_ | exact .d rfl | exact .ref rfl rfl | exact .sl rfl (by first | rfl | exact List.length_set.symm | exact (splT_len (by simp only [List.length_take, List.length_drop]; omega)).symm | omega | (rw [List.length_append, List.length_map]; show _ + 1 = _; omega) | simp) | exact .fn _ | exact .tape | exact .nils rfl | exact .nild | exact .nildm | exact .nil | exact .rp (by simp) | exact .clo (by simp) | exact .el rfl rfl rfl | exact .d (by first | rfl | (congr 1; omega) | (congr 1; assumption) | simp) | exact .virt rfl | exact .gone _ | refine .blk rfl ?_ | exact .arr rfl (by first | rfl | assumption | simp))); (exact hP))
    | ((with_reducible apply v_if); exact rfl; (exact hP); all_goals (clear hP; intro hc hP)))
theorem pools_len (f : Flt) : (poolsS f).length ≤ f.cons.length := by
  unfold poolsS
  split
  · refine Nat.le_trans (compact_le _) ?_
    rw [sort_len]; simp
  · simp
theorem Why35_nd (f : Flt) : ICt 78 [f.v] (ND (fun r : Hnd × Bool => (∀ q ∈ poolsS f, fitB f q = true) → r.2 = false) (fun r => .tup [r.1.v, bv r.2])) := (Why35_V f _).2 (by
  (delta Why35_V; dsimp only [mkV])
  (repeat' (first | with_reducible refine brn_nd (fun h => ?_) (fun h => ?_) | with_reducible refine brn_d (fun h => ?_) (fun h => ?_) | with_reducible refine brn_nn (fun h => ?_) (fun h => ?_) | with_reducible refine brn_nb (fun h => ?_) (fun h => ?_) | with_reducible refine Brn.mk (fun h => ?_) (fun h => ?_) | with_reducible refine Chk.mk ?_ ?_ | with_reducible refine Bth.mk ?_ ?_ | with_reducible refine Fct.mk (fun hf => ?_)))
  refine up1 (fun z => ∀ j : Nat, (j : Int) < z → fitB f (gt (poolsS f) (j : Int)) = true) (by omega) (fun j hj => by omega) ?_ ?_
  · intro I μ z h0 h1 hj nx
    obtain ⟨i, rfl, hi⟩ := natz h0 h1
    (repeat' (first | with_reducible refine brn_nd (fun h => ?_) (fun h => ?_) | with_reducible refine brn_d (fun h => ?_) (fun h => ?_) | with_reducible refine brn_nn (fun h => ?_) (fun h => ?_) | with_reducible refine brn_nb (fun h => ?_) (fun h => ?_) | with_reducible refine Brn.mk (fun h => ?_) (fun h => ?_) | with_reducible refine Chk.mk ?_ ?_ | with_reducible refine Bth.mk ?_ ?_ | with_reducible refine Fct.mk (fun hf => ?_)))
    · omega
    · refine ⟨(⟨gt (poolsS f) (i : Int)⟩, true), ?_, rfl⟩
      intro hall
      rw [hall _ (gt_mem h0 h1)] at h; cases h
    · unfold InI; omega
    · refine nx fun j hj' => ?_
      by_cases e : j < i
      · exact hj j (by omega)
      · rw [show j = i by omega]; exact h
  · intro I μ hj
    exact ⟨(⟨0⟩, false), fun _ => rfl, rfl⟩)
def preP (f : Flt) (p : Rot × List Stp) (i : Nat) : Rot × List Stp := ((poolsS f).take i).foldl (prepS f) p
def setP (f : Flt) (p : Rot × List Stp) (i : Nat) : Rot × List Stp := ((poolsS f).take i).foldl (setlS f) p
theorem preP_s {f : Flt} {p : Rot × List Stp} {i : Nat} (h : i < (poolsS f).length) : preP f p (i + 1) = prepS f (preP f p i) (gt (poolsS f) (i : Int)) := by
  unfold preP; rw [take_snoc h, List.foldl_append]; rfl
theorem setP_s {f : Flt} {p : Rot × List Stp} {i : Nat} (h : i < (poolsS f).length) : setP f p (i + 1) = setlS f (setP f p i) (gt (poolsS f) (i : Int)) := by
  unfold setP; rw [take_snoc h, List.foldl_append]; rfl
theorem preps_units (f : Flt) : ∀ (l : List Int) (p : Rot × List Stp), (l.foldl (prepS f) p).1.units.length = p.1.units.length
  | [], p => rfl
  | x :: l, p => by rw [List.foldl_cons, preps_units f l, prepS_units]
theorem setls_units (f : Flt) : ∀ (l : List Int) (p : Rot × List Stp), (l.foldl (setlS f) p).1.units.length = p.1.units.length
  | [], p => rfl
  | x :: l, p => by rw [List.foldl_cons, setls_units f l, setlS_units]
theorem preP_units (f : Flt) (p : Rot × List Stp) (i : Nat) : (preP f p i).1.units.length = p.1.units.length := preps_units _ _ _
theorem setP_units (f : Flt) (p : Rot × List Stp) (i : Nat) : (setP f p i).1.units.length = p.1.units.length := setls_units _ _ _
theorem preP_len (f : Flt) (p : Rot × List Stp) (i : Nat) : (preP f p i).2.length ≤ p.2.length + 4 * i := by
  have h1 := preps_len f ((poolsS f).take i) p
  have h2 : ((poolsS f).take i).length ≤ i := by simp; omega
  unfold preP; omega
theorem setls_len36 (f : Flt) (h8 : f.cons.length ≤ 8) : ∀ (l : List Int) (p : Rot × List Stp), (l.foldl (setlS f) p).2.length ≤ p.2.length + 36 * l.length
  | [], p => by simp
  | x :: l, p => by
    have h1 := setls_len36 f h8 l (setlS f p x)
    have h2 := setlS_len f p x
    rw [List.foldl_cons, List.length_cons]; omega
theorem setP_len (f : Flt) (p : Rot × List Stp) (h8 : f.cons.length ≤ 8) (i : Nat) : (setP f p i).2.length ≤ p.2.length + 36 * i := by
  have h1 := setls_len36 f h8 ((poolsS f).take i) p
  have h2 : ((poolsS f).take i).length ≤ i := by simp; omega
  unfold setP; omega
theorem frA_units (f : Flt) (s : Rot) : (frA f s).1.units.length = s.units.length := by
  unfold frA; rw [doS_units, doS_units]
theorem frB_units (f : Flt) (s : Rot) : (frB f s).1.units.length = s.units.length := by
  unfold frB
  split
  · rw [doS_units, preps_units, frA_units]
  · exact frA_units f s
noncomputable def From_V (f : Flt) (s : Rot) (Q : SV → Prop) : Σ' P : Prop, (P → ICt 79 [.agg (List.map .d (Flt.row f)), .agg (List.map .d (Rot.row s))] Q) := by
  apply mkV; intro hP
  refine ic_wk (K 55) Try.func79 rfl rfl rfl rfl (fun w0 => ?_)
  repeat' (first
    | ((fail_if_success (have hTest : Hld False := hP)); (have hq := chk_c hP); (replace hP := chk_p hP))
    | (with_reducible (first | apply c_seq | apply c_rg | apply j_nil | apply q_n | apply c_bl | apply c_ex | apply c_ret | apply c_sk | apply q_e | apply b_e | apply b_n | apply n_n | apply n_e))
    | ((with_reducible apply c_l1); exact rfl; exact rfl)
    | ((with_reducible apply j_v); exact rfl; exact rfl)
    | ((with_reducible apply j_h); exact rfl; exact rfl)
    | ((with_reducible apply v_lenm); exact rfl; exact rfl; exact rfl; (exact hP); clear hP; intro hP)
    | ((with_reducible apply j_add); exact rfl; exact rfl; exact rfl; (with_reducible apply wr_i64; (apply chk_c; exact hP; (first | skip))))
    | ((with_reducible apply v_ia); exact rfl; exact rfl; exact rfl; exact rfl; (case inst => exact inferInstance); exact rfl; exact rfl; (apply chk_c; exact hP; (first | skip)))
    | ((with_reducible apply r_g); exact rfl; (· repeat' (first | exact True.intro | refine And.intro ?_ ?_ | (show (_ : Nat) = _; (first | exact (List.length_map _).symm)))); (exact hP.out))
    | ((with_reducible apply j_call (pu := true)); exact rfl; (apply (Pools_ic _); rotate_left 1); (focus ((repeat' (first | exact .nil _ | refine PsL.cons ?_ ?_ | refine PsSL.cons ?_ ?_ | refine .agg ?_ | exact .d _ _)) <;> fail)); exact .inl rfl)
    | ((with_reducible apply (v_callw0_0 (d := 18) 14)); exact rfl; exact ⟨rfl, rfl⟩; exact rfl; exact rfl; apply (do_icw _ _ _ _ _ [] _ _); rotate_left 7; exact rfl; exact rfl; exact rfl; (focus ((repeat' (first | exact ArgN.nil | refine ArgN.nm rfl rfl rfl ?_)) <;> fail)); exact rfl; exact rfl; exact rfl; (apply chk_c; exact hP; (first | skip)))
    | ((with_reducible apply (v_callw_0 (d := 20) 14 18)); exact rfl; exact ⟨rfl, rfl⟩; exact rfl; exact rfl; exact rfl; apply (do_icw _ _ _ _ _ _ _ _); rotate_left 7; exact rfl; (focus ((repeat' (first | exact ArgN.nil | refine ArgN.nm rfl rfl rfl ?_)) <;> fail)); exact rfl; exact rfl; exact rfl; exact rfl; exact rfl; (apply chk_c; exact hP; (first | skip)))
    | ((with_reducible apply (v_callw_0 (d := 38) 14 18)); exact rfl; exact ⟨rfl, rfl⟩; exact rfl; exact rfl; exact rfl; apply (do_icw _ _ _ _ _ _ _ _); rotate_left 7; exact rfl; (focus ((repeat' (first | exact ArgN.nil | refine ArgN.nm rfl rfl rfl ?_)) <;> fail)); exact rfl; exact rfl; exact rfl; exact rfl; exact rfl; (apply chk_c; exact hP; (first | skip)))
    | ((with_reducible apply (v_callw_0 (d := 50) 14 18)); exact rfl; exact ⟨rfl, rfl⟩; exact rfl; exact rfl; exact rfl; apply (do_icw _ _ _ _ _ _ _ _); rotate_left 7; exact rfl; (focus ((repeat' (first | exact ArgN.nil | refine ArgN.nm rfl rfl rfl ?_)) <;> fail)); exact rfl; exact rfl; exact rfl; exact rfl; exact rfl; (apply chk_c; exact hP; (first | skip)))
    | ((with_reducible apply (v_callw_0 (d := 35) 14 18)); exact rfl; exact ⟨rfl, rfl⟩; exact rfl; exact rfl; exact rfl; apply (prep_icw _ _ _ _ _ _ _); rotate_left 6; exact rfl; (focus ((repeat' (first | exact ArgN.nil | refine ArgN.nm rfl rfl rfl ?_)) <;> fail)); exact rfl; exact rfl; exact rfl; exact rfl; exact rfl; (apply chk_c; exact hP; (first | skip)))
    | ((with_reducible apply (v_callw_0 (d := 47) 14 18)); exact rfl; exact ⟨rfl, rfl⟩; exact rfl; exact rfl; exact rfl; apply (setl_icw _ _ _ _ _ _ _); rotate_left 6; exact rfl; (focus ((repeat' (first | exact ArgN.nil | refine ArgN.nm rfl rfl rfl ?_)) <;> fail)); exact rfl; exact rfl; exact rfl; exact rfl; exact rfl; (apply chk_c; exact hP; (first | skip)))
    | ((with_reducible refine v_loopat (c := (.seq (.region 7 _ _) _)) ?_); (apply (v_loop7 _ _ _ _ _ _ _ [5, 6, 27, 28] [] (fun x1 x3 x4 x5 x6 x7 x2 => [(29, .one (.d (.int .i64 x2)))]) (fun x1 x3 x4 x5 x6 x7 x2 => [(14, .blk 214 [.d (.int .i64 x3), .d (.list (List.map Csm.row x4)), .d (.int .i64 x5), .d (.int .i64 x6), .d (.list (List.map Unt.row x7)), .sl 18 (List.length x1) 2]), (18, .arr 159 2 (List.map Stp.row x1))]) [])); exact rfl; exact rfl; (focus (refine ⟨?_, ?_⟩; rotate_left 1; (focus (repeat' (first | exact .nil | refine .cons ?_ ?_ | exact .d rfl | exact .sl rfl (by first | rfl | exact List.length_set.symm | exact (splT_len (by simp only [List.length_take, List.length_drop]; omega)).symm | omega | (rw [List.length_append, List.length_map]; show _ + 1 = _; omega) | simp) | refine .blk rfl ?_ | exact .arr rfl (by first | rfl | assumption | simp)))); (focus (repeat' (first | exact .nil | refine .cons ?_ ?_ | exact SVle_pl rfl | refine .one ?_ | exact .ref rfl rfl))))); (exact hP); clear hP; intro I μ x1 x3 x4 x5 x6 x7 x2 hP)
    | ((with_reducible apply (v_nxt7 (a1 := _) (a2 := _) (a3 := _) (a4 := _) (a5 := _) (a6 := _) (a7 := _))); rotate_left 1; (focus (repeat' (first | exact .nil | refine .cons ?_ ?_ | exact .d rfl | exact .sl rfl (by first | rfl | exact List.length_set.symm | exact (splT_len (by simp only [List.length_take, List.length_drop]; omega)).symm | omega | (rw [List.length_append, List.length_map]; show _ + 1 = _; omega) | simp) | refine .blk rfl ?_ | exact .arr rfl (by first | rfl | assumption | simp)))); rotate_right 1; (focus (repeat' (first | exact .nil | refine .cons ?_ ?_ | exact SVle_pl rfl | refine .one ?_ | exact .ref rfl rfl))); (exact hP))
    | ((with_reducible refine v_loopat (c := (.seq (.region 13 _ _) _)) ?_); (apply (v_loop7 _ _ _ _ _ _ _ [5, 39, 40] [] (fun x1 x3 x4 x5 x6 x7 x2 => [(41, .one (.d (.int .i64 x2)))]) (fun x1 x3 x4 x5 x6 x7 x2 => [(14, .blk 214 [.d (.int .i64 x3), .d (.list (List.map Csm.row x4)), .d (.int .i64 x5), .d (.int .i64 x6), .d (.list (List.map Unt.row x7)), .sl 18 (List.length x1) 2]), (18, .arr 159 2 (List.map Stp.row x1))]) [])); exact rfl; exact rfl; (focus (refine ⟨?_, ?_⟩; rotate_left 1; (focus (repeat' (first | exact .nil | refine .cons ?_ ?_ | exact .d rfl | exact .sl rfl (by first | rfl | exact List.length_set.symm | exact (splT_len (by simp only [List.length_take, List.length_drop]; omega)).symm | omega | (rw [List.length_append, List.length_map]; show _ + 1 = _; omega) | simp) | refine .blk rfl ?_ | exact .arr rfl (by first | rfl | assumption | simp)))); (focus (repeat' (first | exact .nil | refine .cons ?_ ?_ | exact SVle_pl rfl | refine .one ?_ | exact .ref rfl rfl))))); (exact hP); clear hP; intro I μ x1 x3 x4 x5 x6 x7 x2 hP)
    | ((with_reducible apply v_if); exact rfl; (exact hP); all_goals (clear hP; intro hc hP)))
theorem From_ic (f : Flt) (s : Rot) : ICp (fltB f = true ∧ s.units.length = f.cons.length) 79 [f.v, s.v] (fun v => v = .one (.d (.list ((fromS f s).2.map Stp.row)))) := fun hl => (From_V f s _).2 (by
  obtain ⟨hfl, hlen⟩ := hl
  have hcl := flt_len hfl
  have hpl := pools_len f
  have hA := frA_len f s
  have hB := frB_len f s
  have hAu := frA_units f s
  have hBu := frB_units f s
  have l1 := doS_len f (s, []) 1 0
  change _ ≤ 1 at l1
  (delta From_V; dsimp only [mkV])
  (repeat' (first | with_reducible refine brn_nd (fun h => ?_) (fun h => ?_) | with_reducible refine brn_d (fun h => ?_) (fun h => ?_) | with_reducible refine brn_nn (fun h => ?_) (fun h => ?_) | with_reducible refine brn_nb (fun h => ?_) (fun h => ?_) | with_reducible refine Brn.mk (fun h => ?_) (fun h => ?_) | with_reducible refine Chk.mk ?_ ?_ | with_reducible refine Bth.mk ?_ ?_ | with_reducible refine Fct.mk (fun hf => ?_)))
  · simp
  · show (doS f (s, []) 1 0).2.length ≤ 1000000
    omega
  · have hv : (frA f s).1.valid = 1 := (by assumption)
    refine lp7 (fun o a b kn va us z => 0 ≤ z ∧ z ≤ ((poolsS f).length : Int) ∧ f.slots = a ∧ f.cons = b ∧ o = (preP f (frA f s) z.toNat).2 ∧ kn = (preP f (frA f s) z.toNat).1.known ∧ va = (preP f (frA f s) z.toNat).1.valid ∧ us = (preP f (frA f s) z.toNat).1.units) (fun _ _ _ _ _ _ z => (((poolsS f).length : Int) - z).toNat) ⟨by omega, by omega, rfl, rfl, rfl, rfl, rfl, rfl⟩ ?_
    rintro I μ nx o a b kn va us z ⟨h0, h1, rfl, rfl, rfl, rfl, rfl, rfl⟩
    have hq1 := preP_units f (frA f s) z.toNat
    have hq2 := preP_len f (frA f s) z.toNat
    have es := fun (h : z < ((poolsS f).length : Int)) => preP_s (f := f) (p := frA f s) (i := z.toNat) (by omega)
    rw [Int.toNat_of_nonneg h0] at es
    (repeat' (first | with_reducible refine brn_nd (fun h => ?_) (fun h => ?_) | with_reducible refine brn_d (fun h => ?_) (fun h => ?_) | with_reducible refine brn_nn (fun h => ?_) (fun h => ?_) | with_reducible refine brn_nb (fun h => ?_) (fun h => ?_) | with_reducible refine Brn.mk (fun h => ?_) (fun h => ?_) | with_reducible refine Chk.mk ?_ ?_ | with_reducible refine Bth.mk ?_ ?_ | with_reducible refine Fct.mk (fun hf => ?_)))
    · omega
    · exact ⟨by omega, hfl, by omega⟩
    · unfold InI; omega
    · have e := es (by assumption)
      exact nx _ _ _ _ _ _ _ _ _ _ _ _ _ _ ⟨h0, h1, rfl, rfl, rfl, rfl, rfl, rfl⟩ ⟨by omega, by omega, rfl, rfl, by rw [show (z + 1).toNat = z.toNat + 1 by omega, e], by rw [show (z + 1).toNat = z.toNat + 1 by omega, e], by rw [show (z + 1).toNat = z.toNat + 1 by omega, e], by rw [show (z + 1).toNat = z.toNat + 1 by omega, e]⟩ (by omega)
    · omega
    · clear nx
      have e : frB f s = doS f (preP f (frA f s) z.toNat) 3 0 := by
        unfold frB preP
        rw [if_pos hv, show z.toNat = (poolsS f).length by omega, List.take_length]
      refine lp7 (fun o a b kn va us z => 0 ≤ z ∧ z ≤ ((poolsS f).length : Int) ∧ f.slots = a ∧ f.cons = b ∧ o = (setP f (frB f s) z.toNat).2 ∧ kn = (setP f (frB f s) z.toNat).1.known ∧ va = (setP f (frB f s) z.toNat).1.valid ∧ us = (setP f (frB f s) z.toNat).1.units) (fun _ _ _ _ _ _ z => (((poolsS f).length : Int) - z).toNat) ⟨by omega, by omega, rfl, rfl, congrArg Prod.snd e.symm, congrArg (fun p => p.1.known) e.symm, congrArg (fun p => p.1.valid) e.symm, congrArg (fun p => p.1.units) e.symm⟩ ?_
      rintro I μ nx o a b kn va us z ⟨h0, h1, rfl, rfl, rfl, rfl, rfl, rfl⟩
      have hq1 := setP_units f (frB f s) z.toNat
      have hq2 := setP_len f (frB f s) hcl.2 z.toNat
      have es := fun (h : z < ((poolsS f).length : Int)) => setP_s (f := f) (p := frB f s) (i := z.toNat) (by omega)
      rw [Int.toNat_of_nonneg h0] at es
      (repeat' (first | with_reducible refine brn_nd (fun h => ?_) (fun h => ?_) | with_reducible refine brn_d (fun h => ?_) (fun h => ?_) | with_reducible refine brn_nn (fun h => ?_) (fun h => ?_) | with_reducible refine brn_nb (fun h => ?_) (fun h => ?_) | with_reducible refine Brn.mk (fun h => ?_) (fun h => ?_) | with_reducible refine Chk.mk ?_ ?_ | with_reducible refine Bth.mk ?_ ?_ | with_reducible refine Fct.mk (fun hf => ?_)))
      · omega
      · exact ⟨by omega, hfl, by omega⟩
      · unfold InI; omega
      · have e := es (by assumption)
        exact nx _ _ _ _ _ _ _ _ _ _ _ _ _ _ ⟨h0, h1, rfl, rfl, rfl, rfl, rfl, rfl⟩ ⟨by omega, by omega, rfl, rfl, by rw [show (z + 1).toNat = z.toNat + 1 by omega, e], by rw [show (z + 1).toNat = z.toNat + 1 by omega, e], by rw [show (z + 1).toNat = z.toNat + 1 by omega, e], by rw [show (z + 1).toNat = z.toNat + 1 by omega, e]⟩ (by omega)
      · omega
      · have hz : setP f (frB f s) z.toNat = frC f s := by
          unfold setP frC
          rw [show z.toNat = (poolsS f).length by omega, List.take_length]
        rw [hz]
        rfl
  · have hv : ¬ (frA f s).1.valid = 1 := (by assumption)
    have e : frB f s = frA f s := if_neg hv
    refine lp7 (fun o a b kn va us z => 0 ≤ z ∧ z ≤ ((poolsS f).length : Int) ∧ f.slots = a ∧ f.cons = b ∧ o = (setP f (frB f s) z.toNat).2 ∧ kn = (setP f (frB f s) z.toNat).1.known ∧ va = (setP f (frB f s) z.toNat).1.valid ∧ us = (setP f (frB f s) z.toNat).1.units) (fun _ _ _ _ _ _ z => (((poolsS f).length : Int) - z).toNat) ⟨by omega, by omega, rfl, rfl, congrArg Prod.snd e.symm, congrArg (fun p => p.1.known) e.symm, congrArg (fun p => p.1.valid) e.symm, congrArg (fun p => p.1.units) e.symm⟩ ?_
    rintro I μ nx o a b kn va us z ⟨h0, h1, rfl, rfl, rfl, rfl, rfl, rfl⟩
    have hq1 := setP_units f (frB f s) z.toNat
    have hq2 := setP_len f (frB f s) hcl.2 z.toNat
    have es := fun (h : z < ((poolsS f).length : Int)) => setP_s (f := f) (p := frB f s) (i := z.toNat) (by omega)
    rw [Int.toNat_of_nonneg h0] at es
    (repeat' (first | with_reducible refine brn_nd (fun h => ?_) (fun h => ?_) | with_reducible refine brn_d (fun h => ?_) (fun h => ?_) | with_reducible refine brn_nn (fun h => ?_) (fun h => ?_) | with_reducible refine brn_nb (fun h => ?_) (fun h => ?_) | with_reducible refine Brn.mk (fun h => ?_) (fun h => ?_) | with_reducible refine Chk.mk ?_ ?_ | with_reducible refine Bth.mk ?_ ?_ | with_reducible refine Fct.mk (fun hf => ?_)))
    · omega
    · exact ⟨by omega, hfl, by omega⟩
    · unfold InI; omega
    · have e := es (by assumption)
      exact nx _ _ _ _ _ _ _ _ _ _ _ _ _ _ ⟨h0, h1, rfl, rfl, rfl, rfl, rfl, rfl⟩ ⟨by omega, by omega, rfl, rfl, by rw [show (z + 1).toNat = z.toNat + 1 by omega, e], by rw [show (z + 1).toNat = z.toNat + 1 by omega, e], by rw [show (z + 1).toNat = z.toNat + 1 by omega, e], by rw [show (z + 1).toNat = z.toNat + 1 by omega, e]⟩ (by omega)
    · omega
    · have hz : setP f (frB f s) z.toNat = frC f s := by
        unfold setP frC
        rw [show z.toNat = (poolsS f).length by omega, List.take_length]
      rw [hz]
      rfl)
end Go.Proofs.Ytcbppkfnfbdkhaa
