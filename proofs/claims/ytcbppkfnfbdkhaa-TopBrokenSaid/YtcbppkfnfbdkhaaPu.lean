/- fallback.Hold, Make; fleet.Ended; plan.Make, Check. -/
import Derived.Test.YtcbppkfnfbdkhaaPt
import Derived.Test.YtcbppkfnfbdkhaaPp
set_option linter.all false
set_option maxRecDepth 20000
set_option maxHeartbeats 4000000
namespace Go.Proofs.Ytcbppkfnfbdkhaa
open Go.RowKit Go.Shelf
def hldB (f : Flt) (s : Rot) : Bool := rightB f s && decide ((servS f s).length = (poolsS f).length)
noncomputable def fhold_V (f : Flt) (s : Rot) (Q : SV → Prop) : Σ' P : Prop, (P → ICt 36 [.agg (List.map .d (Flt.row f)), .agg (List.map .d (Rot.row s))] Q) := by
  apply mkV; intro hP
  refine ic_wk (K 18) Try.func36 rfl rfl rfl rfl (fun w0 => ?_)
  repeat' (first
    | (with_reducible (first | apply c_seq | apply c_rg | apply j_nil | apply q_n | apply c_ret))
    | ((with_reducible apply j_v); exact rfl; exact rfl)
    | ((with_reducible apply j_h); exact rfl; exact rfl)
    | ((with_reducible apply r_g); exact rfl; (· repeat' (first | exact True.intro | refine And.intro ?_ ?_)); (exact hP.out))
    | ((with_reducible refine v_rgat (i := 1) ?_); (refine n_start (by kernel_rfl) ?_; (refine n_quiet none #[true, true, true, true, true, true, true, true, true, true, true, true, true, true] [0, 1, 2, 3, 4, 5, 6, 7, 8, 9, 10, 11, 12, 13] 0 rfl ?_; (repeat' (first | ((with_reducible apply (d_e (some []))); exact rfl; exact rfl; kernel_rfl; kernel_rfl; exact rfl; exact rfl; (first | ((with_reducible apply e_v); exact rfl) | ((with_reducible apply e_pk); exact rfl; (first | with_reducible assumption); exact rfl) | ((with_reducible apply e_call (pu := false)); exact rfl; apply (fright_ic _ _); rotate_left 2; (focus ((repeat' (first | exact .nil _ | refine PsL.cons ?_ ?_ | refine PsSL.cons ?_ ?_ | refine .agg ?_ | exact .d _ _)) <;> fail)); exact .inr rfl))) | ((with_reducible apply (d_ey (some []))); exact rfl; exact rfl; exact rfl; (first | with_reducible assumption); exact rfl; kernel_rfl; kernel_rfl; exact rfl; exact rfl; (first | ((with_reducible apply e_v); exact rfl) | ((with_reducible apply e_lenm); exact rfl; exact rfl) | ((with_reducible apply e_call (pu := true)); exact rfl; apply (Served_ic _ _); rotate_left 2; (focus ((repeat' (first | exact .nil _ | refine PsL.cons ?_ ?_ | refine PsSL.cons ?_ ?_ | refine .agg ?_ | exact .d _ _)) <;> fail)); exact .inl rfl) | ((with_reducible apply e_call (pu := true)); exact rfl; apply (Pools_ic _); rotate_left 1; (focus ((repeat' (first | exact .nil _ | refine PsL.cons ?_ ?_ | refine PsSL.cons ?_ ?_ | refine .agg ?_ | exact .d _ _)) <;> fail)); exact .inl rfl))) | ((with_reducible apply d_gn); exact rfl; exact rfl; exact rfl; (first | with_reducible assumption); exact rfl; kernel_rfl; kernel_rfl; exact rfl; exact rfl) | ((with_reducible apply v_dgs); exact rfl; exact rfl; exact rfl; ((repeat ((fail_if_success (have hTest : Hld False := hP)); (have hq := chk_c hP); (replace hP := chk_p hP))); exact hP); all_goals (clear hP; intro hg hP)) | ((with_reducible apply d_leaf); exact (by decide +kernel)))); all_goals ((with_reducible apply n_doneZ); exact rfl; exact (by decide +kernel))))))
theorem fhold_ic (f : Flt) (s : Rot) : ICt 36 [f.v, s.v] (fun v => v = bv (hldB f s)) := (fhold_V f s _).2 (by
  (delta fhold_V; dsimp only [mkV])
  (repeat' (first | with_reducible refine brn_nd (fun h => ?_) (fun h => ?_) | with_reducible refine brn_d (fun h => ?_) (fun h => ?_) | with_reducible refine brn_nn (fun h => ?_) (fun h => ?_) | with_reducible refine brn_nb (fun h => ?_) (fun h => ?_) | with_reducible refine Brn.mk (fun h => ?_) (fun h => ?_) | with_reducible refine Chk.mk ?_ ?_ | with_reducible refine Bth.mk ?_ ?_ | with_reducible refine Fct.mk (fun hf => ?_)))
  all_goals (refine congrArg bv ?_; simp [hldB, *]; try omega))
noncomputable def fmake_V (f : Flt) (s : Rot) (Q : SV → Prop) : Σ' P : Prop, (P → ICt 37 [.agg (List.map .d (Flt.row f)), .agg (List.map .d (Rot.row s))] Q) := by
  apply mkV; intro hP
  refine ic_wk (K 27) Try.func37 rfl rfl rfl rfl (fun w0 => ?_)
  repeat' (first
    | ((fail_if_success (have hTest : Hld False := hP)); (have hq := chk_c hP); (replace hP := chk_p hP))
    | (with_reducible (first | apply c_seq | apply c_rg | apply j_nil | apply q_n | apply g_ff | apply c_ct | apply c_ret | apply c_sk | apply q_r))
    | ((with_reducible apply j_v); exact rfl; exact rfl)
    | ((with_reducible apply j_h); exact rfl; exact rfl)
    | ((with_reducible apply j_s); exact rfl)
    | ((with_reducible apply j_g); exact rfl; exact rfl; (first | with_reducible assumption))
    | ((with_reducible apply g_tf); exact rfl)
    | ((with_reducible apply j_pk); exact rfl; exact rfl; (first | with_reducible assumption); exact rfl)
    | ((with_reducible apply c_c); exact rfl; (first | with_reducible exact Eq.refl true))
    | ((with_reducible apply r_g); exact rfl; (· repeat' (first | exact True.intro | refine And.intro ?_ ?_)); (exact hP.out))
    | ((with_reducible apply j_call (pu := false)); exact rfl; (first | (apply (fhold_ic _ _); rotate_left 2) | (apply (fright_ic _ _); rotate_left 2)); (focus ((repeat' (first | exact .nil _ | refine PsL.cons ?_ ?_ | refine PsSL.cons ?_ ?_ | refine .agg ?_ | exact .d _ _)) <;> fail)); exact .inr rfl)
    | ((with_reducible apply v_nd (pu := false)); exact rfl; (apply (Why35_nd _); rotate_left 1); (focus ((repeat' (first | exact .nil _ | refine PsL.cons ?_ ?_ | refine PsSL.cons ?_ ?_ | refine .agg ?_ | exact .d _ _)) <;> fail)); exact .inr (fun _ => rfl); (exact hP); clear hP; intro x hx hP)
    | ((with_reducible apply v_call (pu := true)); exact rfl; exact ⟨rfl, rfl⟩; (apply (From_ic _ _); rotate_left 2); (focus ((repeat' (first | exact .nil _ | refine PsL.cons ?_ ?_ | refine PsSL.cons ?_ ?_ | refine .agg ?_ | exact .d _ _)) <;> fail)); exact .inl rfl; (apply chk_c; exact hP; (first | skip)))
    | ((with_reducible apply v_gs); exact rfl; exact rfl; (exact hP); all_goals (clear hP; intro hg hP))
    | ((with_reducible apply v_if); exact rfl; (exact hP); all_goals (clear hP; intro hc hP)))
theorem fmake_ic (f : Flt) (s : Rot) : ICp (hldB f s = true ∧ ∀ q ∈ poolsS f, fitB f q = true) 37 [f.v, s.v] (fun v => v = .tup [.one (.d (.list ((fromS f s).2.map Stp.row))), iv 0]) := fun hp => (fmake_V f s _).2 (by
  obtain ⟨hh, hfit⟩ := hp
  have hr : rightB f s = true := by
    unfold hldB at hh
    rw [Bool.and_eq_true] at hh; exact hh.1
  obtain ⟨r1, r2, r3⟩ := rt_small hr
  (delta fmake_V; dsimp only [mkV])
  (repeat' (first | with_reducible refine brn_nd (fun h => ?_) (fun h => ?_) | with_reducible refine brn_d (fun h => ?_) (fun h => ?_) | with_reducible refine brn_nn (fun h => ?_) (fun h => ?_) | with_reducible refine brn_nb (fun h => ?_) (fun h => ?_) | with_reducible refine Brn.mk (fun h => ?_) (fun h => ?_) | with_reducible refine Chk.mk ?_ ?_ | with_reducible refine Bth.mk ?_ ?_ | with_reducible refine Fct.mk (fun hf => ?_)))
  · rw [hr] at h; cases h
  · intro x hx
    have hx := hx hfit
    (repeat' (first | with_reducible refine brn_nd (fun h => ?_) (fun h => ?_) | with_reducible refine brn_d (fun h => ?_) (fun h => ?_) | with_reducible refine brn_nn (fun h => ?_) (fun h => ?_) | with_reducible refine brn_nb (fun h => ?_) (fun h => ?_) | with_reducible refine Brn.mk (fun h => ?_) (fun h => ?_) | with_reducible refine Chk.mk ?_ ?_ | with_reducible refine Bth.mk ?_ ?_ | with_reducible refine Fct.mk (fun hf => ?_)))
    · rw [hx] at h; cases h
    · rw [hh] at h; cases h
    · exact ⟨(right_iff.1 hr).1, r3⟩
    · rfl)
def isEnd (u : Unt) : Bool := decide (u = ⟨true, 2, 2⟩)
noncomputable def end1_V (u e : Unt) (Q : SV → Prop) : Σ' P : Prop, (P → ICt 87 [u.v, .one e.p] Q) := by
  apply mkV; intro hP
  refine ic_wk (K 7) Try.func87 rfl rfl rfl rfl (fun w0 => ?_)
  repeat' (first
    | (with_reducible (first | apply c_seq | apply c_rg | apply j_nil | apply q_n | apply c_ret))
    | ((with_reducible apply j_v); exact rfl; exact rfl)
    | ((with_reducible apply j_h); exact rfl; exact rfl)
    | ((with_reducible apply (j_sne Unt_eqT)); exact rfl; exact rfl; exact rfl; exact Unt_cells _ _ _ _ _ _)
    | ((with_reducible apply r_g); exact rfl; (· repeat' (first | exact True.intro | refine And.intro ?_ ?_)); (exact hP.out)))
theorem end1_ic (u e : Unt) : ICt 87 [u.v, .one e.p] (fun v => v = bv (!decide (u = e))) := (end1_V u e _).2 (by
  (delta end1_V; dsimp only [mkV]))
theorem end1_fn : FnC 87 [.rp [.d (.bool true), .d (.int .i64 2), .d (.int .i64 2)]] (pUt fun u => !isEnd u) := fnUt fun u => end1_ic u ⟨true, 2, 2⟩
def endB (f : Flt) (s : Rot) : Bool := rightB f s && decide (s.valid = 2) && s.units.all isEnd
noncomputable def fended_V (f : Flt) (s : Rot) (Q : SV → Prop) : Σ' P : Prop, (P → ICt 41 [.agg (List.map .d (Flt.row f)), .agg (List.map .d (Rot.row s))] Q) := by
  apply mkV; intro hP
  refine ic_wk (K 22) Try.func41 rfl rfl rfl rfl (fun w0 => ?_)
  repeat' (first
    | ((apply (v_fzr (o := ⟨some 18, .makeFunc _ _ _, _, _, _, _⟩) 5)); exact rfl; exact rfl; exact rfl; exact rfl)
    | (with_reducible (first | apply c_seq | apply c_rg | apply j_nil | apply q_n | apply g_tt | apply c_ret))
    | ((with_reducible apply j_v); exact rfl; exact rfl)
    | ((with_reducible apply j_h); exact rfl; exact rfl)
    | ((with_reducible apply j_s); exact rfl)
    | ((with_reducible apply j_g); exact rfl; exact rfl; (first | with_reducible assumption | with_reducible exact Eq.refl false))
    | ((with_reducible apply g_ft); exact rfl)
    | ((with_reducible apply j_pk); exact rfl; exact rfl; (first | with_reducible assumption | with_reducible exact Eq.refl false); exact rfl)
    | ((with_reducible apply r_g); exact rfl; (· repeat' (first | exact True.intro | refine And.intro ?_ ?_)); (exact hP.out))
    | ((with_reducible apply j_call (pu := false)); exact rfl; (first | (apply (fright_ic _ _); rotate_left 2) | (apply (hasUt_ic _ _); rotate_left 2)); (focus ((repeat' (first | (apply (PsS.cfn _ (end1_fn)); (focus (repeat' (first | exact .nil _ | refine PsL.cons ?_ ?_ | exact .d _ _ | refine PsC.rp ?_)))) | exact .nil _ | refine PsL.cons ?_ ?_ | refine PsSL.cons ?_ ?_ | exact .one (.d _ _) | refine .agg ?_ | exact .d _ _)) <;> fail)); exact .inr rfl)
    | ((with_reducible apply v_gs); exact rfl; exact rfl; (exact hP); all_goals (clear hP; intro hg hP)))
theorem fended_ic (f : Flt) (s : Rot) : ICt 41 [f.v, s.v] (fun v => v = bv (endB f s)) := (fended_V f s _).2 (by
  have key : (!s.units.any fun u => !isEnd u) = s.units.all isEnd := by
    rw [Bool.eq_iff_iff, Bool.not_eq_true', List.any_eq_false, List.all_eq_true]
    simp
  (delta fended_V; dsimp only [mkV])
  (repeat' (first | with_reducible refine brn_nd (fun h => ?_) (fun h => ?_) | with_reducible refine brn_d (fun h => ?_) (fun h => ?_) | with_reducible refine brn_nn (fun h => ?_) (fun h => ?_) | with_reducible refine brn_nb (fun h => ?_) (fun h => ?_) | with_reducible refine Brn.mk (fun h => ?_) (fun h => ?_) | with_reducible refine Chk.mk ?_ ?_ | with_reducible refine Bth.mk ?_ ?_ | with_reducible refine Fct.mk (fun hf => ?_)))
  all_goals
    refine congrArg bv ?_
    first
      | (rw [key]; simp [endB, *]; done)
      | (simp [endB, *]; done))
theorem start_eq {f : Flt} (hf : fltB f = true) : startS f = ⟨1, 1, List.replicate f.cons.length ⟨true, 1, 1⟩⟩ := if_pos hf
theorem gt_rep {n : Nat} {u : Unt} {i : Int} (h0 : 0 ≤ i) (h1 : i < n) : gt (List.replicate n u) i = u := by
  rw [gt_eq (by simp; omega), List.getElem_replicate]
theorem start_right {f : Flt} (hf : fltB f = true) : rightB f (startS f) = true := by
  rw [start_eq hf]
  refine right_iff.2 ⟨hf, .inl rfl, by rw [bitsB_1]; rfl, by simp, fun i hi => ?_⟩
  simp only [List.length_replicate] at hi
  show unitB (gt f.cons (i : Int)) (gt (List.replicate f.cons.length _) (i : Int)) 1 = true
  rw [gt_rep (by omega) (by omega)]
  unfold unitB
  rw [bitsB_1]
  simp [bitsB_1]
theorem start_all {f : Flt} (hf : fltB f = true) : AllS f (startS f) := by
  intro i h0 h1
  refine ⟨i, h0, h1, rfl, ?_⟩
  rw [start_eq hf]
  have e : gt (List.replicate f.cons.length (⟨true, 1, 1⟩ : Unt)) i = ⟨true, 1, 1⟩ := gt_rep h0 h1
  have e2 : sv 1 1 = true := by decide +kernel
  simp only [e]
  exact e2
theorem endB_of {f : Flt} {s : Rot} (hr : rightB f s = true) (hv : s.valid = 2) (hu : ∀ j : Int, 0 ≤ j → j < f.cons.length → gt s.units j = ⟨true, 2, 2⟩) : endB f s = true := by
  have hl := rt_len hr
  unfold endB
  rw [hr, hv]
  simp only [decide_true, Bool.true_and]
  rw [List.all_eq_true]
  intro x hx
  obtain ⟨i, hi, rfl⟩ := gt_of_mem hx
  rw [hu i (by omega) (by omega)]; rfl
noncomputable def pmake_V (f : Flt) (Q : SV → Prop) : Σ' P : Prop, (P → ICt 67 [.agg (List.map .d (Flt.row f))] Q) := by
  apply mkV; intro hP
  refine ic_wk (K 25) Try.func67 rfl rfl rfl rfl (fun w0 => ?_)
  repeat' (first
    | ((fail_if_success (have hTest : Hld False := hP)); (have hq := chk_c hP); (replace hP := chk_p hP))
    | (with_reducible (first | apply c_seq | apply c_rg | apply j_nil | apply q_n | apply c_ret | apply c_sk | apply q_r))
    | ((with_reducible apply j_v); exact rfl; exact rfl)
    | ((with_reducible apply j_h); exact rfl; exact rfl)
    | ((with_reducible apply j_s); exact rfl)
    | ((with_reducible apply r_g); exact rfl; (· repeat' (first | exact True.intro | refine And.intro ?_ ?_)); (exact hP.out))
    | ((with_reducible apply j_call (pu := true)); exact rfl; (apply (fstart_ic _); rotate_left 1); (focus ((repeat' (first | exact .nil _ | refine PsL.cons ?_ ?_ | refine PsSL.cons ?_ ?_ | refine .agg ?_ | exact .d _ _)) <;> fail)); exact .inl rfl)
    | ((with_reducible apply v_nd (pu := false)); exact rfl; (apply (Why35_nd _); rotate_left 1); (focus ((repeat' (first | exact .nil _ | refine PsL.cons ?_ ?_ | refine PsSL.cons ?_ ?_ | refine .agg ?_ | exact .d _ _)) <;> fail)); exact .inr (fun _ => rfl); (exact hP); clear hP; intro x hx hP)
    | ((with_reducible apply v_call (pu := true)); exact rfl; exact ⟨rfl, rfl⟩; (apply (From_ic _ _); rotate_left 2); (focus ((repeat' (first | exact .nil _ | refine PsL.cons ?_ ?_ | refine PsSL.cons ?_ ?_ | refine .agg ?_ | exact .d _ _)) <;> fail)); exact .inl rfl; (apply chk_c; exact hP; (first | skip)))
    | ((with_reducible apply v_if); exact rfl; (exact hP); all_goals (clear hP; intro hc hP)))
theorem pmake_ic (f : Flt) : ICp (fltB f = true ∧ ∀ q ∈ poolsS f, fitB f q = true) 67 [f.v] (fun v => v = .tup [.one (.d (.list ((fromS f (startS f)).2.map Stp.row))), iv 0]) := fun hp => (pmake_V f _).2 (by
  obtain ⟨hfl, hfit⟩ := hp
  (delta pmake_V; dsimp only [mkV])
  (repeat' (first | with_reducible refine brn_nd (fun h => ?_) (fun h => ?_) | with_reducible refine brn_d (fun h => ?_) (fun h => ?_) | with_reducible refine brn_nn (fun h => ?_) (fun h => ?_) | with_reducible refine brn_nb (fun h => ?_) (fun h => ?_) | with_reducible refine Brn.mk (fun h => ?_) (fun h => ?_) | with_reducible refine Chk.mk ?_ ?_ | with_reducible refine Bth.mk ?_ ?_ | with_reducible refine Fct.mk (fun hf => ?_)))
  · exact absurd (fltE0.2 hfl) (by assumption)
  · intro x hx
    have hx := hx hfit
    (repeat' (first | with_reducible refine brn_nd (fun h => ?_) (fun h => ?_) | with_reducible refine brn_d (fun h => ?_) (fun h => ?_) | with_reducible refine brn_nn (fun h => ?_) (fun h => ?_) | with_reducible refine brn_nb (fun h => ?_) (fun h => ?_) | with_reducible refine Brn.mk (fun h => ?_) (fun h => ?_) | with_reducible refine Chk.mk ?_ ?_ | with_reducible refine Bth.mk ?_ ?_ | with_reducible refine Fct.mk (fun hf => ?_)))
    · rw [hx] at h; cases h
    · exact ⟨hfl, rt_len (start_right hfl)⟩
    · rfl)
noncomputable def pcheck_V (f : Flt) (s : Rot) (l : List Stp) (Q : SV → Prop) : Σ' P : Prop, (P → ICt 69 [.agg (List.map .d (Flt.row f)), .agg (List.map .d (Rot.row s)), .one (.d (.list (List.map Stp.row l)))] Q) := by
  apply mkV; intro hP
  refine ic_wk (K 46) Try.func69 rfl rfl rfl rfl (fun w0 => ?_)
  repeat' (first
    | ((fail_if_success (have hTest : Hld False := hP)); (have hq := chk_c hP); (replace hP := chk_p hP))
    | (with_reducible (first | apply c_seq | apply c_rg | apply j_nil | apply q_n | apply g_ff | apply c_cf | apply c_ret | apply c_sk | apply q_r))
    | ((with_reducible apply j_v); exact rfl; exact rfl)
    | ((with_reducible apply j_h); exact rfl; exact rfl)
    | ((with_reducible apply j_s); exact rfl)
    | ((with_reducible apply j_g); exact rfl; exact rfl; (refine dec_f ?_; decide))
    | ((with_reducible apply v_lenm); exact rfl; exact rfl; exact rfl; (exact hP); clear hP; intro hP)
    | ((with_reducible apply j_pk); exact rfl; exact rfl; (refine dec_f ?_; decide); exact rfl)
    | ((with_reducible apply j_sub); exact rfl; exact rfl; exact rfl; (with_reducible apply wr_i64; (apply chk_c; exact hP; (first | skip))))
    | ((with_reducible apply v_ia); exact rfl; exact rfl; exact rfl; exact rfl; (case inst => exact inferInstance); exact rfl; exact rfl; (apply chk_c; exact hP; (first | skip)))
    | ((with_reducible apply c_c); exact rfl; (refine dec_f ?_; decide))
    | ((with_reducible apply r_g); exact rfl; (· repeat' (first | exact True.intro | refine And.intro ?_ ?_)); (exact hP.out))
    | ((with_reducible apply v_call (pu := true)); exact rfl; exact ⟨rfl, rfl⟩; (apply (run33_ic _ _ _); rotate_left 3); (focus ((repeat' (first | exact .nil _ | refine PsL.cons ?_ ?_ | refine PsSL.cons ?_ ?_ | exact .one (.d _ _) | refine .agg ?_ | exact .d _ _)) <;> fail)); exact .inl rfl; (first | with_reducible assumption))
    | ((with_reducible apply v_call (pu := false)); exact rfl; exact ⟨rfl, rfl⟩; (apply (fault33_ic _ _ _); rotate_left 3); (focus ((repeat' (first | exact .nil _ | refine PsL.cons ?_ ?_ | refine PsSL.cons ?_ ?_ | exact .one (.d _ _) | refine .agg ?_ | exact .d _ _)) <;> fail)); exact .inr rfl; (apply chk_c; exact hP; (first | skip)))
    | ((with_reducible apply j_call (pu := false)); exact rfl; (apply (fended_ic _ _); rotate_left 2); (focus ((repeat' (first | exact .nil _ | refine PsL.cons ?_ ?_ | refine PsSL.cons ?_ ?_ | refine .agg ?_ | exact .d _ _)) <;> fail)); exact .inr rfl)
    | ((with_reducible apply v_if); exact rfl; (exact hP); all_goals (clear hP; intro hc hP)))
theorem pcheck_ic (f : Flt) (s : Rot) (l : List Stp) : ICp (rightB f s = true ∧ l.length ≤ 120 ∧ ∃ t, RunOk f s l t) 69 [f.v, s.v, .one (.d (.list (l.map Stp.row)))] (fun v => v = bv (endB f (befS f s l l.length))) := fun hp => (pcheck_V f s l _).2 (by
  have hlen := runS_len f l s
  (delta pcheck_V; dsimp only [mkV])
  (repeat' (first | with_reducible refine brn_nd (fun h => ?_) (fun h => ?_) | with_reducible refine brn_d (fun h => ?_) (fun h => ?_) | with_reducible refine brn_nn (fun h => ?_) (fun h => ?_) | with_reducible refine brn_nb (fun h => ?_) (fun h => ?_) | with_reducible refine Brn.mk (fun h => ?_) (fun h => ?_) | with_reducible refine Chk.mk ?_ ?_ | with_reducible refine Bth.mk ?_ ?_ | with_reducible refine Fct.mk (fun hf => ?_)))
  · exact hp
  · exact absurd rfl (by assumption)
  · unfold InI; omega
  · omega
  · refine congrArg bv (congrArg (endB f) ?_)
    have e := bef_s f s l (l.length - 1)
    rw [show ((l.length - 1 : Nat) : Int) + 1 = (l.length : Int) by omega] at e
    rw [e]
    congr 1
    omega
  · refine congrArg bv (congrArg (endB f) ?_)
    rw [show (l.length : Int) = 0 by omega]; rfl)
def fA : Flt := ⟨1, [⟨0, false, false⟩, ⟨0, false, false⟩]⟩
theorem fA_ok : fltB fA = true := by decide +kernel
theorem fA_fit : ∀ q ∈ poolsS fA, fitB fA q = true := by
  intro q hq
  obtain ⟨i, h0, h1, rfl⟩ := (mem_pools fA_ok).1 hq
  have : i = 0 ∨ i = 1 := by
    change i < ((2 : Nat) : Int) at h1
    omega
  rcases this with rfl | rfl <;> decide +kernel
theorem fA_len : (fromS fA (startS fA)).2.length ≤ 120 := by
  have h1 := from_len fA (startS fA)
  have h2 : (poolsS fA).length ≤ 2 := pools_len fA
  change _ ≤ 4 + 4 * (poolsS fA).length + (poolsS fA).length * 12 at h1
  omega
theorem fA_end : PI fA (startS fA) (fromS fA (startS fA)) ∧ (fromS fA (startS fA)).1.valid = 2 ∧ ∀ j : Int, 0 ≤ j → j < fA.cons.length → gt (fromS fA (startS fA)).1.units j = ⟨true, 2, 2⟩ := from_ok (start_right fA_ok) (start_all fA_ok) fA_fit
theorem fA_endB : endB fA (befS fA (startS fA) (fromS fA (startS fA)).2 ((fromS fA (startS fA)).2.length : Int)) = true := by
  obtain ⟨h1, h2, h3⟩ := fA_end
  rw [run_end h1.run]
  exact endB_of h1.rt h2 h3
noncomputable def awk39_V  (Q : SV → Prop) : Σ' P : Prop, (P → ICt 33 [] Q) := by
  apply mkV; intro hP
  refine ic_wk (K 32) Try.func33 rfl rfl rfl rfl (fun w0 => ?_)
  repeat' (first
    | ((fail_if_success (have hTest : Hld False := hP)); (have hq := chk_c hP); (replace hP := chk_p hP))
    | (with_reducible (first | apply c_seq | apply c_rg | apply j_nil | apply q_n | apply g_tt | apply c_ret))
    | ((with_reducible apply j_v); exact rfl; exact rfl)
    | ((with_reducible apply (v_bsf (d := 8) (Csm.row))); exact rfl; exact rfl; exact (row_cons (Csm.row_mk _ _ _) (row_cons (Csm.row_mk _ _ _) row_nil)); exact rfl; exact rfl)
    | ((with_reducible apply j_h); exact rfl; exact rfl)
    | ((with_reducible apply j_s); exact rfl)
    | ((with_reducible apply j_g); exact rfl; exact rfl; (refine dec_t ?_; decide))
    | ((with_reducible apply j_pk); exact rfl; exact rfl; (refine dec_t ?_; decide); exact rfl)
    | ((with_reducible apply r_g); exact rfl; (· repeat' (first | exact True.intro | refine And.intro ?_ ?_)); (exact hP.out))
    | ((with_reducible apply v_call (pu := true)); exact rfl; exact ⟨rfl, rfl⟩; (apply (pmake_ic ⟨_, _⟩); rotate_left 2; dsimp only [Flt.v_mk]); (focus ((repeat' (first | exact .nil _ | refine PsL.cons ?_ ?_ | refine PsSL.cons ?_ ?_ | refine .agg ?_ | exact .d _ _)) <;> fail)); exact .inl rfl; (apply chk_c; exact hP; (first | skip)))
    | ((with_reducible apply j_call (pu := true)); exact rfl; (apply (fstart_ic ⟨_, _⟩); rotate_left 2; dsimp only [Flt.v_mk]); (focus ((repeat' (first | exact .nil _ | refine PsL.cons ?_ ?_ | refine PsSL.cons ?_ ?_ | refine .agg ?_ | exact .d _ _)) <;> fail)); exact .inl rfl)
    | ((with_reducible apply v_call (pu := false)); exact rfl; exact ⟨rfl, rfl⟩; (apply (pcheck_ic ⟨_, _⟩ ⟨_, _, _⟩ _); rotate_left 6; dsimp only [Flt.v_mk, Rot.v_mk]); (focus ((repeat' (first | exact .nil _ | refine PsL.cons ?_ ?_ | refine PsSL.cons ?_ ?_ | exact .one (.d _ _) | refine .agg ?_ | exact .d _ _)) <;> fail)); exact .inr rfl; (apply chk_c; exact hP; (first | skip))))
theorem awk39_ic : ICt 33 [] (fun v => v = bv true) := (awk39_V _).2 (by
  (delta awk39_V; dsimp only [mkV])
  (repeat' (first | with_reducible refine brn_nd (fun h => ?_) (fun h => ?_) | with_reducible refine brn_d (fun h => ?_) (fun h => ?_) | with_reducible refine brn_nn (fun h => ?_) (fun h => ?_) | with_reducible refine brn_nb (fun h => ?_) (fun h => ?_) | with_reducible refine Brn.mk (fun h => ?_) (fun h => ?_) | with_reducible refine Chk.mk ?_ ?_ | with_reducible refine Bth.mk ?_ ?_ | with_reducible refine Fct.mk (fun hf => ?_)))
  · exact ⟨fA_ok, fA_fit⟩
  · exact ⟨start_right fA_ok, fA_len, _, fA_end.1.run⟩
  · exact congrArg bv fA_endB)
end Go.Proofs.Ytcbppkfnfbdkhaa
