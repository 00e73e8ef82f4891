/- steps.step, steps.Apply. -/
import Derived.Test.YtcbppkfnfbdkhaaPm
import Derived.Test.YtcbppkfnfbdkhaaPi
set_option linter.all false
set_option maxRecDepth 20000
set_option maxHeartbeats 4000000
namespace Go.Proofs.Ytcbppkfnfbdkhaa
open Go.RowKit Go.Shelf
theorem step_icx (known valid : Int) (units : List Unt) (f : Flt) (x : Stp) : ICx (0 ≤ x.unit ∧ x.unit < units.length ∧ units.length = f.cons.length) 135 [f.v, .one (.ref 0 0), x.v] 96 [.d (.int .i64 known), .d (.int .i64 valid), .sl 1 (List.length units) 3] 170 3 (List.map Unt.row units) (bv (stepS f ⟨known, valid, units⟩ x).2) [.d (.int .i64 (stepS f ⟨known, valid, units⟩ x).1.known), .d (.int .i64 (stepS f ⟨known, valid, units⟩ x).1.valid), .sl 1 (List.length (stepS f ⟨known, valid, units⟩ x).1.units) 3] (List.map Unt.row (stepS f ⟨known, valid, units⟩ x).1.units) := fun h => (step_V known valid units f x (stepS f ⟨known, valid, units⟩ x).1.known (stepS f ⟨known, valid, units⟩ x).1.valid (stepS f ⟨known, valid, units⟩ x).1.units (.bool (stepS f ⟨known, valid, units⟩ x).2)).2 (by
  obtain ⟨h0, h1, h2⟩ := h
  (delta step_V; dsimp only [mkV])
  (repeat' (first | with_reducible refine brn_nd (fun h => ?_) (fun h => ?_) | with_reducible refine brn_d (fun h => ?_) (fun h => ?_) | with_reducible refine brn_nn (fun h => ?_) (fun h => ?_) | with_reducible refine brn_nb (fun h => ?_) (fun h => ?_) | with_reducible refine Brn.mk (fun h => ?_) (fun h => ?_) | with_reducible refine Chk.mk ?_ ?_ | with_reducible refine Bth.mk ?_ ?_ | with_reducible refine Fct.mk (fun hf => ?_)))
  all_goals first
    | omega
    | (simp [stepS, issB, *]; done)
    | (rw [Int.toNat_of_nonneg h0]; simp [stepS, issB, *]; done))
theorem rt_small {f : Flt} {s : Rot} (h : rightB f s = true) : 1 ≤ f.cons.length ∧ f.cons.length ≤ 8 ∧ s.units.length = f.cons.length := by
  have := flt_len (right_iff.1 h).1
  exact ⟨this.1, this.2, rt_len h⟩
theorem rngB_iff {s : Rot} {x : Stp} : rngB s x = true ↔ (1 ≤ x.kind ∧ x.kind ≤ 8) ∧ (0 ≤ x.unit ∧ x.unit < s.units.length) ∧ (¬(x.kind ≤ 3 ∨ x.kind = 8) ∨ x.unit = 0) := by
  unfold rngB
  rw [Bool.and_eq_true, Bool.and_eq_true, Bool.or_eq_true, decide_eq_true_iff, decide_eq_true_iff, decide_eq_true_iff, Bool.not_eq_true', decide_eq_false_iff_not, and_assoc]
theorem apl_err {f : Flt} {s : Rot} {x : Stp} {e : Int} (he : aplE f s x = e) (h : e ≠ 0) : SV.tup [SV.agg [CV.d (Cell.int IntKind.i64 0), CV.d (Cell.int IntKind.i64 0), CV.d (Cell.list [])], SV.one (CV.d (Cell.int IntKind.i64 e))] = SV.tup [(aplS f s x).v, iv (aplE f s x)] := by
  unfold aplS
  rw [he, if_neg h]; rfl
theorem apl_36 {f : Flt} {s : Rot} {x : Stp} (h : rightB f s = false) : aplE f s x = 36 := by unfold aplE; rw [if_pos h]
theorem apl_2 {f : Flt} {s : Rot} {x : Stp} (h : rightB f s = true) (h2 : ¬ ((1 ≤ x.kind ∧ x.kind ≤ 8) ∧ (0 ≤ x.unit ∧ x.unit < s.units.length) ∧ (¬(x.kind ≤ 3 ∨ x.kind = 8) ∨ x.unit = 0))) : aplE f s x = 2 := by
  unfold aplE; rw [if_neg (by rw [h]; simp), if_pos (Bool.eq_false_iff.2 fun e => h2 (rngB_iff.1 e))]
theorem apl_37 {f : Flt} {s : Rot} {x : Stp} (h : rightB f s = true) (h2 : ((1 ≤ x.kind ∧ x.kind ≤ 8) ∧ (0 ≤ x.unit ∧ x.unit < s.units.length) ∧ (¬(x.kind ≤ 3 ∨ x.kind = 8) ∨ x.unit = 0))) (h3 : (stepS f s x).2 = false) : aplE f s x = 37 := by
  unfold aplE; rw [if_neg (by rw [h]; simp), if_neg (by rw [rngB_iff.2 h2]; simp), if_pos h3]
theorem apl_0 {f : Flt} {s : Rot} {x : Stp} (h : rightB f s = true) (h2 : ((1 ≤ x.kind ∧ x.kind ≤ 8) ∧ (0 ≤ x.unit ∧ x.unit < s.units.length) ∧ (¬(x.kind ≤ 3 ∨ x.kind = 8) ∨ x.unit = 0))) (h3 : (stepS f s x).2 = true) : SV.tup [(stepS f s x).1.v, iv 0] = SV.tup [(aplS f s x).v, iv (aplE f s x)] := by
  have : aplE f s x = 0 := aplE_0.2 ⟨h, rngB_iff.2 h2, h3⟩
  unfold aplS
  rw [this, if_pos rfl]
noncomputable def apply33_V (f : Flt) (s : Rot) (x : Stp) (Q : SV → Prop) : Σ' P : Prop, (P → ICt 81 [.agg (List.map .d (Flt.row f)), .agg (List.map .d (Rot.row s)), .agg (List.map .d (Stp.row x))] Q) := by
  apply mkV; intro hP
  refine ic_wk (K 68) Try.func81 rfl rfl rfl rfl (fun w0 => ?_)
  repeat' (first
    | ((fail_if_success (have hTest : Hld False := hP)); (have hq := chk_c hP); (replace hP := chk_p hP))
    | (with_reducible (first | apply c_seq | apply c_rg | apply j_nil | apply q_n | apply g_tt | apply g_ff | apply c_ct | apply c_cf | apply c_bl | apply c_ret | apply c_sk | apply q_r | apply b_r | apply b_n))
    | ((with_reducible apply j_v); exact rfl; exact rfl)
    | ((with_reducible apply j_h); exact rfl; exact rfl)
    | ((with_reducible apply j_s); exact rfl)
    | ((with_reducible apply j_g); exact rfl; exact rfl; (first | with_reducible assumption | with_reducible exact Eq.refl true | with_reducible exact Eq.refl false))
    | ((with_reducible apply g_tf); exact rfl)
    | ((with_reducible apply g_ft); exact rfl)
    | ((with_reducible apply j_gz); exact rfl; exact rfl; exact rfl)
    | ((with_reducible apply v_lenm); exact rfl; exact rfl; exact rfl; (exact hP); clear hP; intro hP)
    | ((with_reducible apply j_pk); exact rfl; exact rfl; (first | with_reducible assumption | with_reducible exact Eq.refl true | with_reducible exact Eq.refl false); exact rfl)
    | ((with_reducible apply c_c); exact rfl; (first | with_reducible exact Eq.refl true | with_reducible exact Eq.refl false))
    | ((with_reducible apply r_g); exact rfl; (· repeat' (first | exact True.intro | refine And.intro ?_ ?_ | (show (_ : Nat) = _; (first | exact (List.length_map _).symm)))); (exact hP.out))
    | ((with_reducible apply j_call (pu := false)); exact rfl; (apply (fright_ic _ _); rotate_left 2); (focus ((repeat' (first | exact .nil _ | refine PsL.cons ?_ ?_ | refine PsSL.cons ?_ ?_ | refine .agg ?_ | exact .d _ _)) <;> fail)); exact .inr rfl)
    | ((with_reducible apply (v_callo (d := 61) 1000)); exact rfl; exact ⟨rfl, rfl⟩; apply (fcopy_ics _); rotate_left 1; (focus ((repeat' (first | exact .nil _ | refine PsL.cons ?_ ?_ | refine PsSL.cons ?_ ?_ | refine .agg ?_ | exact .d _ _)) <;> fail)); exact rfl; exact rfl; (focus (dsimp only [SV.ren, CV.ren, List.map, Nat.reduceAdd]; try exact rfl)); (focus (dsimp only [renH, VH.ren, List.map, Nat.reduceAdd, List.cons_append, List.nil_append]; try exact rfl)); (apply chk_c; exact hP; (first | skip)))
    | ((with_reducible apply (v_callx_1 (d := 64) 9 1005)); exact rfl; exact ⟨rfl, rfl⟩; exact rfl; exact rfl; exact rfl; apply (step_icx _ _ _ _ _); rotate_left 4; exact rfl; (focus ((repeat' (first | exact ArgN.nil | refine ArgN.nm rfl rfl rfl ?_ | refine ArgN.pl ?_ rfl ?_ | exact .nil _ | refine PsL.cons ?_ ?_ | refine .agg ?_ | exact .d _ _)) <;> fail)); exact rfl; exact rfl; exact rfl; exact rfl; exact rfl; (apply chk_c; exact hP; (first | skip)))
    | ((with_reducible apply v_gs); exact rfl; exact rfl; (exact hP); all_goals (clear hP; intro hg hP))
    | ((with_reducible apply v_if); exact rfl; (exact hP); all_goals (clear hP; intro hc hP)))
theorem apply33_ic (f : Flt) (s : Rot) (x : Stp) : ICt 81 [f.v, s.v, x.v] (fun v => v = .tup [(aplS f s x).v, iv (aplE f s x)]) := (apply33_V f s x _).2 (by
  (delta apply33_V; dsimp only [mkV])
  (repeat' (first | with_reducible refine brn_nd (fun h => ?_) (fun h => ?_) | with_reducible refine brn_d (fun h => ?_) (fun h => ?_) | with_reducible refine brn_nn (fun h => ?_) (fun h => ?_) | with_reducible refine brn_nb (fun h => ?_) (fun h => ?_) | with_reducible refine Brn.mk (fun h => ?_) (fun h => ?_) | with_reducible refine Chk.mk ?_ ?_ | with_reducible refine Bth.mk ?_ ?_ | with_reducible refine Fct.mk (fun hf => ?_)))
  all_goals first
    | exact apl_err (apl_36 (by assumption)) (by omega)
    | (have hrt : rightB f s = true := (by assumption)
       obtain ⟨r1, r2, r3⟩ := rt_small hrt
       first
         | omega
         | exact apl_err (apl_2 hrt (by omega)) (by omega)
         | exact apl_err (apl_37 hrt (by omega) (by assumption)) (by omega)
         | exact apl_0 (f := f) (s := s) (x := x) hrt (by omega) (by assumption)))
end Go.Proofs.Ytcbppkfnfbdkhaa
