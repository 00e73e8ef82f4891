/- Directories: Reader, Groups of the makers, awake. -/
import Derived.Test.YtoflahjlnbligaaEi
set_option linter.all false
set_option maxRecDepth 20000
set_option maxHeartbeats 4000000
namespace Go.Proofs.Ytoflahjlnbligaa
open Go.RowKit Go.Shelf
noncomputable def rReader_V (d : Dir) (p : Int) (Q : SV → Prop) : Σ' P : Prop, (P → ICt 42 [.agg (List.map .d (Dir.row d)), .one (.d (.int .i64 p))] Q) := by
  apply mkV; intro hP
  refine ic_wk (K 16) Try.func42 rfl rfl rfl rfl (fun w0 => ?_)
  apply (v_kint (x := 1)); exact rfl; exact hP; clear hP; intro hP
  repeat' (first
    | ((fail_if_success (have hTest : Hld False := hP)); (have hq := chk_c hP); (replace hP := chk_p hP))
    | (with_reducible (first | apply c_seq | apply c_rg | apply j_nil | apply q_n | apply g_tt | apply c_ret))
    | ((with_reducible apply j_v); exact rfl; exact rfl)
    | ((with_reducible apply j_h); exact rfl; exact rfl)
    | ((with_reducible apply j_g); exact rfl; exact rfl; (first | with_reducible assumption))
    | ((with_reducible apply g_ft); exact rfl)
    | ((with_reducible apply j_pk); exact rfl; exact rfl; (first | with_reducible assumption); exact rfl)
    | ((with_reducible apply v_ia); exact rfl; exact rfl; exact rfl; exact rfl; (case inst => exact inferInstance); exact rfl; exact rfl; (apply chk_c; exact hP; (first | skip)))
    | ((with_reducible apply r_g); exact rfl; (· repeat' (first | exact True.intro | refine And.intro ?_ ?_)); (exact hP.out))
    | ((with_reducible apply j_call (pu := false)); exact rfl; (apply (rExists_ic _ _); rotate_left 2); (focus ((repeat' (first | exact .nil _ | refine PsL.cons ?_ ?_ | refine PsSL.cons ?_ ?_ | exact .one (.d _ _) | refine .agg ?_ | exact .d _ _)) <;> fail)); exact .inr rfl)
    | ((with_reducible apply v_gs); exact rfl; exact rfl; (exact hP); all_goals (clear hP; intro hg hP)))
def Dir.rdr (d : Dir) (p : Int) : Bool := d.ex p && !decide (gt d.kinds p = 2)
theorem rReader_ic (d : Dir) (p : Int) : ICt 42 [d.v, iv p] (fun v => v = bv (d.rdr p)) := (rReader_V d p _).2 (by
  (delta rReader_V; dsimp only [mkV])
  (repeat' (first | with_reducible refine brn_nd (fun h => ?_) (fun h => ?_) | with_reducible refine brn_d (fun h => ?_) (fun h => ?_) | with_reducible refine brn_nn (fun h => ?_) (fun h => ?_) | with_reducible refine brn_nb (fun h => ?_) (fun h => ?_) | with_reducible refine Brn.mk (fun h => ?_) (fun h => ?_) | with_reducible refine Chk.mk ?_ ?_ | with_reducible refine Bth.mk ?_ ?_ | with_reducible refine Fct.mk (fun hf => ?_)))
  · simpa [Dir.ex] using h
  all_goals (refine congrArg bv ?_; simp [Dir.rdr, h]))
noncomputable def awake_V  (Q : SV → Prop) : Σ' P : Prop, (P → ICt 35 [] Q) := by
  apply mkV; intro hP
  refine ic_wk (K 38) Try.func35 rfl rfl rfl rfl (fun w0 => ?_)
  repeat' (first
    | (with_reducible (first | apply c_seq | apply c_rg | apply j_nil | apply q_n | apply g_tt | apply c_ret))
    | ((with_reducible apply j_v); exact rfl; exact rfl)
    | ((with_reducible apply (v_bsf (d := 4) (irow))); exact rfl; exact rfl; exact (row_cons (irow_mk _) (row_cons (irow_mk _) (row_cons (irow_mk _) row_nil))); exact rfl; exact rfl)
    | ((with_reducible apply (v_bsf (d := 7) (Mb.row))); exact rfl; exact rfl; exact (row_cons (Mb.row_mk _ _ _ _) (row_cons (Mb.row_mk _ _ _ _) row_nil)); exact rfl; exact rfl)
    | ((with_reducible apply (v_bs (irow))); exact rfl; exact rfl; exact (row_cons (irow_mk _) (row_cons (irow_mk _) (row_cons (irow_mk _) row_nil))); exact rfl)
    | ((with_reducible apply j_h); exact rfl; exact rfl)
    | ((with_reducible apply j_s); exact rfl)
    | ((with_reducible apply j_g); exact rfl; exact rfl; (first | with_reducible assumption | with_reducible exact Eq.refl false | (refine dec_t ?_; decide)))
    | ((with_reducible apply g_ft); exact rfl)
    | ((with_reducible apply j_pk); exact rfl; exact rfl; (first | with_reducible assumption | with_reducible exact Eq.refl false | (refine dec_t ?_; decide)); exact rfl)
    | ((with_reducible apply r_g); exact rfl; (· repeat' (first | exact True.intro | refine And.intro ?_ ?_)); (exact hP.out))
    | ((with_reducible apply j_call (pu := false)); exact rfl; (first | (apply (ints_ic _ _); rotate_left 2) | (apply (dIn_ic _ _ _ _); rotate_left 4) | (apply (dCheck_ic _); rotate_left 1)); (focus ((repeat' (first | exact .nil _ | refine PsL.cons ?_ ?_ | refine PsSL.cons ?_ ?_ | exact .one (.d _ _) | refine .agg ?_ | exact .one (.sl rfl rfl))) <;> fail)); exact .inr rfl)
    | ((with_reducible apply j_call (pu := false)); exact rfl; (first | (apply (dIn_ic ⟨_, _⟩ _ _ _); rotate_left 5; dsimp only [Dir.v_mk]) | (apply (dCheck_ic ⟨_, _⟩); rotate_left 2; dsimp only [Dir.v_mk])); (focus ((repeat' (first | exact .nil _ | refine PsL.cons ?_ ?_ | refine PsSL.cons ?_ ?_ | exact .one (.d _ _) | refine .agg ?_ | exact .d _ _)) <;> fail)); exact .inr rfl)
    | ((with_reducible apply v_nd (pu := true)); exact rfl; (apply (Why_nd ⟨_, _⟩ _ _ _); rotate_left 5; dsimp only [Dir.v_mk]); (focus ((repeat' (first | exact .nil _ | refine PsL.cons ?_ ?_ | refine PsSL.cons ?_ ?_ | exact .one (.d _ _) | refine .agg ?_ | exact .d _ _)) <;> fail)); exact .inl rfl; (exact hP); clear hP; intro x hx hP)
    | ((with_reducible apply v_gs); exact rfl; exact rfl; (exact hP); all_goals (clear hP; intro hg hP)))
def dX : Dir := ⟨[1, 2, 2], [⟨0, 1, 0, 1⟩, ⟨1, 1, 1, 2⟩]⟩
theorem dX_v : dirB dX = true := by decide
theorem three {g : Int} (h0 : 0 ≤ g) (h : g < 3) : g = 0 ∨ g = 1 ∨ g = 2 := by omega
theorem dX_chain {c : List Int} (h : ChnOk dX 1 0 2 c) : c = [0, 1, 2] := by
  obtain ⟨h1, h2, h3, h4, h5, h6⟩ := h
  have k : ∀ y ∈ c, y = 0 ∨ y = 1 ∨ y = 2 := fun y hy => three (h5 y hy).1 (by have := (h5 y hy).2; exact this)
  rcases c with _ | ⟨a, _ | ⟨b, _ | ⟨e, r⟩⟩⟩
  · simp at h1
  · simp at h1
  · have e1 : a = 0 := h2
    have e2 : b = 2 := h3
    have := h6 0 (by simp)
    subst e1 e2
    revert this; decide
  · have e1 : a = 0 := h2
    have g1 : dX.edge 1 a b = true := h6 0 (by simp)
    have g2 : dX.edge 1 b e = true := h6 1 (by simp)
    subst e1
    have kb := k b (by simp)
    have ke := k e (by simp)
    have e2 : b = 1 := by
      rcases kb with rfl | rfl | rfl
      · revert g1; decide
      · rfl
      · revert g1; decide
    subst e2
    have e3 : e = 2 := by
      rcases ke with rfl | rfl | rfl
      · revert g2; decide
      · revert g2; decide
      · rfl
    subst e3
    rcases r with _ | ⟨f, r⟩
    · rfl
    · exfalso
      have g3 : dX.edge 1 2 f = true := h6 2 (by simp)
      rcases k f (by simp) with rfl | rfl | rfl <;> revert g3 <;> decide
theorem dX_in (p g t : Int) (hp : dX.ex p = true) (hg : 0 ≤ g ∧ g < 3) (hr : Rch (atT dX t) p g) (hne : g ≠ p) : hasB (grpsS dX p t) g = true := decide_eq_true (mem_grpsS.2 ⟨⟨dX_v, hp⟩, hg, hr, hne⟩)
theorem dX_a : hasB (grpsS dX 0 0) 1 = true := dX_in 0 1 0 (by decide) (by omega) (.step .refl (by omega) (by decide) (by decide)) (by omega)
theorem dX_b : hasB (grpsS dX 0 0) 2 = false := by
  refine decide_eq_false fun h => ?_
  have hr := (mem_grpsS.1 h).2.2.1
  have cl : ∀ q, Rch (atT dX 0) 0 q → q = 0 ∨ q = 1 := fun q hq => by
    induction hq with
    | refl => exact .inl rfl
    | @step q g hq g0 g1 hg ih =>
      rcases ih with rfl | rfl <;> rcases three g0 (show g < 3 from g1) with rfl | rfl | rfl <;> revert hg <;> decide
  have := cl 2 hr
  omega
theorem dX_c : hasB (grpsS dX 0 1) 2 = true := dX_in 0 2 1 (by decide) (by omega) (.step (q := 1) (.step .refl (by omega) (by decide) (by decide)) (by omega) (by decide) (by decide)) (by omega)
theorem awake_ic : ICt 35 [] (fun v => v = bv true) := (awake_V _).2 (by
  have ha := dX_a
  have hb := dX_b
  have hc := dX_c
  have hd := @dX_chain
  unfold dX at ha hb hc hd
  (delta awake_V; dsimp only [mkV])
  rintro ⟨c, ok⟩ hw
  rcases hw with ⟨_, w2, w3⟩ | ⟨w1, _⟩
  · have := hd w3
    simp only at w2
    subst w2
    subst this
    (repeat' (first | with_reducible refine brn_nd (fun h => ?_) (fun h => ?_) | with_reducible refine brn_d (fun h => ?_) (fun h => ?_) | with_reducible refine brn_nn (fun h => ?_) (fun h => ?_) | with_reducible refine brn_nb (fun h => ?_) (fun h => ?_) | with_reducible refine Brn.mk (fun h => ?_) (fun h => ?_) | with_reducible refine Chk.mk ?_ ?_ | with_reducible refine Bth.mk ?_ ?_ | with_reducible refine Fct.mk (fun hf => ?_)))
    all_goals (first | (rw [hc]; done) | (simp_all; done) | skip)
  · exfalso
    rw [hc] at w1; cases w1)
end Go.Proofs.Ytoflahjlnbligaa
