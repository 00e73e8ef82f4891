/- Rules: which one decides. -/
import Derived.Test.YtcbppkfnfbdkhaaJe
set_option linter.all false
set_option maxRecDepth 20000
set_option maxHeartbeats 4000000
namespace Go.Proofs.Ytcbppkfnfbdkhaa
open Go.RowKit Go.Shelf
def RlA (r : Rul) : Prop := r.wh.ok ∧ rtS r.wh = true
noncomputable def rho (kinds : List Knd) (f : Fnd) (s : Spt) (r : Rul) : Bool := hoS kinds f s r.wh
noncomputable def dec1_V (r : Rul) (kinds : List Knd) (f : Fnd) (s : Spt) (Q : SV → Prop) : Σ' P : Prop, (P → ICt 95 [r.v, .one (.rp [.d (.list (kinds.map Knd.row))]), .one f.p, .one s.p] Q) := by
  apply mkV; intro hP
  refine ic_wk (K 12) Try.func95 rfl rfl rfl rfl (fun w0 => ?_)
  repeat' (first
    | ((fail_if_success (have hTest : Hld False := hP)); (have hq := chk_c hP); (replace hP := chk_p hP))
    | (with_reducible (first | apply c_seq | apply c_rg | apply j_nil | apply q_n | apply c_ret))
    | ((with_reducible apply j_v); exact rfl; exact rfl)
    | ((with_reducible apply j_h); exact rfl; exact rfl)
    | ((with_reducible apply r_g); exact rfl; (· repeat' (first | exact True.intro | refine And.intro ?_ ?_)); (exact hP.out))
    | ((with_reducible apply v_call (pu := false)); exact rfl; exact ⟨rfl, rfl⟩; (apply (holds_ic _ _ _ _); rotate_left 4); (focus ((repeat' (first | exact .nil _ | refine PsL.cons ?_ ?_ | refine PsSL.cons ?_ ?_ | exact .one (.d _ _) | refine .agg ?_ | exact .d _ _)) <;> fail)); exact .inr rfl; (apply chk_c; exact hP; (first | skip))))
theorem dec1_fn (kinds : List Knd) (f : Fnd) (s : Spt) : FnC 95 [.rp [.d (.list (kinds.map Knd.row))], f.p, s.p] (pRul (fun r => RlA r ∧ SpOk s) fun r => rho kinds f s r) := fnRul (enters_of Try.func95 rfl rfl) fun r hr => (dec1_V r kinds f s _).2 (by
  (delta dec1_V; dsimp only [mkV])
  (repeat' (first | with_reducible refine brn_nd (fun h => ?_) (fun h => ?_) | with_reducible refine brn_d (fun h => ?_) (fun h => ?_) | with_reducible refine brn_nn (fun h => ?_) (fun h => ?_) | with_reducible refine brn_nb (fun h => ?_) (fun h => ?_) | with_reducible refine Brn.mk (fun h => ?_) (fun h => ?_) | with_reducible refine Chk.mk ?_ ?_ | with_reducible refine Bth.mk ?_ ?_ | with_reducible refine Fct.mk (fun hf => ?_)))
  · exact ⟨hr.1.1, hr.1.2, hr.2⟩
  all_goals rfl)
noncomputable def decN (l : List Rul) (kinds : List Knd) (f : Fnd) (s : Spt) : Int := idxOf (rho kinds f s) l
noncomputable def decV (l : List Rul) (kinds : List Knd) (f : Fnd) (s : Spt) : Int := if decN l kinds f s < 0 then 1 else (gt l (decN l kinds f s)).vd
noncomputable def decide_V (l : List Rul) (kinds : List Knd) (f : Fnd) (s : Spt) (Q : SV → Prop) : Σ' P : Prop, (P → ICt 46 [.one (.d (.list (List.map Rul.row l))), .one (.d (.list (List.map Knd.row kinds))), .agg (List.map .d (Fnd.row f)), .agg (List.map .d (Spt.row s))] Q) := by
  apply mkV; intro hP
  refine ic_wk (K 22) Try.func46 rfl rfl rfl rfl (fun w0 => ?_)
  repeat' (first
    | ((fail_if_success (have hTest : Hld False := hP)); (have hq := chk_c hP); (replace hP := chk_p hP))
    | (with_reducible (first | apply c_seq | apply c_rg | apply j_nil | apply q_n | apply c_ret | apply c_sk | apply q_r))
    | ((with_reducible apply j_v); exact rfl; exact rfl)
    | ((with_reducible apply j_h); exact rfl; exact rfl)
    | ((with_reducible apply v_ia); exact rfl; exact rfl; exact rfl; exact rfl; (case inst => exact inferInstance); exact rfl; exact rfl; (apply chk_c; exact hP; (first | skip)))
    | ((with_reducible apply r_g); exact rfl; (· repeat' (first | exact True.intro | refine And.intro ?_ ?_)); (exact hP.out))
    | ((with_reducible apply v_call (pu := false)); exact rfl; exact ⟨rfl, rfl⟩; (apply (idxR_ic _ _ _); rotate_left 3); (focus ((repeat' (first | (apply (PsS.cfn _ (dec1_fn _ _ _)); (focus (repeat' (first | exact .nil _ | refine PsL.cons ?_ ?_ | refine PsSL.cons ?_ ?_ | exact .one (.d _ _) | exact .one (.nil _) | exact .one (.tape _) | exact .one (.fn _ _) | exact .agg (.same _ _) | refine .agg ?_ | exact .d _ _ | exact .one (.sl rfl rfl) | exact .sl rfl rfl | exact PsC.fn _ _ | refine .one (PsC.ref rfl ?_) | refine PsC.ref rfl ?_ | refine .one (PsC.rp ?_) | refine PsC.rp ?_ | refine .one (PsC.clo ?_) | refine PsC.clo ?_ | exact .same _ _)))) | exact .nil _ | refine PsL.cons ?_ ?_ | refine PsSL.cons ?_ ?_ | exact .one (.d _ _) | exact .d _ _ | refine PsC.ref rfl ?_)) <;> fail)); exact .inr rfl; (apply chk_c; exact hP; (first | skip)))
    | ((with_reducible apply v_if); exact rfl; (exact hP); all_goals (clear hP; intro hc hP)))
theorem decide_ic (l : List Rul) (kinds : List Knd) (f : Fnd) (s : Spt) : ICp (SpOk s ∧ ∀ r ∈ l, RlA r) 46 [rlv l, knv kinds, f.v, s.v] (fun v => v = .tup [iv (decV l kinds f s), iv (decN l kinds f s)]) := fun h => (decide_V l kinds f s _).2 (by
  (delta decide_V; dsimp only [mkV])
  have hb := idxOf_bd (rho kinds f s) l
  have e1 : decN l kinds f s = idxOf (rho kinds f s) l := rfl
  have e2 : decV l kinds f s = if idxOf (rho kinds f s) l < 0 then 1 else (gt l (idxOf (rho kinds f s) l)).vd := rfl
  (repeat' (first | with_reducible refine brn_nd (fun h => ?_) (fun h => ?_) | with_reducible refine brn_d (fun h => ?_) (fun h => ?_) | with_reducible refine brn_nn (fun h => ?_) (fun h => ?_) | with_reducible refine brn_nb (fun h => ?_) (fun h => ?_) | with_reducible refine Brn.mk (fun h => ?_) (fun h => ?_) | with_reducible refine Chk.mk ?_ ?_ | with_reducible refine Bth.mk ?_ ?_ | with_reducible refine Fct.mk (fun hf => ?_)))
  · exact fun k hk => ⟨h.2 k hk, h.1⟩
  · have hn : idxOf (rho kinds f s) l < 0 := by assumption
    rw [e2, e1, if_pos hn, show idxOf (rho kinds f s) l = -1 by omega]
  · have hn : ¬ idxOf (rho kinds f s) l < 0 := by assumption
    exact ⟨by show 0 ≤ idxOf (rho kinds f s) l; omega, hb.2⟩
  · have hn : ¬ idxOf (rho kinds f s) l < 0 := by assumption
    rw [e2, e1, if_neg hn])
theorem rlA_of {r : Rul} (h : r.wh.ok) (hc : ckS r = 0) : RlA r := by
  refine ⟨h, ?_⟩
  unfold ckS at hc
  split at hc
  · split at hc
    · rename_i ht
      unfold teS at ht
      split at ht
      · cases ht
      · split at ht
        · cases ht
        · split at ht
          · assumption
          · cases ht
    · rename_i hn; exact absurd hc hn
  · cases hc
theorem RulOk.asks {l : List Rul} (h : RulOk l) : ∀ r ∈ l, RlA r := fun r hr => rlA_of (h.2.1 r hr).2.1 (h.2.1 r hr).2.2
noncomputable def Holds_V (c : Trm) (kinds : List Knd) (f : Fnd) (spot : Int) (Q : SV → Prop) : Σ' P : Prop, (P → ICt 24 [.agg (List.map .d (Trm.row c)), .one (.d (.list (List.map Knd.row kinds))), .agg (List.map .d (Fnd.row f)), .one (.d (.int .i64 spot))] Q) := by
  apply mkV; intro hP
  refine ic_wk (K 34) Try.func24 rfl rfl rfl rfl (fun w0 => ?_)
  apply (v_kint (x := 3)); exact rfl; exact hP; clear hP; intro hP
  repeat' (first
    | (with_reducible (first | apply c_seq | apply c_rg | apply j_nil | apply q_n | apply c_ret))
    | ((with_reducible apply j_v); exact rfl; exact rfl)
    | ((with_reducible apply j_h); exact rfl; exact rfl)
    | ((with_reducible apply r_g); exact rfl; (· repeat' (first | exact True.intro | refine And.intro ?_ ?_)); (exact hP.out))
    | ((with_reducible refine v_rgat (i := 1) ?_); (refine n_start (by kernel_rfl) ?_; (refine n_quiet none #[true, true, true, true, true, true, true, true, true, true, true, true, true, true, true, true, true, true, true, true, true, true, true, true, true, true] [0, 1, 2, 3, 4, 5, 6, 7, 8, 9, 10, 11, 12, 13, 14, 15, 16, 17, 18, 19, 20, 21, 22, 23, 24, 25] 0 rfl ?_; (repeat' (first | ((fail_if_success (have hTest : Hld False := hP)); (have hq := chk_c hP); (replace hP := chk_p hP)) | ((with_reducible apply (d_e (some []))); exact rfl; exact rfl; kernel_rfl; kernel_rfl; exact rfl; exact rfl; (first | ((with_reducible apply e_v); exact rfl) | ((with_reducible apply e_pk); exact rfl; (first | with_reducible assumption | with_reducible exact Eq.refl false); exact rfl))) | ((with_reducible apply (d_ey (some []))); exact rfl; exact rfl; exact rfl; (first | with_reducible assumption); exact rfl; kernel_rfl; kernel_rfl; exact rfl; exact rfl; (first | ((with_reducible apply e_v); exact rfl) | ((with_reducible apply e_lenm); exact rfl; exact rfl) | ((with_reducible apply f_ia); exact rfl; exact rfl; exact rfl; (case inst => exact inferInstance); exact rfl; exact rfl; (apply chk_c; exact hP; (first | skip))) | ((with_reducible apply f_call (pu := false)); exact rfl; exact ⟨rfl, rfl⟩; apply (term_ic _); rotate_left 1; (focus ((repeat' (first | exact .nil _ | refine PsL.cons ?_ ?_ | refine PsSL.cons ?_ ?_ | refine .agg ?_ | exact .d _ _)) <;> fail)); exact .inr rfl; (apply chk_c; exact hP; (first | skip))) | ((with_reducible apply f_call (pu := false)); exact rfl; exact ⟨rfl, rfl⟩; apply (holds_ic _ _ _ _); rotate_left 4; (focus ((repeat' (first | exact .nil _ | refine PsL.cons ?_ ?_ | refine PsSL.cons ?_ ?_ | exact .one (.d _ _) | refine .agg ?_ | exact .d _ _)) <;> fail)); exact .inr rfl; (apply chk_c; exact hP; (first | skip))))) | ((with_reducible apply d_gn); exact rfl; exact rfl; exact rfl; (first | with_reducible assumption | with_reducible rfl); exact rfl; kernel_rfl; kernel_rfl; exact rfl; exact rfl) | ((with_reducible apply v_dgs); exact rfl; exact rfl; exact rfl; ((repeat ((fail_if_success (have hTest : Hld False := hP)); (have hq := chk_c hP); (replace hP := chk_p hP))); exact hP); all_goals (clear hP; intro hg hP)) | ((with_reducible apply d_leaf); exact (by decide +kernel)))); all_goals ((with_reducible apply n_doneZ); exact rfl; exact (by decide +kernel))))))
theorem Holds_ic (c : Trm) (kinds : List Knd) (f : Fnd) (spot : Int) : ICp (c.ok ∧ 0 ≤ spot ∧ spot < f.wh.length ∧ ∀ s ∈ f.wh, SpOk s) 24 [c.v, knv kinds, f.v, iv spot] (fun v => v = bv (decide (teS c = 0) && hoS kinds f (gt f.wh spot) c)) := fun h => (Holds_V c kinds f spot _).2 (by
  obtain ⟨h1, h2, h3, h4⟩ := h
  have hrt : teS c = 0 → rtS c = true := fun e => by
    unfold teS at e
    split at e
    · cases e
    · split at e
      · cases e
      · split at e
        · assumption
        · cases e
  (delta Holds_V; dsimp only [mkV])
  (repeat' (first | with_reducible refine brn_nd (fun h => ?_) (fun h => ?_) | with_reducible refine brn_d (fun h => ?_) (fun h => ?_) | with_reducible refine brn_nn (fun h => ?_) (fun h => ?_) | with_reducible refine brn_nb (fun h => ?_) (fun h => ?_) | with_reducible refine Brn.mk (fun h => ?_) (fun h => ?_) | with_reducible refine Chk.mk ?_ ?_ | with_reducible refine Bth.mk ?_ ?_ | with_reducible refine Fct.mk (fun hf => ?_)))
  all_goals first | exact h1 | exact ⟨h2, h3⟩ | exact ⟨h1, hrt (by assumption), h4 _ (gt_mem h2 h3)⟩ | (exfalso; omega) | (refine bl ?_; simp [*]; done) | trace_state)
end Go.Proofs.Ytcbppkfnfbdkhaa
