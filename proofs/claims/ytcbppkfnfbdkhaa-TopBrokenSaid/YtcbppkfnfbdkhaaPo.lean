/- The reference's steps. -/
import Derived.Test.YtcbppkfnfbdkhaaPn
set_option linter.all false
set_option maxRecDepth 20000
set_option maxHeartbeats 4000000
namespace Go.Proofs.Ytcbppkfnfbdkhaa
open Go.RowKit Go.Shelf
def KnP (f : Flt) (x : Stp) : Prop := (x.kind = 1 ∨ x.kind = 2 ∨ x.kind = 3 ∨ x.kind = 8) ∧ x.unit = 0 ∨ (4 ≤ x.kind ∧ x.kind ≤ 7) ∧ 0 ≤ x.unit ∧ x.unit < f.cons.length
instance (f : Flt) (x : Stp) : Decidable (KnP f x) := by unfold KnP; exact inferInstance
noncomputable def rkind_V (f : Flt) (x : Stp) (Q : SV → Prop) : Σ' P : Prop, (P → ICt 124 [.agg (List.map .d (Flt.row f)), .agg (List.map .d (Stp.row x))] Q) := by
  apply mkV; intro hP
  refine ic_wk (K 31) Try.func124 rfl rfl rfl rfl (fun w0 => ?_)
  repeat' (first
    | (with_reducible (first | apply c_seq | apply c_rg | apply j_nil | apply q_n | apply g_tt | apply c_ct | apply c_bl | apply c_ret | apply c_sk | apply q_r | apply b_r | apply b_n))
    | ((with_reducible apply j_v); exact rfl; exact rfl)
    | ((with_reducible apply j_h); exact rfl; exact rfl)
    | ((with_reducible apply j_g); exact rfl; exact rfl; (first | with_reducible assumption))
    | ((with_reducible apply g_ft); exact rfl)
    | ((with_reducible apply v_lenm); exact rfl; exact rfl; exact rfl; (exact hP); clear hP; intro hP)
    | ((with_reducible apply j_pk); exact rfl; exact rfl; (first | with_reducible assumption); exact rfl)
    | ((with_reducible apply c_c); exact rfl; (first | with_reducible assumption))
    | ((with_reducible apply r_g); exact rfl; (· repeat' (first | exact True.intro | refine And.intro ?_ ?_)); (exact hP.out))
    | ((with_reducible apply v_gs); exact rfl; exact rfl; (exact hP); all_goals (clear hP; intro hg hP))
    | ((with_reducible apply v_if); exact rfl; (exact hP); all_goals (clear hP; intro hc hP)))
theorem rkind_ic (f : Flt) (x : Stp) : ICt 124 [f.v, x.v] (fun v => v = bv (decide (KnP f x))) := (rkind_V f x _).2 (by
  (delta rkind_V; dsimp only [mkV])
  (repeat' (first | with_reducible refine brn_nd (fun h => ?_) (fun h => ?_) | with_reducible refine brn_d (fun h => ?_) (fun h => ?_) | with_reducible refine brn_nn (fun h => ?_) (fun h => ?_) | with_reducible refine brn_nb (fun h => ?_) (fun h => ?_) | with_reducible refine Brn.mk (fun h => ?_) (fun h => ?_) | with_reducible refine Chk.mk ?_ ?_ | with_reducible refine Bth.mk ?_ ?_ | with_reducible refine Fct.mk (fun hf => ?_)))
  all_goals first
    | exact congrArg bv (decide_eq_decide.2 (by unfold KnP; omega))
    | exact congrArg bv (decide_eq_false (by unfold KnP; omega)).symm)
theorem rdo_fin {f : Flt} {s : Rot} {x : Stp} (k v : Int) (us : List Unt) (b : Bool) (hb : b = (stepS f s x).2) (h : (stepS f s x).2 = true → (⟨k, v, us⟩ : Rot) = (stepS f s x).1) : ND (fun r : Rot => (stepS f s x).2 = true → r = (stepS f s x).1) (fun r => .tup [r.v, bv (stepS f s x).2]) (SV.tup [SV.agg [.d (.int .i64 k), .d (.int .i64 v), .d (.list (us.map Unt.row))], SV.one (.d (.bool b))]) :=
  ⟨⟨k, v, us⟩, h, by rw [hb]; rfl⟩
theorem st2 {c : Csm} {u : Unt} {k : Int} (h : unitB c u k = true) : bits .and .i64 u.stored 2 = 0 ↔ u.stored = 1 := by
  rcases (unit_vals h).1 with e | e | e <;> rw [e] <;> decide +kernel
noncomputable def rdo_V (f : Flt) (s : Rot) (x : Stp) (Q : SV → Prop) : Σ' P : Prop, (P → ICt 125 [.agg (List.map .d (Flt.row f)), .agg (List.map .d (Rot.row s)), .agg (List.map .d (Stp.row x))] Q) := by
  apply mkV; intro hP
  refine ic_wk (K 131) Try.func125 rfl rfl rfl rfl (fun w0 => ?_)
  repeat' (first
    | ((fail_if_success (have hTest : Hld False := hP)); (have hq := chk_c hP); (replace hP := chk_p hP))
    | (with_reducible (first | apply c_seq | apply c_rg | apply j_nil | apply q_n | apply g_tt | apply c_ct | apply c_cf | apply c_bl | apply c_ret | apply c_sk | apply q_r | apply b_r | apply b_n))
    | ((with_reducible apply (v_ldel (f := Unt.row))); exact rfl; exact rfl; exact rfl; exact rfl; (case inst => exact inferInstance); exact rfl; (first | with_reducible assumption))
    | ((with_reducible apply j_v); exact rfl; exact rfl)
    | ((with_reducible apply j_h); exact rfl; exact rfl)
    | ((with_reducible apply j_s); exact rfl)
    | ((with_reducible apply j_g); exact rfl; exact rfl; (first | with_reducible assumption | with_reducible exact Eq.refl false))
    | ((with_reducible apply g_ft); exact rfl)
    | ((with_reducible apply j_pk); exact rfl; exact rfl; (first | with_reducible assumption | with_reducible exact Eq.refl false); exact rfl)
    | ((with_reducible apply v_ia); exact rfl; exact rfl; exact rfl; exact rfl; (case inst => exact inferInstance); exact rfl; exact rfl; (apply chk_c; exact hP; (first | skip)))
    | ((with_reducible apply v_iasl); exact rfl; exact rfl; exact rfl; exact rfl; (first | with_reducible assumption | (apply chk_c; exact hP; (first | skip))))
    | ((apply (v_ste (f := Unt.row))); exact rfl; exact rfl; (case inst => exact inferInstance); exact rfl; exact rfl; exact rfl; exact rfl; exact rfl; (first | exact congrArg some (Unt.row_mk _ _ _)); (first | with_reducible assumption))
    | ((with_reducible apply c_c); exact rfl; (first | with_reducible exact Eq.refl true | with_reducible exact Eq.refl false))
    | ((with_reducible apply r_g); exact rfl; (· repeat' (first | exact True.intro | refine And.intro ?_ ?_ | (show (_ : Nat) = _; (first | exact (List.length_map _).symm | (simp only [List.length_set, List.length_map, List.length_append] <;> omega))))); (exact hP.out))
    | ((with_reducible apply (v_callo (d := 13) 1000)); exact rfl; exact ⟨rfl, rfl⟩; apply (rcopy32_ics _); rotate_left 1; (focus ((repeat' (first | exact .nil _ | refine PsL.cons ?_ ?_ | refine PsSL.cons ?_ ?_ | refine .agg ?_ | exact .d _ _)) <;> fail)); exact rfl; exact rfl; (focus (dsimp only [SV.ren, CV.ren, List.map, Nat.reduceAdd]; try exact rfl)); (focus (dsimp only [renH, VH.ren, List.map, Nat.reduceAdd, List.cons_append, List.nil_append]; try exact rfl)); (apply chk_c; exact hP; (first | skip)))
    | ((with_reducible apply v_gs); exact rfl; exact rfl; (exact hP); all_goals (clear hP; intro hg hP))
    | ((with_reducible apply v_if); exact rfl; (exact hP); all_goals (clear hP; intro hc hP)))
theorem rdo_ndp (f : Flt) (s : Rot) (x : Stp) : ICp (rightB f s = true ∧ KnP f x) 125 [f.v, s.v, x.v] (ND (fun r : Rot => (stepS f s x).2 = true → r = (stepS f s x).1) (fun r => .tup [r.v, bv (stepS f s x).2])) := fun hp => (rdo_V f s x _).2 (by
  obtain ⟨hr, hk⟩ := hp
  obtain ⟨r1, r2, r3⟩ := rt_small hr
  unfold KnP at hk
  have hu : 0 ≤ x.unit ∧ x.unit < f.cons.length := by omega
  have hst := st2 (rt_unit hr hu.1 hu.2)
  (delta rdo_V; dsimp only [mkV])
  (repeat' (first | with_reducible refine brn_nd (fun h => ?_) (fun h => ?_) | with_reducible refine brn_d (fun h => ?_) (fun h => ?_) | with_reducible refine brn_nn (fun h => ?_) (fun h => ?_) | with_reducible refine brn_nb (fun h => ?_) (fun h => ?_) | with_reducible refine Brn.mk (fun h => ?_) (fun h => ?_) | with_reducible refine Chk.mk ?_ ?_ | with_reducible refine Bth.mk ?_ ?_ | with_reducible refine Fct.mk (fun hf => ?_)))
  all_goals first
    | omega
    | (refine rdo_fin _ _ _ _ ?_ ?_
       · simp [stepS, chgS, chg0, issB, *]; done
       · simp [stepS, chgS, chg0, issB, *]; done)
    | (refine rdo_fin _ _ _ _ ?_ ?_
       · simp [stepS, chgS, chg0, issB, *]; done
       · intro hs
         simp [stepS, chgS, chg0, issB, *] at hs ⊢
         first
           | exact or12
           | (rw [hs]; exact or12)
           | (simp [hs]; done)))
theorem KnP_iff {f : Flt} {s : Rot} {x : Stp} (hl : s.units.length = f.cons.length) (h1 : 1 ≤ f.cons.length) : rngB s x = true ↔ KnP f x := by
  rw [rngB_iff]; unfold KnP; omega
noncomputable def rapply_V (f : Flt) (s : Rot) (x : Stp) (Q : SV → Prop) : Σ' P : Prop, (P → ICt 74 [.agg (List.map .d (Flt.row f)), .agg (List.map .d (Rot.row s)), .agg (List.map .d (Stp.row x))] Q) := by
  apply mkV; intro hP
  refine ic_wk (K 31) Try.func74 rfl rfl rfl rfl (fun w0 => ?_)
  repeat' (first
    | (with_reducible (first | apply c_seq | apply c_rg | apply j_nil | apply q_n | apply c_ret | apply c_sk | apply q_r))
    | ((with_reducible apply j_v); exact rfl; exact rfl)
    | ((with_reducible apply j_h); exact rfl; exact rfl)
    | ((with_reducible apply j_s); exact rfl)
    | ((with_reducible apply r_g); exact rfl; (· repeat' (first | exact True.intro | refine And.intro ?_ ?_)); (exact hP.out))
    | ((with_reducible apply j_call (pu := false)); exact rfl; (first | (apply (rRight_ic _ _); rotate_left 2) | (apply (rkind_ic _ _); rotate_left 2)); (focus ((repeat' (first | exact .nil _ | refine PsL.cons ?_ ?_ | refine PsSL.cons ?_ ?_ | refine .agg ?_ | exact .d _ _)) <;> fail)); exact .inr rfl)
    | ((with_reducible apply v_ndp (pu := true)); exact rfl; exact ⟨rfl, rfl⟩; (apply (rdo_ndp _ _ _); rotate_left 3); (focus ((repeat' (first | exact .nil _ | refine PsL.cons ?_ ?_ | refine PsSL.cons ?_ ?_ | refine .agg ?_ | exact .d _ _)) <;> fail)); exact .inl rfl; (exact hP); clear hP; intro x hx hP)
    | ((with_reducible apply v_if); exact rfl; (exact hP); all_goals (clear hP; intro hc hP)))
theorem rapply_ic (f : Flt) (s : Rot) (x : Stp) : ICt 74 [f.v, s.v, x.v] (fun v => v = .tup [(aplS f s x).v, iv (aplE f s x)]) := (rapply_V f s x _).2 (by
  (delta rapply_V; dsimp only [mkV])
  (repeat' (first | with_reducible refine brn_nd (fun h => ?_) (fun h => ?_) | with_reducible refine brn_d (fun h => ?_) (fun h => ?_) | with_reducible refine brn_nn (fun h => ?_) (fun h => ?_) | with_reducible refine brn_nb (fun h => ?_) (fun h => ?_) | with_reducible refine Brn.mk (fun h => ?_) (fun h => ?_) | with_reducible refine Chk.mk ?_ ?_ | with_reducible refine Bth.mk ?_ ?_ | with_reducible refine Fct.mk (fun hf => ?_)))
  · exact apl_err (apl_36 (by assumption)) (by omega)
  all_goals
    have hrt : rightB f s = true := (by assumption)
    obtain ⟨r1, r2, r3⟩ := rt_small hrt
    have hKn := KnP_iff (f := f) (s := s) (x := x) r3 r1
  · have hn : ¬ KnP f x := (by assumption)
    exact apl_err (apl_2 hrt fun e => hn (hKn.1 (rngB_iff.2 e))) (by omega)
  · exact ⟨hrt, by assumption⟩
  · have hk : KnP f x := (by assumption)
    intro r hr
    (repeat' (first | with_reducible refine brn_nd (fun h => ?_) (fun h => ?_) | with_reducible refine brn_d (fun h => ?_) (fun h => ?_) | with_reducible refine brn_nn (fun h => ?_) (fun h => ?_) | with_reducible refine brn_nb (fun h => ?_) (fun h => ?_) | with_reducible refine Brn.mk (fun h => ?_) (fun h => ?_) | with_reducible refine Chk.mk ?_ ?_ | with_reducible refine Bth.mk ?_ ?_ | with_reducible refine Fct.mk (fun hf => ?_)))
    · exact apl_err (apl_37 hrt (rngB_iff.1 (hKn.2 hk)) (by assumption)) (by omega)
    · have he : (stepS f s x).2 = true := (by assumption)
      have hr := hr he
      subst hr
      exact apl_0 (f := f) (s := s) (x := x) hrt (rngB_iff.1 (hKn.2 hk)) he)
theorem gt_of_mem {α : Type} [Inhabited α] {l : List α} {x : α} (h : x ∈ l) : ∃ i : Nat, i < l.length ∧ x = gt l (i : Int) := by
  obtain ⟨i, hi, rfl⟩ := List.getElem_of_mem h
  exact ⟨i, hi, (gt_nat hi).symm⟩
def rsafeB (f : Flt) (s t : Rot) : Bool := (rservS f s).all fun p => (rservS f t).contains p
theorem rserv_len (f : Flt) (s : Rot) : (rservS f s).length ≤ 8 := Nat.le_trans (List.length_filter_le _ _) (rpools_len f)
noncomputable def rsafe_V (f : Flt) (s : Rot) (t : Rot) (Q : SV → Prop) : Σ' P : Prop, (P → ICt 164 [.agg (List.map .d (Flt.row f)), .agg (List.map .d (Rot.row s)), .agg (List.map .d (Rot.row t))] Q) := by
  apply mkV; intro hP
  refine ic_wk (K 40) Try.func164 rfl rfl rfl rfl (fun w0 => ?_)
  repeat' (first
    | ((fail_if_success (have hTest : Hld False := hP)); (have hq := chk_c hP); (replace hP := chk_p hP))
    | (with_reducible (first | apply c_seq | apply c_rg | apply j_nil | apply q_n | apply g_ff | apply c_bl | apply c_ex | apply c_ret | apply c_sk | apply q_r | apply q_e | apply b_r | apply b_e | apply b_n | apply n_n | apply n_r | apply n_e))
    | ((with_reducible apply c_l1); exact rfl; exact rfl)
    | ((with_reducible apply j_v); exact rfl; exact rfl)
    | ((with_reducible apply j_h); exact rfl; exact rfl)
    | ((with_reducible apply j_g); exact rfl; exact rfl; (first | with_reducible assumption))
    | ((with_reducible apply g_tf); exact rfl)
    | ((with_reducible apply v_lenm); exact rfl; exact rfl; exact rfl; (exact hP); clear hP; intro hP)
    | ((with_reducible apply j_pk); exact rfl; exact rfl; (first | with_reducible assumption); exact rfl)
    | ((with_reducible apply j_add); exact rfl; exact rfl; exact rfl; (with_reducible apply wr_i64; (apply chk_c; exact hP; (first | skip))))
    | ((with_reducible apply v_ia); exact rfl; exact rfl; exact rfl; exact rfl; (case inst => exact inferInstance); exact rfl; exact rfl; (apply chk_c; exact hP; (first | skip)))
    | ((with_reducible apply r_g); exact rfl; (· repeat' (first | exact True.intro | refine And.intro ?_ ?_)); (exact hP.out))
    | ((with_reducible apply j_call (pu := true)); exact rfl; (apply (rserved_ic _ _); rotate_left 2); (focus ((repeat' (first | exact .nil _ | refine PsL.cons ?_ ?_ | refine PsSL.cons ?_ ?_ | refine .agg ?_ | exact .d _ _)) <;> fail)); exact .inl rfl)
    | ((with_reducible refine v_loopat (c := (.seq (.region 3 _ _) _)) ?_); (apply (v_loop1 _ [7, 18, 19] [] (fun x1 => [(20, .one (.d (.int .i64 x1)))]) (fun x1 => []) [])); exact rfl; exact rfl; exact ⟨(by repeat' (first | exact .nil | refine .cons ?_ ?_ | exact SVle_pl rfl)), (by repeat' (first | exact .nil))⟩; (exact hP); clear hP; intro I μ x1 hP)
    | ((with_reducible apply (v_nxt1 (a1 := _))); (repeat' (first | exact .nil | refine .cons ?_ ?_ | exact SVle_pl rfl)); (repeat' (first | exact .nil | exact .nil _ | refine .cons ?_ ?_ | exact .u _ | exact SVle_pl rfl | refine .one ?_ | refine .agg ?_ | exact .d rfl | exact .ref rfl rfl | exact .sl rfl (by first | rfl | exact List.length_set.symm | exact (splT_len (by simp only [List.length_take, List.length_drop]; omega)).symm | omega | (rw [List.length_append, List.length_map]; show _ + 1 = _; omega) | simp) | exact .fn _ | exact .tape | exact .nils rfl | exact .nild | exact .nildm | exact .nil | exact .rp (by simp) | exact .clo (by simp) | exact .el rfl rfl rfl | exact .d (by first | rfl | (congr 1; omega) | (congr 1; assumption) | simp) | exact .virt rfl | exact .gone _ | refine .blk rfl ?_ | exact .arr rfl (by first | rfl | assumption | simp))); (exact hP))
    | ((with_reducible refine v_loopat (c := (.seq (.region 7 _ _) _)) ?_); (apply (v_loop2 _ _ [7, 9, 18, 19, 20, 24, 25] [] (fun x1 x2 => [(10, .one (.d (.bool x1))), (26, .one (.d (.int .i64 x2)))]) (fun x1 x2 => []) [])); exact rfl; exact rfl; exact ⟨(by repeat' (first | exact .nil | refine .cons ?_ ?_ | exact SVle_pl rfl)), (by repeat' (first | exact .nil))⟩; (exact hP); clear hP; intro I μ x1 x2 hP)
    | ((with_reducible apply (v_nxt2 (a1 := _) (a2 := _))); (repeat' (first | exact .nil | refine .cons ?_ ?_ | exact SVle_pl rfl)); (repeat' (first | exact .nil | exact .nil _ | refine .cons ?_ ?_ | exact .u _ | exact SVle_pl rfl | refine .one ?_ | refine .agg ?_ | exact .d rfl | exact .ref rfl rfl | exact .sl rfl (by first | rfl | exact List.length_set.symm | exact (splT_len (by simp only [List.length_take, List.length_drop]; omega)).symm | omega | (rw [List.length_append, List.length_map]; show _ + 1 = _; omega) | simp) | exact .fn _ | exact .tape | exact .nils rfl | exact .nild | exact .nildm | exact .nil | exact .rp (by simp) | exact .clo (by simp) | exact .el rfl rfl rfl | exact .d (by first | rfl | (congr 1; omega) | (congr 1; assumption) | simp) | exact .virt rfl | exact .gone _ | refine .blk rfl ?_ | exact .arr rfl (by first | rfl | assumption | simp))); (exact hP))
    | ((with_reducible apply v_gs); exact rfl; exact rfl; (exact hP); all_goals (clear hP; intro hg hP))
    | ((with_reducible apply v_if); exact rfl; (exact hP); all_goals (clear hP; intro hc hP)))
theorem rsafe_ic (f : Flt) (s t : Rot) : ICt 164 [f.v, s.v, t.v] (fun v => v = bv (rsafeB f s t)) := (rsafe_V f s t _).2 (by
  have hl1 := rserv_len f s
  have hl2 := rserv_len f t
  (delta rsafe_V; dsimp only [mkV])
  (repeat' (first | with_reducible refine brn_nd (fun h => ?_) (fun h => ?_) | with_reducible refine brn_d (fun h => ?_) (fun h => ?_) | with_reducible refine brn_nn (fun h => ?_) (fun h => ?_) | with_reducible refine brn_nb (fun h => ?_) (fun h => ?_) | with_reducible refine Brn.mk (fun h => ?_) (fun h => ?_) | with_reducible refine Chk.mk ?_ ?_ | with_reducible refine Bth.mk ?_ ?_ | with_reducible refine Fct.mk (fun hf => ?_)))
  refine up1 (fun z => ∀ j : Nat, (j : Int) < z → gt (rservS f s) (j : Int) ∈ rservS f t) (by omega) (fun j hj => by omega) ?_ ?_
  · intro I μ z h0 h1 hj nx
    (repeat' (first | with_reducible refine brn_nd (fun h => ?_) (fun h => ?_) | with_reducible refine brn_d (fun h => ?_) (fun h => ?_) | with_reducible refine brn_nn (fun h => ?_) (fun h => ?_) | with_reducible refine brn_nb (fun h => ?_) (fun h => ?_) | with_reducible refine Brn.mk (fun h => ?_) (fun h => ?_) | with_reducible refine Chk.mk ?_ ?_ | with_reducible refine Bth.mk ?_ ?_ | with_reducible refine Fct.mk (fun hf => ?_)))
    · omega
    refine up2 (fun b y => b = true ↔ ∃ k : Nat, (k : Int) < y ∧ gt (rservS f s) z = gt (rservS f t) (k : Int)) (by omega) ⟨fun h => (by cases h), fun ⟨k, hk, _⟩ => (by omega)⟩ ?_ ?_
    · intro I2 μ2 b y y0 y1 hb nx2
      (repeat' (first | with_reducible refine brn_nd (fun h => ?_) (fun h => ?_) | with_reducible refine brn_d (fun h => ?_) (fun h => ?_) | with_reducible refine brn_nn (fun h => ?_) (fun h => ?_) | with_reducible refine brn_nb (fun h => ?_) (fun h => ?_) | with_reducible refine Brn.mk (fun h => ?_) (fun h => ?_) | with_reducible refine Chk.mk ?_ ?_ | with_reducible refine Bth.mk ?_ ?_ | with_reducible refine Fct.mk (fun hf => ?_)))
      · omega
      · unfold InI; omega
      · refine nx2 _ ⟨fun _ => ?_, fun _ => rfl⟩
        obtain ⟨k, hk, e⟩ := hb.1 (by assumption)
        exact ⟨k, by omega, e⟩
      · unfold InI; omega
      · have hb0 : b = false := (by assumption)
        refine nx2 _ ?_
        rw [decide_eq_true_iff]
        constructor
        · intro e; exact ⟨y.toNat, by omega, by rw [Int.toNat_of_nonneg y0]; exact e⟩
        · rintro ⟨k, hk, e⟩
          by_cases hky : (k : Int) < y
          · have := hb.2 ⟨k, hky, e⟩
            rw [hb0] at this; cases this
          · rw [show y = (k : Int) by omega]; exact e
    · intro I2 μ2 b hb
      (repeat' (first | with_reducible refine brn_nd (fun h => ?_) (fun h => ?_) | with_reducible refine brn_d (fun h => ?_) (fun h => ?_) | with_reducible refine brn_nn (fun h => ?_) (fun h => ?_) | with_reducible refine brn_nb (fun h => ?_) (fun h => ?_) | with_reducible refine Brn.mk (fun h => ?_) (fun h => ?_) | with_reducible refine Chk.mk ?_ ?_ | with_reducible refine Bth.mk ?_ ?_ | with_reducible refine Fct.mk (fun hf => ?_)))
      · have hb0 : b = false := (by assumption)
        have hn : rsafeB f s t = false := by
          unfold rsafeB
          rw [List.all_eq_false]
          refine ⟨_, gt_mem h0 h1, ?_⟩
          intro hc
          rw [List.contains_iff_mem] at hc
          obtain ⟨k, hk, e⟩ := gt_of_mem hc
          have := hb.2 ⟨k, by omega, e⟩
          rw [hb0] at this; cases this
        rw [hn]
      · unfold InI; omega
      · refine nx fun j hj' => ?_
        by_cases e : (j : Int) < z
        · exact hj j e
        · obtain ⟨k, hk, e2⟩ := hb.1 (by assumption)
          rw [show (j : Int) = z by omega, e2]
          exact gt_mem (by omega) (by omega)
  · intro I μ hj
    have hn : rsafeB f s t = true := by
      unfold rsafeB
      rw [List.all_eq_true]
      intro p hp
      rw [List.contains_iff_mem]
      obtain ⟨k, hk, rfl⟩ := gt_of_mem hp
      exact hj k (by omega)
    rw [hn])
noncomputable def rSafe_V (f : Flt) (s : Rot) (x : Stp) (Q : SV → Prop) : Σ' P : Prop, (P → ICt 123 [.agg (List.map .d (Flt.row f)), .agg (List.map .d (Rot.row s)), .agg (List.map .d (Stp.row x))] Q) := by
  apply mkV; intro hP
  refine ic_wk (K 24) Try.func123 rfl rfl rfl rfl (fun w0 => ?_)
  repeat' (first
    | (with_reducible (first | apply c_seq | apply c_rg | apply j_nil | apply q_n | apply g_tt | apply c_ret))
    | ((with_reducible apply j_v); exact rfl; exact rfl)
    | ((with_reducible apply j_h); exact rfl; exact rfl)
    | ((with_reducible apply j_s); exact rfl)
    | ((with_reducible apply j_g); exact rfl; exact rfl; (first | with_reducible assumption))
    | ((with_reducible apply g_ft); exact rfl)
    | ((with_reducible apply j_pk); exact rfl; exact rfl; (first | with_reducible assumption); exact rfl)
    | ((with_reducible apply r_g); exact rfl; (· repeat' (first | exact True.intro | refine And.intro ?_ ?_)); (exact hP.out))
    | ((with_reducible apply j_call (pu := true)); exact rfl; (apply (rapply_ic _ _ _); rotate_left 3); (focus ((repeat' (first | exact .nil _ | refine PsL.cons ?_ ?_ | refine PsSL.cons ?_ ?_ | refine .agg ?_ | exact .d _ _)) <;> fail)); exact .inl rfl)
    | ((with_reducible apply j_call (pu := false)); exact rfl; (apply (rsafe_ic _ _ _); rotate_left 3); (focus ((repeat' (first | exact .nil _ | refine PsL.cons ?_ ?_ | refine PsSL.cons ?_ ?_ | refine .agg ?_ | exact .d _ _)) <;> fail)); exact .inr rfl)
    | ((with_reducible apply v_gs); exact rfl; exact rfl; (exact hP); all_goals (clear hP; intro hg hP)))
theorem rSafe_ic (f : Flt) (s : Rot) (x : Stp) : ICt 123 [f.v, s.v, x.v] (fun v => v = bv (decide (aplE f s x = 0) && rsafeB f s (aplS f s x))) := (rSafe_V f s x _).2 (by
  (delta rSafe_V; dsimp only [mkV])
  (repeat' (first | with_reducible refine brn_nd (fun h => ?_) (fun h => ?_) | with_reducible refine brn_d (fun h => ?_) (fun h => ?_) | with_reducible refine brn_nn (fun h => ?_) (fun h => ?_) | with_reducible refine brn_nb (fun h => ?_) (fun h => ?_) | with_reducible refine Brn.mk (fun h => ?_) (fun h => ?_) | with_reducible refine Chk.mk ?_ ?_ | with_reducible refine Bth.mk ?_ ?_ | with_reducible refine Fct.mk (fun hf => ?_)))
  all_goals
    refine congrArg bv ?_
    simp [*])
noncomputable def rchoices_V (f : Flt) (s : Rot) (Q : SV → Prop) : Σ' P : Prop, (P → ICt 73 [.agg (List.map .d (Flt.row f)), .agg (List.map .d (Rot.row s))] Q) := by
  apply mkV; intro hP
  refine ic_wk (K 32) Try.func73 rfl rfl rfl rfl (fun w0 => ?_)
  repeat' (first
    | ((fail_if_success (have hTest : Hld False := hP)); (have hq := chk_c hP); (replace hP := chk_p hP))
    | (with_reducible (first | apply c_seq | apply c_rg | apply j_nil | apply q_n | apply c_bl | apply c_ex | apply c_ret | apply c_sk | apply q_e | apply b_e | apply b_n | apply n_n | apply n_e))
    | ((with_reducible apply c_l1); exact rfl; exact rfl)
    | ((with_reducible apply j_v); exact rfl; exact rfl)
    | ((with_reducible apply (v_bsf (d := 28) (Stp.row))); exact rfl; exact rfl; exact (row_cons (Stp.row_mk _ _) row_nil); exact rfl; exact rfl)
    | ((with_reducible apply j_h); exact rfl; exact rfl)
    | ((with_reducible apply j_s); exact rfl)
    | ((with_reducible apply v_lenm); exact rfl; exact rfl; exact rfl; (exact hP); clear hP; intro hP)
    | ((with_reducible apply j_add); exact rfl; exact rfl; exact rfl; (with_reducible apply wr_i64; (apply chk_c; exact hP; (first | skip))))
    | ((with_reducible apply (v_ap (Stp.row))); exact rfl; exact rfl; exact rfl; exact rfl; exact rfl; exact rfl; exact rfl; (first | exact rfl); exact rfl; exact rfl; exact rfl; (apply src_d; exact rfl; (intro row hrow; obtain ⟨q, _, rfl⟩ := List.mem_map.1 hrow; rfl)); (first | exact rfl); exact rfl; exact rfl; exact rfl; (apply chk_c; exact hP; (first | skip)))
    | ((with_reducible apply r_g); exact rfl; (· repeat' (first | exact True.intro | refine And.intro ?_ ?_ | (show (_ : Nat) = _; (first | exact (List.length_map _).symm)))); (exact hP.out))
    | ((with_reducible apply j_call (pu := false)); exact rfl; (apply (rSafe_ic ⟨_, _⟩ ⟨_, _, _⟩ ⟨_, _⟩); rotate_left 7; dsimp only [Flt.v_mk, Rot.v_mk, Stp.v_mk]); (focus ((repeat' (first | exact .nil _ | refine PsL.cons ?_ ?_ | refine PsSL.cons ?_ ?_ | refine .agg ?_ | exact .d _ _)) <;> fail)); exact .inr rfl)
    | ((with_reducible refine v_loopat (c := (.seq (.seq (.region 3 _ _) _) _)) ?_); (apply (v_loop2 [] _ [2, 3] [2, 3] (fun x1 x2 => [(5, .one (.sl 205 (List.length x1) 2)), (6, .one (.d (.int .i64 x2)))]) (fun x1 x2 => [(205, .arr 159 2 (List.map Stp.row x1))]) [205])); exact rfl; exact rfl; (focus (refine ⟨?_, ?_⟩; rotate_left 1; (focus (repeat' (first | exact .nil | refine .cons ?_ ?_ | exact .d rfl | exact .virt rfl | refine .blk rfl ?_))); (focus (repeat' (first | exact .nil | refine .cons ?_ ?_ | exact SVle_pl rfl | refine .one ?_ | exact .ref rfl rfl | exact .nils rfl))))); (exact hP); clear hP; intro I μ x1 x2 hP)
    | ((with_reducible apply (v_nxt2 (a1 := _) (a2 := _))); rotate_left 1; (focus (repeat' (first | exact .nil | refine .cons ?_ ?_ | exact .d rfl | refine .blk rfl ?_ | exact .arr rfl (by first | rfl | assumption | simp)))); rotate_right 1; (focus (repeat' (first | exact .nil | refine .cons ?_ ?_ | exact SVle_pl rfl | refine .one ?_ | exact .ref rfl rfl | exact .sl rfl (by first | rfl | exact List.length_set.symm | exact (splT_len (by simp only [List.length_take, List.length_drop]; omega)).symm | omega | (rw [List.length_append, List.length_map]; show _ + 1 = _; omega) | simp)))); (exact hP))
    | ((with_reducible refine v_loopat (c := (.seq (.region 6 _ _) _)) ?_); (apply (v_loop2 _ _ [2, 3, 6, 15] [2, 3] (fun x1 x2 => [(5, .one (.sl 205 (List.length x1) 2)), (16, .one (.d (.int .i64 x2)))]) (fun x1 x2 => [(205, .arr 159 2 (List.map Stp.row x1))]) [])); exact rfl; exact rfl; (focus (refine ⟨?_, ?_⟩; rotate_left 1; (focus (repeat' (first | exact .nil | refine .cons ?_ ?_ | exact .d rfl | refine .blk rfl ?_ | exact .arr rfl (by first | rfl | assumption | simp)))); (focus (repeat' (first | exact .nil | refine .cons ?_ ?_ | exact SVle_pl rfl | refine .one ?_ | exact .ref rfl rfl | exact .sl rfl (by first | rfl | exact List.length_set.symm | exact (splT_len (by simp only [List.length_take, List.length_drop]; omega)).symm | omega | (rw [List.length_append, List.length_map]; show _ + 1 = _; omega) | simp)))))); (exact hP); clear hP; intro I μ x1 x2 hP)
    | ((with_reducible apply v_if); exact rfl; (exact hP); all_goals (clear hP; intro hc hP)))
theorem rchoices_nd (f : Flt) (s : Rot) : ICp (f.cons.length ≤ 100) 73 [f.v, s.v] (ND (fun l : List Stp => l.length ≤ 800 ∧ ∀ x ∈ l, aplE f s x = 0 ∧ rsafeB f s (aplS f s x) = true) (fun l => .one (.d (.list (l.map Stp.row))))) := fun hn => (rchoices_V f s _).2 (by
  (delta rchoices_V; dsimp only [mkV])
  (repeat' (first | with_reducible refine brn_nd (fun h => ?_) (fun h => ?_) | with_reducible refine brn_d (fun h => ?_) (fun h => ?_) | with_reducible refine brn_nn (fun h => ?_) (fun h => ?_) | with_reducible refine brn_nb (fun h => ?_) (fun h => ?_) | with_reducible refine Brn.mk (fun h => ?_) (fun h => ?_) | with_reducible refine Chk.mk ?_ ?_ | with_reducible refine Bth.mk ?_ ?_ | with_reducible refine Fct.mk (fun hf => ?_)))
  refine lp2 (fun o z => 1 ≤ z ∧ z ≤ 9 ∧ (o.length : Int) ≤ 100 * (z - 1) ∧ ∀ x ∈ o, aplE f s x = 0 ∧ rsafeB f s (aplS f s x) = true) (fun _ z => (9 - z).toNat) ⟨by omega, by omega, by simp, fun x hx => by cases hx⟩ ?_
  rintro I μ nx o z ⟨h0, h1, h2, h3⟩
  (repeat' (first | with_reducible refine brn_nd (fun h => ?_) (fun h => ?_) | with_reducible refine brn_d (fun h => ?_) (fun h => ?_) | with_reducible refine brn_nn (fun h => ?_) (fun h => ?_) | with_reducible refine brn_nb (fun h => ?_) (fun h => ?_) | with_reducible refine Brn.mk (fun h => ?_) (fun h => ?_) | with_reducible refine Chk.mk ?_ ?_ | with_reducible refine Bth.mk ?_ ?_ | with_reducible refine Fct.mk (fun hf => ?_)))
  · refine up2 (fun q y => (q.length : Int) ≤ 100 * (z - 1) + y ∧ ∀ x ∈ q, aplE f s x = 0 ∧ rsafeB f s (aplS f s x) = true) (by omega) ⟨by omega, h3⟩ ?_ ?_
    · rintro I2 μ2 q y y0 y1 ⟨q1, q2⟩ nx2
      (repeat' (first | with_reducible refine brn_nd (fun h => ?_) (fun h => ?_) | with_reducible refine brn_d (fun h => ?_) (fun h => ?_) | with_reducible refine brn_nn (fun h => ?_) (fun h => ?_) | with_reducible refine brn_nb (fun h => ?_) (fun h => ?_) | with_reducible refine Brn.mk (fun h => ?_) (fun h => ?_) | with_reducible refine Chk.mk ?_ ?_ | with_reducible refine Bth.mk ?_ ?_ | with_reducible refine Fct.mk (fun hf => ?_)))
      · simp; omega
      · unfold InI; omega
      · refine nx2 _ ⟨by simp; omega, fun x hx => ?_⟩
        rcases List.mem_append.1 hx with hx | hx
        · exact q2 x hx
        · rw [List.mem_singleton] at hx
          subst hx
          have hc : (decide (aplE f s ⟨z, y⟩ = 0) && rsafeB f s (aplS f s ⟨z, y⟩)) = true := (by assumption)
          rw [Bool.and_eq_true, decide_eq_true_iff] at hc
          exact hc
      · unfold InI; omega
      · exact nx2 _ ⟨by omega, q2⟩
    · rintro I2 μ2 q ⟨q1, q2⟩
      (repeat' (first | with_reducible refine brn_nd (fun h => ?_) (fun h => ?_) | with_reducible refine brn_d (fun h => ?_) (fun h => ?_) | with_reducible refine brn_nn (fun h => ?_) (fun h => ?_) | with_reducible refine brn_nb (fun h => ?_) (fun h => ?_) | with_reducible refine Brn.mk (fun h => ?_) (fun h => ?_) | with_reducible refine Chk.mk ?_ ?_ | with_reducible refine Bth.mk ?_ ?_ | with_reducible refine Fct.mk (fun hf => ?_)))
      · unfold InI; omega
      · exact nx _ _ _ _ ⟨h0, h1, h2, h3⟩ ⟨by omega, by omega, by omega, q2⟩ (by omega)
  · exact ⟨o, ⟨by omega, h3⟩, rfl⟩)
end Go.Proofs.Ytcbppkfnfbdkhaa
