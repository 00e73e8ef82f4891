/- Rules: which are valid. -/
import Derived.Test.YtcbppkfnfbdkhaaJc
set_option linter.all false
set_option maxRecDepth 20000
set_option maxHeartbeats 4000000
namespace Go.Proofs.Ytcbppkfnfbdkhaa
open Go.RowKit Go.Shelf
abbrev rlv (l : List Rul) : SV := .one (.d (.list (l.map Rul.row)))
def nmC (c : Int) : Bool := (decide (97 ≤ c) && decide (c ≤ 122)) || (decide (48 ≤ c) && decide (c ≤ 57)) || decide (c = 45)
def nmB (s : ByteArray) : Bool := (bytI s).all nmC && (decide (1 ≤ s.size) && decide (s.size ≤ 40))
noncomputable def named_V (s : ByteArray) (Q : SV → Prop) : Σ' P : Prop, (P → ICt 140 [.one (.d (.str s))] Q) := by
  apply mkV; intro hP
  refine ic_wk (K 39) Try.func140 rfl rfl rfl rfl (fun w0 => ?_)
  repeat' (first
    | ((fail_if_success (have hTest : Hld False := hP)); (have hq := chk_c hP); (replace hP := chk_p hP))
    | (with_reducible (first | apply c_seq | apply c_rg | apply j_nil | apply q_n | apply g_tt | apply g_ff | apply c_cf | apply c_bl | apply c_ex | apply c_ret | apply c_sk | apply q_r | apply q_e | apply b_r | apply b_e | apply b_n | apply n_n | apply n_r | apply n_e))
    | ((with_reducible apply v_sby); exact rfl; kernel_rfl; exact rfl; kernel_rfl; exact rfl; exact rfl; exact rfl; exact rfl; (apply chk_c; exact hP; (first | skip)))
    | ((with_reducible apply v_lenstr); exact rfl; exact rfl; kernel_rfl)
    | ((with_reducible apply c_l1); exact rfl; exact rfl)
    | ((with_reducible apply j_v); exact rfl; exact rfl)
    | ((with_reducible apply j_g); exact rfl; exact rfl; (first | with_reducible assumption | with_reducible exact Eq.refl true | with_reducible exact Eq.refl false))
    | ((with_reducible apply g_tf); exact rfl)
    | ((with_reducible apply g_ft); exact rfl)
    | ((with_reducible apply j_gz); exact rfl; exact rfl; exact rfl)
    | ((with_reducible apply v_lenm); exact rfl; exact rfl; exact rfl; (exact hP); clear hP; intro hP)
    | ((with_reducible apply j_pk); exact rfl; exact rfl; (first | with_reducible assumption | with_reducible exact Eq.refl true | with_reducible exact Eq.refl false); exact rfl)
    | ((with_reducible apply j_add); exact rfl; exact rfl; exact rfl; (with_reducible apply wr_i64; (apply chk_c; exact hP; (first | skip))))
    | ((with_reducible apply v_ia); exact rfl; exact rfl; exact rfl; exact rfl; (case inst => exact inferInstance); exact rfl; exact rfl; (apply chk_c; exact hP; (first | skip)))
    | ((with_reducible apply c_c); exact rfl; (first | with_reducible exact Eq.refl false))
    | ((with_reducible apply r_g); exact rfl; (· repeat' (first | exact True.intro | refine And.intro ?_ ?_)); (exact hP.out))
    | ((with_reducible refine v_loopat (c := (.seq (.region 2 _ _) _)) ?_); (apply (v_loop1 _ [0, 6, 7] [] (fun x1 => [(8, .one (.d (.int .i64 x1)))]) (fun x1 => []) [])); exact rfl; exact rfl; exact ⟨(by repeat' (first | exact .nil | refine .cons ?_ ?_ | exact SVle_pl rfl)), (by repeat' (first | exact .nil))⟩; (exact hP); clear hP; intro I μ x1 hP)
    | ((with_reducible apply (v_nxt1 (a1 := _))); (repeat' (first | exact .nil | refine .cons ?_ ?_ | exact SVle_pl rfl)); (repeat' (first | exact .nil | exact .nil _ | refine .cons ?_ ?_ | exact .u _ | exact SVle_pl rfl | refine .one ?_ | refine .agg ?_ | exact .d rfl | exact .ref rfl rfl | exact .sl rfl (by first | rfl | exact List.length_set.symm | exact (splT_len (by simp only [List.length_take, List.length_drop]; omega)).symm | omega | (rw [List.length_append, List.length_map]; show _ + 1 = _; omega) | simp) | exact .fn _ | exact .tape | exact .nils rfl | exact .nild | exact .nildm | exact .nil | exact .rp (by simp) | exact .clo (by simp) | exact .el rfl rfl rfl | exact .d (by first | rfl | (congr 1; omega) | (congr 1; assumption) | simp) | exact .virt rfl | exact .gone _ | refine .blk rfl ?_ | exact .arr rfl (by first | rfl | assumption | simp))); (exact hP))
    | ((with_reducible apply v_gs); exact rfl; exact rfl; (exact hP); all_goals (clear hP; intro hg hP))
    | ((with_reducible apply v_if); exact rfl; (exact hP); all_goals (clear hP; intro hc hP)))
theorem named_ic (s : ByteArray) : ICp (s.size ≤ 1000000000) 140 [.one (.d (.str s))] (fun v => v = bv (nmB s)) := fun hs => (named_V s _).2 (by
  (delta named_V; dsimp only [mkV])
  (repeat' (first | with_reducible refine brn_nd (fun h => ?_) (fun h => ?_) | with_reducible refine brn_d (fun h => ?_) (fun h => ?_) | with_reducible refine brn_nn (fun h => ?_) (fun h => ?_) | with_reducible refine brn_nb (fun h => ?_) (fun h => ?_) | with_reducible refine Brn.mk (fun h => ?_) (fun h => ?_) | with_reducible refine Chk.mk ?_ ?_ | with_reducible refine Bth.mk ?_ ?_ | with_reducible refine Fct.mk (fun hf => ?_)))
  · exact hs
  have no : ∀ z : Int, 0 ≤ z → z < (bytI s).length → nmC (gt (bytI s) z) = false → SV.one (CV.d (Cell.bool false)) = bv (nmB s) := fun z h0 h1 hz => by
    have : (bytI s).all nmC = false := List.all_eq_false.2 ⟨_, gt_mem h0 h1, by simp [hz]⟩
    rw [nmB, this]; rfl
  refine up1 (fun z => ∀ i : Nat, (i : Int) < z → nmC (gt (bytI s) (i : Int)) = true) (by omega) (fun i hi => by omega) (fun I μ z h0 h1 hj nx => ?_) (fun I μ hj => ?_)
  · have yes : nmC (gt (bytI s) z) = true → I (z + 1) ∧ μ (z + 1) < μ z := fun hc => nx fun i hi => by
      by_cases e : (i : Int) < z
      · exact hj i e
      · rw [show (i : Int) = z by omega]; exact hc
    (repeat' (first | with_reducible refine brn_nd (fun h => ?_) (fun h => ?_) | with_reducible refine brn_d (fun h => ?_) (fun h => ?_) | with_reducible refine brn_nn (fun h => ?_) (fun h => ?_) | with_reducible refine brn_nb (fun h => ?_) (fun h => ?_) | with_reducible refine Brn.mk (fun h => ?_) (fun h => ?_) | with_reducible refine Chk.mk ?_ ?_ | with_reducible refine Bth.mk ?_ ?_ | with_reducible refine Fct.mk (fun hf => ?_)))
    all_goals first | omega | (unfold InI; omega) | (refine no z h0 h1 ?_; unfold nmC; simp; omega) | (refine yes ?_; unfold nmC; simp; omega) | trace_state
  · have ha : (bytI s).all nmC = true := List.all_eq_true.2 fun x hx => by
      obtain ⟨i, hi, rfl⟩ := mem_gt hx
      exact hj i (by omega)
    (repeat' (first | with_reducible refine brn_nd (fun h => ?_) (fun h => ?_) | with_reducible refine brn_d (fun h => ?_) (fun h => ?_) | with_reducible refine brn_nn (fun h => ?_) (fun h => ?_) | with_reducible refine brn_nb (fun h => ?_) (fun h => ?_) | with_reducible refine Brn.mk (fun h => ?_) (fun h => ?_) | with_reducible refine Chk.mk ?_ ?_ | with_reducible refine Bth.mk ?_ ?_ | with_reducible refine Fct.mk (fun hf => ?_)))
    · rw [nmB, ha, show decide (1 ≤ s.size) = true by simp; omega, Bool.true_and, Bool.true_and]
      refine congrArg bv ?_
      rw [decide_eq_decide]; omega
    · rw [nmB, ha, show decide (1 ≤ s.size) = false from decide_eq_false (by omega)]; rfl)
noncomputable def teS (c : Trm) : Int := if 60 < tmS c then 3 else if 20 < dpS c 20 then 9 else if rtS c = true then 0 else 1
noncomputable def term_V (c : Trm) (Q : SV → Prop) : Σ' P : Prop, (P → ICt 54 [.agg (List.map .d (Trm.row c))] Q) := by
  apply mkV; intro hP
  refine ic_wk (K 15) Try.func54 rfl rfl rfl rfl (fun w0 => ?_)
  repeat' (first
    | ((fail_if_success (have hTest : Hld False := hP)); (have hq := chk_c hP); (replace hP := chk_p hP))
    | (with_reducible (first | apply c_seq | apply c_rg | apply j_nil | apply q_n | apply c_bl | apply c_ret | apply c_sk | apply q_r | apply b_r | apply b_n))
    | ((with_reducible apply j_v); exact rfl; exact rfl)
    | ((with_reducible apply j_h); exact rfl; exact rfl)
    | ((with_reducible apply r_g); exact rfl; (· repeat' (first | exact True.intro | refine And.intro ?_ ?_)); (exact hP.out))
    | ((with_reducible apply v_call (pu := false)); exact rfl; exact ⟨rfl, rfl⟩; (first | (apply (terms_ic _); rotate_left 1) | (apply (depth_ic _ _); rotate_left 2) | (apply (right_ic _); rotate_left 1)); (focus ((repeat' (first | exact .nil _ | refine PsL.cons ?_ ?_ | refine PsSL.cons ?_ ?_ | exact .one (.d _ _) | refine .agg ?_ | exact .d _ _)) <;> fail)); exact .inr rfl; (first | with_reducible assumption | (apply chk_c; exact hP; (first | skip))))
    | ((with_reducible apply v_if); exact rfl; (exact hP); all_goals (clear hP; intro hc hP)))
theorem term_ic (c : Trm) : ICp c.ok 54 [c.v] (fun v => v = iv (teS c)) := fun h => (term_V c _).2 (by
  (delta term_V; dsimp only [mkV])
  unfold teS
  (repeat' (first | with_reducible refine brn_nd (fun h => ?_) (fun h => ?_) | with_reducible refine brn_d (fun h => ?_) (fun h => ?_) | with_reducible refine brn_nn (fun h => ?_) (fun h => ?_) | with_reducible refine brn_nb (fun h => ?_) (fun h => ?_) | with_reducible refine Brn.mk (fun h => ?_) (fun h => ?_) | with_reducible refine Chk.mk ?_ ?_ | with_reducible refine Bth.mk ?_ ?_ | with_reducible refine Fct.mk (fun hf => ?_)))
  all_goals first | exact h | exact ⟨h, by omega, by omega⟩ | (simp [*]; done) | (trace_state; sorry))
noncomputable def ckS (r : Rul) : Int := if nmB r.nm = true then (if teS r.wh = 0 then (if r.vd = 1 ∨ r.vd = 2 then 0 else 1) else teS r.wh) else 4
noncomputable def check_V (r : Rul) (Q : SV → Prop) : Σ' P : Prop, (P → ICt 91 [.agg (List.map .d (Rul.row r))] Q) := by
  apply mkV; intro hP
  refine ic_wk (K 22) Try.func91 rfl rfl rfl rfl (fun w0 => ?_)
  repeat' (first
    | ((fail_if_success (have hTest : Hld False := hP)); (have hq := chk_c hP); (replace hP := chk_p hP))
    | (with_reducible (first | apply c_seq | apply c_rg | apply j_nil | apply q_n | apply g_tt | apply c_cf | apply c_ret | apply c_sk | apply q_r))
    | ((with_reducible apply j_v); exact rfl; exact rfl)
    | ((with_reducible apply j_h); exact rfl; exact rfl)
    | ((with_reducible apply j_g); exact rfl; exact rfl; (first | with_reducible assumption))
    | ((with_reducible apply g_ft); exact rfl)
    | ((with_reducible apply j_pk); exact rfl; exact rfl; (first | with_reducible assumption); exact rfl)
    | ((with_reducible apply c_c); exact rfl; (first | with_reducible exact Eq.refl false))
    | ((with_reducible apply r_g); exact rfl; (· repeat' (first | exact True.intro | refine And.intro ?_ ?_)); (exact hP.out))
    | ((with_reducible apply v_call (pu := false)); exact rfl; exact ⟨rfl, rfl⟩; (first | (apply (term_ic _); rotate_left 1) | (apply (named_ic _); rotate_left 1)); (focus ((repeat' (first | exact .nil _ | refine PsL.cons ?_ ?_ | refine PsSL.cons ?_ ?_ | exact .one (.d _ _) | refine .agg ?_ | exact .d _ _)) <;> fail)); exact .inr rfl; (apply chk_c; exact hP; (first | skip)))
    | ((with_reducible apply v_gs); exact rfl; exact rfl; (exact hP); all_goals (clear hP; intro hg hP))
    | ((with_reducible apply v_if); exact rfl; (exact hP); all_goals (clear hP; intro hc hP)))
theorem check_ic (r : Rul) : ICp (r.nm.size ≤ 1000000000 ∧ r.wh.ok) 91 [r.v] (fun v => v = iv (ckS r)) := fun h => (check_V r _).2 (by
  obtain ⟨h1, h2⟩ := h
  (delta check_V; dsimp only [mkV])
  unfold ckS
  (repeat' (first | with_reducible refine brn_nd (fun h => ?_) (fun h => ?_) | with_reducible refine brn_d (fun h => ?_) (fun h => ?_) | with_reducible refine brn_nn (fun h => ?_) (fun h => ?_) | with_reducible refine brn_nb (fun h => ?_) (fun h => ?_) | with_reducible refine Brn.mk (fun h => ?_) (fun h => ?_) | with_reducible refine Chk.mk ?_ ?_ | with_reducible refine Bth.mk ?_ ?_ | with_reducible refine Fct.mk (fun hf => ?_)))
  all_goals first | exact h1 | exact h2 | (simp [*]; done) | (trace_state; sorry))
open Classical in
noncomputable def pRul (S : Rul → Prop) (q : Rul → Bool) : List DV → Option Cell
  | [.agg [.str nm, .int .i64 op, .str tx, .int .i64 nu, .int .u64 pr, .list ks, .int .i64 vd]] => if S ⟨nm, ⟨op, tx, nu, pr, ks⟩, vd⟩ then some (.bool (q ⟨nm, ⟨op, tx, nu, pr, ks⟩, vd⟩)) else none
  | _ => none
theorem fnRul {f : Nat} {caps : List CV} {S : Rul → Prop} {q : Rul → Bool} (hf : Enters Try.prog f) (h : ∀ k : Rul, S k → ICt f (k.v :: caps.map .one) (fun v => v = bv (q k))) (hn : CV.ntL caps = true := by rfl) : FnC f caps (pRul S q) := by
  refine ⟨hf, hn, ?_⟩
  intro args r hr
  unfold pRul at hr
  split at hr
  · split at hr
    · rename_i hS
      cases hr; exact ⟨⟨_, rfl⟩, h _ hS⟩
    · cases hr
  · cases hr
noncomputable def idxR_V (l : List Rul) (S : Rul → Prop) (q : Rul → Bool) (Q : SV → Prop) : Σ' P : Prop, (P → ICt 94 [.one (.d (.list (l.map Rul.row))), .one (.fn (pRul S q))] Q) := by
  apply mkV; intro hP
  refine ic_wk (K 19) Try.func94 rfl rfl rfl rfl (fun w0 => ?_)
  repeat' (first
    | ((fail_if_success (have hTest : Hld False := hP)); (have hq := chk_c hP); (replace hP := chk_p hP))
    | (with_reducible (first | apply c_seq | apply c_rg | apply j_nil | apply q_n | apply c_bl | apply c_ex | apply c_ret | apply c_sk | apply q_r | apply q_e | apply b_r | apply b_e | apply b_n | apply n_n | apply n_r | apply n_e))
    | ((with_reducible apply c_l1); exact rfl; exact rfl)
    | ((with_reducible apply j_v); exact rfl; exact rfl)
    | ((with_reducible apply v_lenm); exact rfl; exact rfl; exact rfl; (exact hP); clear hP; intro hP)
    | ((with_reducible apply j_add); exact rfl; exact rfl; exact rfl; (with_reducible apply wr_i64; (apply chk_c; exact hP; (first | skip))))
    | ((with_reducible apply v_ia); exact rfl; exact rfl; exact rfl; exact rfl; (case inst => exact inferInstance); exact rfl; exact rfl; (apply chk_c; exact hP; (first | skip)))
    | ((with_reducible apply r_g); exact rfl; (· repeat' (first | exact True.intro | refine And.intro ?_ ?_)); (exact hP.out))
    | ((apply (j_callf (args := [.agg [.str _, .int .i64 _, .str _, .int .i64 _, .int .u64 _, .list _, .int .i64 _]]))); exact rfl; exact rfl; exact ⟨rfl, trivial⟩; (refine if_pos ?_; (apply chk_c; exact hP; (first | skip))); (focus (intro _ _ h; cases h; done)); exact (fun _ h => by cases h))
    | ((with_reducible refine v_loopat (c := (.seq (.region 2 _ _) _)) ?_); (apply (v_loop1 _ [0, 1, 7] [] (fun x1 => [(8, .one (.d (.int .i64 x1)))]) (fun x1 => []) [])); exact rfl; exact rfl; exact ⟨(by repeat' (first | exact .nil | refine .cons ?_ ?_ | exact SVle_pl rfl | refine .one ?_ | exact .fn _)), (by repeat' (first | exact .nil))⟩; (exact hP); clear hP; intro I μ x1 hP)
    | ((with_reducible apply (v_nxt1 (a1 := _))); (repeat' (first | exact .nil | refine .cons ?_ ?_ | exact SVle_pl rfl | refine .one ?_ | exact .fn _)); (repeat' (first | exact .nil | exact .nil _ | refine .cons ?_ ?_ | exact .u _ | exact SVle_pl rfl | refine .one ?_ | refine .agg ?_ | exact .d rfl | exact .ref rfl rfl | exact .sl rfl (by first | rfl | exact List.length_set.symm | exact (splT_len (by simp only [List.length_take, List.length_drop]; omega)).symm | omega | (rw [List.length_append, List.length_map]; show _ + 1 = _; omega) | simp) | exact .fn _ | exact .tape | exact .nils rfl | exact .nild | exact .nildm | exact .nil | exact .rp (by simp) | exact .clo (by simp) | exact .el rfl rfl rfl | exact .d (by first | rfl | (congr 1; omega) | (congr 1; assumption) | simp) | exact .virt rfl | exact .gone _ | refine .blk rfl ?_ | exact .arr rfl (by first | rfl | assumption | simp))); (exact hP))
    | ((with_reducible apply v_if); exact rfl; (exact hP); all_goals (clear hP; intro hc hP)))
theorem idxR_ic (l : List Rul) (S : Rul → Prop) (q : Rul → Bool) : ICp (∀ k ∈ l, S k) 94 [.one (.d (.list (l.map Rul.row))), .one (.fn (pRul S q))] (fun v => v = iv (idxOf q l)) := fun hS => (idxR_V l S q _).2 (by
  (delta idxR_V; dsimp only [mkV])
  (repeat' (first | with_reducible refine brn_nd (fun h => ?_) (fun h => ?_) | with_reducible refine brn_d (fun h => ?_) (fun h => ?_) | with_reducible refine brn_nn (fun h => ?_) (fun h => ?_) | with_reducible refine brn_nb (fun h => ?_) (fun h => ?_) | with_reducible refine Brn.mk (fun h => ?_) (fun h => ?_) | with_reducible refine Chk.mk ?_ ?_ | with_reducible refine Bth.mk ?_ ?_ | with_reducible refine Fct.mk (fun hf => ?_)))
  refine ⟨fun x1 => 0 ≤ x1 ∧ x1 ≤ l.length ∧ ∀ j (hj : j < l.length), (j : Int) < x1 → q l[j] = false, fun x1 => (l.length - x1).toNat, ⟨by omega, by omega, fun j hj h => by omega⟩, fun x1 ⟨h1, h2, h3⟩ => ?_⟩
  (repeat' (first | with_reducible refine brn_nd (fun h => ?_) (fun h => ?_) | with_reducible refine brn_d (fun h => ?_) (fun h => ?_) | with_reducible refine brn_nn (fun h => ?_) (fun h => ?_) | with_reducible refine brn_nb (fun h => ?_) (fun h => ?_) | with_reducible refine Brn.mk (fun h => ?_) (fun h => ?_) | with_reducible refine Chk.mk ?_ ?_ | with_reducible refine Bth.mk ?_ ?_ | with_reducible refine Fct.mk (fun hf => ?_)))
  · omega
  · exact hS _ (gt_mem h1 (by omega))
  · rename_i hlt
    have hx : x1.toNat < l.length := by omega
    have hq' : q (gt l x1) = true := h
    rw [gt_eq hx] at hq'
    have := idxOf_at hx hq' fun j hj => h3 j (by omega) (by omega)
    rw [this, Int.toNat_of_nonneg h1]
  · unfold InI; omega
  · rename_i hlt
    have hx : x1.toNat < l.length := by omega
    have hq' : q (gt l x1) = false := h
    rw [gt_eq hx] at hq'
    refine ⟨⟨by omega, by omega, fun j hj h => ?_⟩, by dsimp only; omega⟩
    by_cases e : (j : Int) < x1
    · exact h3 j hj e
    · have : j = x1.toNat := by omega
      subst this
      simpa using hq'
  · rw [idxOf_none fun x hx => by
      obtain ⟨j, hj, rfl⟩ := List.getElem_of_mem hx
      exact h3 j hj (by omega)])
noncomputable def hasR_V (l : List Rul) (S : Rul → Prop) (q : Rul → Bool) (Q : SV → Prop) : Σ' P : Prop, (P → ICt 92 [.one (.d (.list (l.map Rul.row))), .one (.fn (pRul S q))] Q) := by
  apply mkV; intro hP
  refine ic_wk (K 9) Try.func92 rfl rfl rfl rfl (fun w0 => ?_)
  repeat' (first
    | ((fail_if_success (have hTest : Hld False := hP)); (have hq := chk_c hP); (replace hP := chk_p hP))
    | (with_reducible (first | apply c_seq | apply c_rg | apply j_nil | apply q_n | apply c_ret))
    | ((with_reducible apply j_v); exact rfl; exact rfl)
    | ((with_reducible apply r_g); exact rfl; (· repeat' (first | exact True.intro | refine And.intro ?_ ?_)); (exact hP.out))
    | ((with_reducible apply v_call (pu := false)); exact rfl; exact ⟨rfl, rfl⟩; (apply (idxR_ic _ _ _); rotate_left 3); (focus ((repeat' (first | exact .nil _ | refine PsSL.cons ?_ ?_ | exact .one (.d _ _) | exact .one (.fn _ _))) <;> fail)); exact .inr rfl; (apply chk_c; exact hP; (first | skip))))
theorem hasR_ic (l : List Rul) (S : Rul → Prop) (q : Rul → Bool) : ICp (∀ k ∈ l, S k) 92 [.one (.d (.list (l.map Rul.row))), .one (.fn (pRul S q))] (fun v => v = bv (l.any q)) := fun hS => (hasR_V l S q _).2 (by
  (delta hasR_V; dsimp only [mkV])
  (repeat' (first | with_reducible refine brn_nd (fun h => ?_) (fun h => ?_) | with_reducible refine brn_d (fun h => ?_) (fun h => ?_) | with_reducible refine brn_nn (fun h => ?_) (fun h => ?_) | with_reducible refine brn_nb (fun h => ?_) (fun h => ?_) | with_reducible refine Brn.mk (fun h => ?_) (fun h => ?_) | with_reducible refine Chk.mk ?_ ?_ | with_reducible refine Bth.mk ?_ ?_ | with_reducible refine Fct.mk (fun hf => ?_)))
  · exact hS
  all_goals exact congrArg bv (idxOf_ge q l))
noncomputable def val1_V (o e : Rul) (Q : SV → Prop) : Σ' P : Prop, (P → ICt 93 [o.v, .one e.p] Q) := by
  apply mkV; intro hP
  refine ic_wk (K 9) Try.func93 rfl rfl rfl rfl (fun w0 => ?_)
  repeat' (first
    | (with_reducible (first | apply c_seq | apply c_rg | apply j_nil | apply q_n | apply c_ret))
    | ((with_reducible apply j_v); exact rfl; exact rfl)
    | ((with_reducible apply j_h); exact rfl; exact rfl)
    | ((with_reducible apply v_streq); exact rfl; kernel_rfl; exact rfl; exact rfl)
    | ((with_reducible apply r_g); exact rfl; (· repeat' (first | exact True.intro | refine And.intro ?_ ?_)); (exact hP.out)))
theorem val1_fn (e : Rul) : FnC 93 [e.p] (pRul (fun _ => True) fun o => decide (o.nm = e.nm)) := fnRul (enters_of Try.func93 rfl rfl) fun o _ => (val1_V o e _).2 (by
  (delta val1_V; dsimp only [mkV])
  (repeat' (first | with_reducible refine brn_nd (fun h => ?_) (fun h => ?_) | with_reducible refine brn_d (fun h => ?_) (fun h => ?_) | with_reducible refine brn_nn (fun h => ?_) (fun h => ?_) | with_reducible refine brn_nb (fun h => ?_) (fun h => ?_) | with_reducible refine Brn.mk (fun h => ?_) (fun h => ?_) | with_reducible refine Chk.mk ?_ ?_ | with_reducible refine Bth.mk ?_ ?_ | with_reducible refine Fct.mk (fun hf => ?_)))
  all_goals rfl)
def RulOk (l : List Rul) : Prop := l.length ≤ 40 ∧ (∀ r ∈ l, r.nm.size ≤ 1000000000 ∧ r.wh.ok ∧ ckS r = 0) ∧ (l.map Rul.nm).Nodup
noncomputable def valid_V (l : List Rul) (Q : SV → Prop) : Σ' P : Prop, (P → ICt 44 [.one (.d (.list (List.map Rul.row l)))] Q) := by
  apply mkV; intro hP
  refine ic_wk (K 36) Try.func44 rfl rfl rfl rfl (fun w0 => ?_)
  repeat' (first
    | ((fail_if_success (have hTest : Hld False := hP)); (have hq := chk_c hP); (replace hP := chk_p hP))
    | (with_reducible (first | apply c_seq | apply c_rg | apply j_nil | apply q_n | apply c_bl | apply c_ex | apply c_ret | apply c_sk | apply q_r | apply q_e | apply b_r | apply b_e | apply b_n | apply n_n | apply n_r | apply n_e))
    | ((with_reducible apply v_sh); exact rfl; exact rfl; exact rfl; exact rfl; exact (fun _ => rfl); (apply chk_c; exact hP; (first | skip)))
    | ((with_reducible apply c_l1); exact rfl; exact rfl)
    | ((with_reducible apply j_v); exact rfl; exact rfl)
    | ((with_reducible apply j_h); exact rfl; exact rfl)
    | ((with_reducible apply j_s); exact rfl)
    | ((with_reducible apply v_lenm); exact rfl; exact rfl; exact rfl; (exact hP); clear hP; intro hP)
    | ((with_reducible apply j_add); exact rfl; exact rfl; exact rfl; (with_reducible apply wr_i64; (apply chk_c; exact hP; (first | skip))))
    | ((with_reducible apply v_ia); exact rfl; exact rfl; exact rfl; exact rfl; (case inst => exact inferInstance); exact rfl; exact rfl; (apply chk_c; exact hP; (first | skip)))
    | ((with_reducible apply r_g); exact rfl; (· repeat' (first | exact True.intro | refine And.intro ?_ ?_)); (exact hP.out))
    | ((with_reducible apply v_call (pu := false)); exact rfl; exact ⟨rfl, rfl⟩; (first | (apply (check_ic _); rotate_left 1) | (apply (hasR_ic _ _ _); rotate_left 3)); (focus ((repeat' (first | (apply (PsS.cfn _ (val1_fn _)); (focus (repeat' (first | exact .nil _ | refine PsL.cons ?_ ?_ | refine PsSL.cons ?_ ?_ | exact .one (.d _ _) | exact .one (.nil _) | exact .one (.tape _) | exact .one (.fn _ _) | exact .agg (.same _ _) | refine .agg ?_ | exact .d _ _ | exact .one (.sl rfl rfl) | exact .sl rfl rfl | exact PsC.fn _ _ | refine .one (PsC.ref rfl ?_) | refine PsC.ref rfl ?_ | refine .one (PsC.rp ?_) | refine PsC.rp ?_ | refine .one (PsC.clo ?_) | refine PsC.clo ?_ | exact .same _ _)))) | exact .nil _ | refine PsL.cons ?_ ?_ | refine PsSL.cons ?_ ?_ | exact .one (.d _ _) | refine .agg ?_ | exact .d _ _ | refine PsC.ref rfl ?_)) <;> fail)); exact .inr rfl; (apply chk_c; exact hP; (first | skip)))
    | ((with_reducible refine v_loopat (c := (.seq (.region 4 _ _) _)) ?_); (apply (v_loop1 _ [0, 11, 12] [] (fun x1 => [(13, .one (.d (.int .i64 x1)))]) (fun x1 => []) [])); exact rfl; exact rfl; exact ⟨(by repeat' (first | exact .nil | refine .cons ?_ ?_ | exact SVle_pl rfl)), (by repeat' (first | exact .nil))⟩; (exact hP); clear hP; intro I μ x1 hP)
    | ((with_reducible apply (v_nxt1 (a1 := _))); (repeat' (first | exact .nil | refine .cons ?_ ?_ | exact SVle_pl rfl)); (repeat' (first | exact .nil | exact .nil _ | refine .cons ?_ ?_ | exact .u _ | exact SVle_pl rfl | refine .one ?_ | refine .agg ?_ | exact .d rfl | exact .ref rfl rfl | exact .sl rfl (by first | rfl | exact List.length_set.symm | exact (splT_len (by simp only [List.length_take, List.length_drop]; omega)).symm | omega | (rw [List.length_append, List.length_map]; show _ + 1 = _; omega) | simp) | exact .fn _ | exact .tape | exact .nils rfl | exact .nild | exact .nildm | exact .nil | exact .rp (by simp) | exact .clo (by simp) | exact .el rfl rfl rfl | exact .d (by first | rfl | (congr 1; omega) | (congr 1; assumption) | simp) | exact .virt rfl | exact .gone _ | refine .blk rfl ?_ | exact .arr rfl (by first | rfl | assumption | simp))); (exact hP))
    | ((with_reducible refine v_loopat (c := (.seq (.region 11 _ _) _)) ?_); (apply (v_loop1 _ [0, 23, 24] [] (fun x1 => [(25, .one (.d (.int .i64 x1)))]) (fun x1 => []) [])); exact rfl; exact rfl; exact ⟨(by repeat' (first | exact .nil | refine .cons ?_ ?_ | exact SVle_pl rfl)), (by repeat' (first | exact .nil))⟩; (exact hP); clear hP; intro I μ x1 hP)
    | ((with_reducible apply v_if); exact rfl; (exact hP); all_goals (clear hP; intro hc hP)))
theorem valid_ic (l : List Rul) : ICp (RulOk l) 44 [rlv l] (fun v => v = iv 0) := fun hl => (valid_V l _).2 (by
  obtain ⟨h1, h2, h3⟩ := hl
  (delta valid_V; dsimp only [mkV])
  (repeat' (first | with_reducible refine brn_nd (fun h => ?_) (fun h => ?_) | with_reducible refine brn_d (fun h => ?_) (fun h => ?_) | with_reducible refine brn_nn (fun h => ?_) (fun h => ?_) | with_reducible refine brn_nb (fun h => ?_) (fun h => ?_) | with_reducible refine Brn.mk (fun h => ?_) (fun h => ?_) | with_reducible refine Chk.mk ?_ ?_ | with_reducible refine Bth.mk ?_ ?_ | with_reducible refine Fct.mk (fun hf => ?_)))
  · exfalso; omega
  refine up1 (fun _ => True) (by omega) True.intro (fun I μ z h0 hz _ nx => ?_) (fun I μ _ => ?_)
  · have hr := h2 _ (gt_mem h0 hz)
    (repeat' (first | with_reducible refine brn_nd (fun h => ?_) (fun h => ?_) | with_reducible refine brn_d (fun h => ?_) (fun h => ?_) | with_reducible refine brn_nn (fun h => ?_) (fun h => ?_) | with_reducible refine brn_nb (fun h => ?_) (fun h => ?_) | with_reducible refine Brn.mk (fun h => ?_) (fun h => ?_) | with_reducible refine Chk.mk ?_ ?_ | with_reducible refine Bth.mk ?_ ?_ | with_reducible refine Fct.mk (fun hf => ?_)))
    · exact ⟨h0, hz⟩
    · exact ⟨hr.1, hr.2.1⟩
    · exact absurd hr.2.2 (by assumption)
    · unfold InI; omega
    · exact nx True.intro
  (repeat' (first | with_reducible refine brn_nd (fun h => ?_) (fun h => ?_) | with_reducible refine brn_d (fun h => ?_) (fun h => ?_) | with_reducible refine brn_nn (fun h => ?_) (fun h => ?_) | with_reducible refine brn_nb (fun h => ?_) (fun h => ?_) | with_reducible refine Brn.mk (fun h => ?_) (fun h => ?_) | with_reducible refine Chk.mk ?_ ?_ | with_reducible refine Bth.mk ?_ ?_ | with_reducible refine Fct.mk (fun hf => ?_)))
  refine up1 (fun _ => True) (by omega) True.intro (fun I μ z h0 hz _ nx => ?_) (fun I μ _ => ?_)
  · have hno : (List.take z.toNat l).any (fun o => decide (o.nm = (gt l z).nm)) = false := by
      refine List.any_eq_false.2 fun o ho => ?_
      obtain ⟨i, hi, rfl⟩ := List.getElem_of_mem ho
      rw [List.length_take] at hi
      rw [List.getElem_take, gt_eq (by omega)]
      intro e
      have e2 := of_decide_eq_true e
      exact List.pairwise_iff_getElem.1 h3 i z.toNat (by simp; omega) (by simp; omega) (by omega) (by simpa using e2)
    (repeat' (first | with_reducible refine brn_nd (fun h => ?_) (fun h => ?_) | with_reducible refine brn_d (fun h => ?_) (fun h => ?_) | with_reducible refine brn_nn (fun h => ?_) (fun h => ?_) | with_reducible refine brn_nb (fun h => ?_) (fun h => ?_) | with_reducible refine Brn.mk (fun h => ?_) (fun h => ?_) | with_reducible refine Chk.mk ?_ ?_ | with_reducible refine Bth.mk ?_ ?_ | with_reducible refine Fct.mk (fun hf => ?_)))
    · exact ⟨h0, hz⟩
    · omega
    · intro _ _; exact True.intro
    · rw [hno] at h; cases h
    · unfold InI; omega
    · exact nx True.intro
  · rfl)
end Go.Proofs.Ytcbppkfnfbdkhaa
