/- Rules: which conditions are right. -/
import Derived.Test.YtcbppkfnfbdkhaaJb
set_option linter.all false
set_option maxRecDepth 20000
set_option maxHeartbeats 4000000
namespace Go.Proofs.Ytcbppkfnfbdkhaa
open Go.RowKit Go.Shelf
def quC (c : Int) : Bool := decide (33 ≤ c) && decide (c ≤ 126) && !decide (c = 34)
def quB (s : ByteArray) : Bool := (bytI s).all quC && (decide (1 ≤ s.size) && decide (s.size ≤ 40))
noncomputable def quot_V (s : ByteArray) (Q : SV → Prop) : Σ' P : Prop, (P → ICt 149 [.one (.d (.str s))] Q) := by
  apply mkV; intro hP
  refine ic_wk (K 31) Try.func149 rfl rfl rfl rfl (fun w0 => ?_)
  repeat' (first
    | ((fail_if_success (have hTest : Hld False := hP)); (have hq := chk_c hP); (replace hP := chk_p hP))
    | (with_reducible (first | apply c_seq | apply c_rg | apply j_nil | apply q_n | apply g_tt | apply g_ff | apply c_ct | apply c_bl | apply c_ex | apply c_ret | apply c_sk | apply q_r | apply q_e | apply b_r | apply b_e | apply b_n | apply n_n | apply n_r | apply n_e))
    | ((with_reducible apply v_sby); exact rfl; kernel_rfl; exact rfl; kernel_rfl; exact rfl; exact rfl; exact rfl; exact rfl; (apply chk_c; exact hP; (first | skip)))
    | ((with_reducible apply v_lenstr); exact rfl; exact rfl; kernel_rfl)
    | ((with_reducible apply c_l1); exact rfl; exact rfl)
    | ((with_reducible apply j_v); exact rfl; exact rfl)
    | ((with_reducible apply j_g); exact rfl; exact rfl; (first | with_reducible assumption | with_reducible exact Eq.refl true))
    | ((with_reducible apply g_tf); exact rfl)
    | ((with_reducible apply g_ft); exact rfl)
    | ((with_reducible apply v_lenm); exact rfl; exact rfl; exact rfl; (exact hP); clear hP; intro hP)
    | ((with_reducible apply j_pk); exact rfl; exact rfl; (first | with_reducible assumption | with_reducible exact Eq.refl true); exact rfl)
    | ((with_reducible apply j_add); exact rfl; exact rfl; exact rfl; (with_reducible apply wr_i64; (apply chk_c; exact hP; (first | skip))))
    | ((with_reducible apply v_ia); exact rfl; exact rfl; exact rfl; exact rfl; (case inst => exact inferInstance); exact rfl; exact rfl; (apply chk_c; exact hP; (first | skip)))
    | ((with_reducible apply c_c); exact rfl; (first | with_reducible exact Eq.refl true))
    | ((with_reducible apply r_g); exact rfl; (· repeat' (first | exact True.intro | refine And.intro ?_ ?_)); (exact hP.out))
    | ((with_reducible refine v_loopat (c := (.seq (.region 2 _ _) _)) ?_); (apply (v_loop1 _ [0, 6, 7] [] (fun x1 => [(8, .one (.d (.int .i64 x1)))]) (fun x1 => []) [])); exact rfl; exact rfl; exact ⟨(by repeat' (first | exact .nil | refine .cons ?_ ?_ | exact SVle_pl rfl)), (by repeat' (first | exact .nil))⟩; (exact hP); clear hP; intro I μ x1 hP)
    | ((with_reducible apply (v_nxt1 (a1 := _))); (repeat' (first | exact .nil | refine .cons ?_ ?_ | exact SVle_pl rfl)); (repeat' (first | exact .nil | exact .nil _ | refine .cons ?_ ?_ | exact .u _ | exact SVle_pl rfl | refine .one ?_ | refine .agg ?_ | exact .d rfl | exact .ref rfl rfl | exact .sl rfl (by first | rfl | exact List.length_set.symm | exact (splT_len (by simp only [List.length_take, List.length_drop]; omega)).symm | omega | (rw [List.length_append, List.length_map]; show _ + 1 = _; omega) | simp) | exact .fn _ | exact .tape | exact .nils rfl | exact .nild | exact .nildm | exact .nil | exact .rp (by simp) | exact .clo (by simp) | exact .el rfl rfl rfl | exact .d (by first | rfl | (congr 1; omega) | (congr 1; assumption) | simp) | exact .virt rfl | exact .gone _ | refine .blk rfl ?_ | exact .arr rfl (by first | rfl | assumption | simp))); (exact hP))
    | ((with_reducible apply v_gs); exact rfl; exact rfl; (exact hP); all_goals (clear hP; intro hg hP))
    | ((with_reducible apply v_if); exact rfl; (exact hP); all_goals (clear hP; intro hc hP)))
theorem quot_ic (s : ByteArray) : ICp (s.size ≤ 1000000000) 149 [.one (.d (.str s))] (fun v => v = bv (quB s)) := fun hs => (quot_V s _).2 (by
  (delta quot_V; dsimp only [mkV])
  (repeat' (first | with_reducible refine brn_nd (fun h => ?_) (fun h => ?_) | with_reducible refine brn_d (fun h => ?_) (fun h => ?_) | with_reducible refine brn_nn (fun h => ?_) (fun h => ?_) | with_reducible refine brn_nb (fun h => ?_) (fun h => ?_) | with_reducible refine Brn.mk (fun h => ?_) (fun h => ?_) | with_reducible refine Chk.mk ?_ ?_ | with_reducible refine Bth.mk ?_ ?_ | with_reducible refine Fct.mk (fun hf => ?_)))
  · exact hs
  have no : ∀ z : Int, 0 ≤ z → z < (bytI s).length → quC (gt (bytI s) z) = false → SV.one (CV.d (Cell.bool false)) = bv (quB s) := fun z h0 h1 hz => by
    have : (bytI s).all quC = false := List.all_eq_false.2 ⟨_, gt_mem h0 h1, by simp [hz]⟩
    rw [quB, this]; rfl
  refine up1 (fun z => ∀ i : Nat, (i : Int) < z → quC (gt (bytI s) (i : Int)) = true) (by omega) (fun i hi => by omega) (fun I μ z h0 h1 hj nx => ?_) (fun I μ hj => ?_)
  · (repeat' (first | with_reducible refine brn_nd (fun h => ?_) (fun h => ?_) | with_reducible refine brn_d (fun h => ?_) (fun h => ?_) | with_reducible refine brn_nn (fun h => ?_) (fun h => ?_) | with_reducible refine brn_nb (fun h => ?_) (fun h => ?_) | with_reducible refine Brn.mk (fun h => ?_) (fun h => ?_) | with_reducible refine Chk.mk ?_ ?_ | with_reducible refine Bth.mk ?_ ?_ | with_reducible refine Fct.mk (fun hf => ?_)))
    · omega
    · exact no z h0 h1 (by unfold quC; simp; omega)
    · exact no z h0 h1 (by unfold quC; simp; omega)
    · exact no z h0 h1 (by unfold quC; simp; omega)
    · unfold InI; omega
    · refine nx fun i hi => ?_
      by_cases e : (i : Int) < z
      · exact hj i e
      · rw [show (i : Int) = z by omega]; unfold quC; simp; omega
  · have ha : (bytI s).all quC = true := List.all_eq_true.2 fun x hx => by
      obtain ⟨i, hi, rfl⟩ := mem_gt hx
      exact hj i (by omega)
    (repeat' (first | with_reducible refine brn_nd (fun h => ?_) (fun h => ?_) | with_reducible refine brn_d (fun h => ?_) (fun h => ?_) | with_reducible refine brn_nn (fun h => ?_) (fun h => ?_) | with_reducible refine brn_nb (fun h => ?_) (fun h => ?_) | with_reducible refine Brn.mk (fun h => ?_) (fun h => ?_) | with_reducible refine Chk.mk ?_ ?_ | with_reducible refine Bth.mk ?_ ?_ | with_reducible refine Fct.mk (fun hf => ?_)))
    · rw [quB, ha, show decide (1 ≤ s.size) = true by simp; omega, Bool.true_and, Bool.true_and]
      refine congrArg bv ?_
      rw [decide_eq_decide]; omega
    · rw [quB, ha, show decide (1 ≤ s.size) = false from decide_eq_false (by omega)]; rfl)
open Classical in
noncomputable def pTrm (S : Trm → Prop) (q : Trm → Bool) : List DV → Option Cell
  | [.agg [.int .i64 op, .str tx, .int .i64 nu, .int .u64 pr, .list ks]] => if S ⟨op, tx, nu, pr, ks⟩ then some (.bool (q ⟨op, tx, nu, pr, ks⟩)) else none
  | _ => none
theorem fnTrm {f : Nat} {caps : List CV} {S : Trm → Prop} {q : Trm → Bool} (hf : Enters Try.prog f) (h : ∀ k : Trm, S k → ICt f (k.v :: caps.map .one) (fun v => v = bv (q k))) (hn : CV.ntL caps = true := by rfl) : FnC f caps (pTrm S q) := by
  refine ⟨hf, hn, ?_⟩
  intro args r hr
  unfold pTrm at hr
  split at hr
  · split at hr
    · rename_i hS
      cases hr; exact ⟨⟨_, rfl⟩, h _ hS⟩
    · cases hr
  · cases hr
noncomputable def idxT_V (l : List Trm) (S : Trm → Prop) (q : Trm → Bool) (Q : SV → Prop) : Σ' P : Prop, (P → ICt 153 [.one (.d (.list (l.map Trm.row))), .one (.fn (pTrm S q))] Q) := by
  apply mkV; intro hP
  refine ic_wk (K 19) Try.func153 rfl rfl rfl rfl (fun w0 => ?_)
  repeat' (first
    | ((fail_if_success (have hTest : Hld False := hP)); (have hq := chk_c hP); (replace hP := chk_p hP))
    | (with_reducible (first | apply c_seq | apply c_rg | apply j_nil | apply q_n | apply c_bl | apply c_ex | apply c_ret | apply c_sk | apply q_r | apply q_e | apply b_r | apply b_e | apply b_n | apply n_n | apply n_r | apply n_e))
    | ((with_reducible apply c_l1); exact rfl; exact rfl)
    | ((with_reducible apply j_v); exact rfl; exact rfl)
    | ((with_reducible apply v_lenm); exact rfl; exact rfl; exact rfl; (exact hP); clear hP; intro hP)
    | ((with_reducible apply j_add); exact rfl; exact rfl; exact rfl; (with_reducible apply wr_i64; (apply chk_c; exact hP; (first | skip))))
    | ((with_reducible apply v_ia); exact rfl; exact rfl; exact rfl; exact rfl; (case inst => exact inferInstance); exact rfl; exact rfl; (apply chk_c; exact hP; (first | skip)))
    | ((with_reducible apply r_g); exact rfl; (· repeat' (first | exact True.intro | refine And.intro ?_ ?_)); (exact hP.out))
    | ((apply (j_callf (args := [.agg [.int .i64 _, .str _, .int .i64 _, .int .u64 _, .list _]]))); exact rfl; exact rfl; exact ⟨rfl, trivial⟩; (refine if_pos ?_; (apply chk_c; exact hP; (first | skip))); (focus (intro _ _ h; cases h; done)); exact (fun _ h => by cases h))
    | ((with_reducible refine v_loopat (c := (.seq (.region 2 _ _) _)) ?_); (apply (v_loop1 _ [0, 1, 7] [] (fun x1 => [(8, .one (.d (.int .i64 x1)))]) (fun x1 => []) [])); exact rfl; exact rfl; exact ⟨(by repeat' (first | exact .nil | refine .cons ?_ ?_ | exact SVle_pl rfl | refine .one ?_ | exact .fn _)), (by repeat' (first | exact .nil))⟩; (exact hP); clear hP; intro I μ x1 hP)
    | ((with_reducible apply (v_nxt1 (a1 := _))); (repeat' (first | exact .nil | refine .cons ?_ ?_ | exact SVle_pl rfl | refine .one ?_ | exact .fn _)); (repeat' (first | exact .nil | exact .nil _ | refine .cons ?_ ?_ | exact .u _ | exact SVle_pl rfl | refine .one ?_ | refine .agg ?_ | exact .d rfl | exact .ref rfl rfl | exact .sl rfl (by first | rfl | exact List.length_set.symm | exact (splT_len (by simp only [List.length_take, List.length_drop]; omega)).symm | omega | (rw [List.length_append, List.length_map]; show _ + 1 = _; omega) | simp) | exact .fn _ | exact .tape | exact .nils rfl | exact .nild | exact .nildm | exact .nil | exact .rp (by simp) | exact .clo (by simp) | exact .el rfl rfl rfl | exact .d (by first | rfl | (congr 1; omega) | (congr 1; assumption) | simp) | exact .virt rfl | exact .gone _ | refine .blk rfl ?_ | exact .arr rfl (by first | rfl | assumption | simp))); (exact hP))
    | ((with_reducible apply v_if); exact rfl; (exact hP); all_goals (clear hP; intro hc hP)))
theorem idxT_ic (l : List Trm) (S : Trm → Prop) (q : Trm → Bool) : ICp (∀ k ∈ l, S k) 153 [.one (.d (.list (l.map Trm.row))), .one (.fn (pTrm S q))] (fun v => v = iv (idxOf q l)) := fun hS => (idxT_V l S q _).2 (by
  (delta idxT_V; dsimp only [mkV])
  (repeat' (first | with_reducible refine brn_nd (fun h => ?_) (fun h => ?_) | with_reducible refine brn_d (fun h => ?_) (fun h => ?_) | with_reducible refine brn_nn (fun h => ?_) (fun h => ?_) | with_reducible refine brn_nb (fun h => ?_) (fun h => ?_) | with_reducible refine Brn.mk (fun h => ?_) (fun h => ?_) | with_reducible refine Chk.mk ?_ ?_ | with_reducible refine Bth.mk ?_ ?_ | with_reducible refine Fct.mk (fun hf => ?_)))
  refine ⟨fun x1 => 0 ≤ x1 ∧ x1 ≤ l.length ∧ ∀ j (hj : j < l.length), (j : Int) < x1 → q l[j] = false, fun x1 => (l.length - x1).toNat, ⟨by omega, by omega, fun j hj h => by omega⟩, fun x1 ⟨h1, h2, h3⟩ => ?_⟩
  (repeat' (first | with_reducible refine brn_nd (fun h => ?_) (fun h => ?_) | with_reducible refine brn_d (fun h => ?_) (fun h => ?_) | with_reducible refine brn_nn (fun h => ?_) (fun h => ?_) | with_reducible refine brn_nb (fun h => ?_) (fun h => ?_) | with_reducible refine Brn.mk (fun h => ?_) (fun h => ?_) | with_reducible refine Chk.mk ?_ ?_ | with_reducible refine Bth.mk ?_ ?_ | with_reducible refine Fct.mk (fun hf => ?_)))
  · omega
  · exact hS _ (gt_mem h1 (by omega))
  · rename_i hlt
    have hx : x1.toNat < l.length := by omega
    have hq' : q (gt l x1) = true := h
    rw [gt_eq hx] at hq'
    have := idxOf_at hx hq' fun j hj => h3 j (by omega) (by omega)
    rw [this, Int.toNat_of_nonneg h1]
  · unfold InI; omega
  · rename_i hlt
    have hx : x1.toNat < l.length := by omega
    have hq' : q (gt l x1) = false := h
    rw [gt_eq hx] at hq'
    refine ⟨⟨by omega, by omega, fun j hj h => ?_⟩, by dsimp only; omega⟩
    by_cases e : (j : Int) < x1
    · exact h3 j hj e
    · have : j = x1.toNat := by omega
      subst this
      simpa using hq'
  · rw [idxOf_none fun x hx => by
      obtain ⟨j, hj, rfl⟩ := List.getElem_of_mem hx
      exact h3 j hj (by omega)])
noncomputable def hasT_V (l : List Trm) (S : Trm → Prop) (q : Trm → Bool) (Q : SV → Prop) : Σ' P : Prop, (P → ICt 112 [.one (.d (.list (l.map Trm.row))), .one (.fn (pTrm S q))] Q) := by
  apply mkV; intro hP
  refine ic_wk (K 9) Try.func112 rfl rfl rfl rfl (fun w0 => ?_)
  repeat' (first
    | ((fail_if_success (have hTest : Hld False := hP)); (have hq := chk_c hP); (replace hP := chk_p hP))
    | (with_reducible (first | apply c_seq | apply c_rg | apply j_nil | apply q_n | apply c_ret))
    | ((with_reducible apply j_v); exact rfl; exact rfl)
    | ((with_reducible apply r_g); exact rfl; (· repeat' (first | exact True.intro | refine And.intro ?_ ?_)); (exact hP.out))
    | ((with_reducible apply v_call (pu := false)); exact rfl; exact ⟨rfl, rfl⟩; (apply (idxT_ic _ _ _); rotate_left 3); (focus ((repeat' (first | exact .nil _ | refine PsSL.cons ?_ ?_ | exact .one (.d _ _) | exact .one (.fn _ _))) <;> fail)); exact .inr rfl; (apply chk_c; exact hP; (first | skip))))
theorem hasT_ic (l : List Trm) (S : Trm → Prop) (q : Trm → Bool) : ICp (∀ k ∈ l, S k) 112 [.one (.d (.list (l.map Trm.row))), .one (.fn (pTrm S q))] (fun v => v = bv (l.any q)) := fun hS => (hasT_V l S q _).2 (by
  (delta hasT_V; dsimp only [mkV])
  (repeat' (first | with_reducible refine brn_nd (fun h => ?_) (fun h => ?_) | with_reducible refine brn_d (fun h => ?_) (fun h => ?_) | with_reducible refine brn_nn (fun h => ?_) (fun h => ?_) | with_reducible refine brn_nb (fun h => ?_) (fun h => ?_) | with_reducible refine Brn.mk (fun h => ?_) (fun h => ?_) | with_reducible refine Chk.mk ?_ ?_ | with_reducible refine Bth.mk ?_ ?_ | with_reducible refine Fct.mk (fun hf => ?_)))
  · exact hS
  all_goals exact congrArg bv (idxOf_ge q l))
def okF (op : Int) (tx : ByteArray) (nu pr : Int) (n : Nat) : Bool :=
  if op = 1 ∨ op = 2 ∨ op = 3 then quB tx && decide (nu = 0 ∧ pr = 0 ∧ n = 0)
  else if op = 4 ∨ op = 5 ∨ op = 6 ∨ op = 8 then decide (tx = ⟨#[]⟩ ∧ 0 ≤ nu ∧ nu ≤ 1099511627776 ∧ pr = 0 ∧ n = 0)
  else if op = 7 then decide (tx = ⟨#[]⟩ ∧ nu = 0 ∧ n = 0)
  else if op = 9 ∨ op = 10 ∨ op = 11 then decide (tx = ⟨#[]⟩ ∧ nu = 0 ∧ pr = 0 ∧ (op = 9 ∧ n = 1 ∨ op ≠ 9 ∧ 2 ≤ n))
  else false
def Tre.right : Tre → Bool := Tre.fold fun op tx nu pr l => okF op tx nu pr l.length && l.all id
theorem Tre.right_mk (op : Int) (tx : ByteArray) (nu pr : Int) (ks : List Tre) : (Tre.mk op tx nu pr ks).right = (okF op tx nu pr ks.length && ks.all Tre.right) := by
  show (Tre.mk op tx nu pr ks).fold _ = _
  rw [Tre.fold_mk, List.length_map, List.all_map]; rfl
noncomputable def rtS (c : Trm) : Bool := c.tre.right
theorem rtS_mk {op : Int} {tx : ByteArray} {nu pr : Int} {ts : List Trm} (h : ∀ k ∈ ts, k.ok) : rtS ⟨op, tx, nu, pr, ts.map Trm.row⟩ = (okF op tx nu pr ts.length && !ts.any (fun k => !rtS k)) := by
  unfold rtS
  rw [Trm.tre_mk h, Tre.right_mk, List.length_map, List.all_map, List.not_any_eq_all_not]
  simp
  rfl
noncomputable def right1_V (k : Trm) (ih : ∀ k' : Trm, ICp (k' = k) 108 [k'.v] (fun v => v = bv (rtS k'))) (Q : SV → Prop) : Σ' P : Prop, (P → ICt 150 [k.v] Q) := by
  apply mkV; intro hP
  refine ic_wk (K 6) Try.func150 rfl rfl rfl rfl (fun w0 => ?_)
  repeat' (first
    | ((fail_if_success (have hTest : Hld False := hP)); (have hq := chk_c hP); (replace hP := chk_p hP))
    | (with_reducible (first | apply c_seq | apply c_rg | apply j_nil | apply q_n | apply c_ret))
    | ((with_reducible apply j_v); exact rfl; exact rfl)
    | ((with_reducible apply j_h); exact rfl; exact rfl)
    | ((with_reducible apply r_g); exact rfl; (· repeat' (first | exact True.intro | refine And.intro ?_ ?_)); (exact hP.out))
    | ((with_reducible apply v_call (pu := false)); exact rfl; exact ⟨rfl, rfl⟩; (apply (ih _); rotate_left 1); (focus ((repeat' (first | exact .nil _ | refine PsL.cons ?_ ?_ | refine PsSL.cons ?_ ?_ | refine .agg ?_ | exact .d _ _)) <;> fail)); exact .inr rfl; (apply chk_c; exact hP; (first | skip))))
theorem right1_fn (ts : List Trm) (ih : ∀ k ∈ ts, ICt 108 [k.v] (fun v => v = bv (rtS k))) : FnC 150 [] (pTrm (· ∈ ts) fun k => !rtS k) := fnTrm (enters_of Try.func150 rfl rfl) fun k hk => (right1_V k (fun k' e => by subst e; exact ih k' hk) _).2 (by
  (delta right1_V; dsimp only [mkV])
  (repeat' (first | with_reducible refine brn_nd (fun h => ?_) (fun h => ?_) | with_reducible refine brn_d (fun h => ?_) (fun h => ?_) | with_reducible refine brn_nn (fun h => ?_) (fun h => ?_) | with_reducible refine brn_nb (fun h => ?_) (fun h => ?_) | with_reducible refine Brn.mk (fun h => ?_) (fun h => ?_) | with_reducible refine Chk.mk ?_ ?_ | with_reducible refine Bth.mk ?_ ?_ | with_reducible refine Fct.mk (fun hf => ?_)))
  all_goals rfl)
noncomputable def right_V (op : Int) (tx : ByteArray) (nu pr : Int) (ts : List Trm) (ih : FnC 150 [] (pTrm (· ∈ ts) fun k => !rtS k)) (Q : SV → Prop) : Σ' P : Prop, (P → ICt 108 [.agg [.d (.int .i64 op), .d (.str tx), .d (.int .i64 nu), .d (.int .u64 pr), .d (.list (ts.map Trm.row))]] Q) := by
  apply mkV; intro hP
  refine ic_wk (K 120) Try.func108 rfl rfl rfl rfl (fun w0 => ?_)
  repeat' (first
    | ((fail_if_success (have hTest : Hld False := hP)); (have hq := chk_c hP); (replace hP := chk_p hP))
    | (with_reducible (first | apply c_seq | apply c_rg | apply j_nil | apply q_n | apply g_tt | apply g_ff | apply c_ct | apply c_bl | apply c_ret | apply c_sk | apply b_n))
    | ((with_reducible apply j_v); exact rfl; exact rfl)
    | ((with_reducible apply j_h); exact rfl; exact rfl)
    | ((with_reducible apply j_g); exact rfl; exact rfl; (first | with_reducible assumption | with_reducible exact Eq.refl true | with_reducible exact Eq.refl false | (with_reducible refine not_t ?_; with_reducible assumption) | (with_reducible refine not_f ?_; with_reducible assumption)))
    | ((with_reducible apply g_tf); exact rfl)
    | ((with_reducible apply g_ft); exact rfl)
    | ((with_reducible apply j_gz); exact rfl; exact rfl; exact rfl)
    | ((with_reducible apply v_lenm); exact rfl; exact rfl; exact rfl; (exact hP); clear hP; intro hP)
    | ((with_reducible apply j_pk); exact rfl; exact rfl; (first | with_reducible assumption | with_reducible exact Eq.refl true | with_reducible exact Eq.refl false | (with_reducible refine not_t ?_; with_reducible assumption) | (with_reducible refine not_f ?_; with_reducible assumption)); exact rfl)
    | ((with_reducible apply c_c); exact rfl; (first | with_reducible assumption))
    | ((with_reducible apply v_streq); exact rfl; kernel_rfl; exact rfl; exact rfl)
    | ((with_reducible apply r_g); exact rfl; (· repeat' (first | exact True.intro | refine And.intro ?_ ?_)); (exact hP.out))
    | ((with_reducible apply v_call (pu := false)); exact rfl; exact ⟨rfl, rfl⟩; (first | (apply (hasT_ic _ _ _); rotate_left 3) | (apply (quot_ic _); rotate_left 1)); (focus ((repeat' (first | (apply (PsS.cfn _ (ih)); (focus (repeat' (first | exact .nil _)))) | exact .nil _ | refine PsSL.cons ?_ ?_ | exact .one (.d _ _))) <;> fail)); exact .inr rfl; (apply chk_c; exact hP; (first | skip)))
    | ((with_reducible apply v_gs); exact rfl; exact rfl; (exact hP); all_goals (clear hP; intro hg hP))
    | ((with_reducible apply v_if); exact rfl; (exact hP); all_goals (clear hP; intro hc hP)))
theorem right_x : ∀ c : Trm, c.ok → ICt 108 [c.v] (fun v => v = bv (rtS c)) := Trm.ind fun op tx nu pr ts htx hok ih => (right_V op tx nu pr ts (right1_fn ts ih) _).2 (by
  rw [rtS_mk hok]
  (delta right_V; dsimp only [mkV])
  generalize (!ts.any fun k => !rtS k) = A
  have hm : (∀ k : Trm, k ∈ ts → k ∈ ts) = True := by simp
  rw [hm]
  generalize ts.length = n
  (repeat' (first | with_reducible refine brn_nd (fun h => ?_) (fun h => ?_) | with_reducible refine brn_d (fun h => ?_) (fun h => ?_) | with_reducible refine brn_nn (fun h => ?_) (fun h => ?_) | with_reducible refine brn_nb (fun h => ?_) (fun h => ?_) | with_reducible refine Brn.mk (fun h => ?_) (fun h => ?_) | with_reducible refine Chk.mk ?_ ?_ | with_reducible refine Bth.mk ?_ ?_ | with_reducible refine Fct.mk (fun hf => ?_)))
  all_goals (try exact htx)
  all_goals (try exact True.intro)
  all_goals refine bl ?_
  all_goals first | (unfold okF; simp_all; done) | (unfold okF; simp_all; omega) | trace_state)
theorem right_ic (c : Trm) : ICp c.ok 108 [c.v] (fun v => v = bv (rtS c)) := fun h => right_x c h
end Go.Proofs.Ytcbppkfnfbdkhaa
