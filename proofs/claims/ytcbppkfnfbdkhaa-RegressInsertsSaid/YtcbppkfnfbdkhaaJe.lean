/- Rules: what holds. -/
import Derived.Test.YtcbppkfnfbdkhaaJd
set_option linter.all false
set_option maxRecDepth 20000
set_option maxHeartbeats 4000000
namespace Go.Proofs.Ytcbppkfnfbdkhaa
open Go.RowKit Go.Shelf
abbrev knv (l : List Knd) : SV := .one (.d (.list (l.map Knd.row)))
def preB (s p : ByteArray) : Bool := decide (p.size ≤ s.size) && decide (s.extract 0 p.size = p)
def sufB (s p : ByteArray) : Bool := decide (p.size ≤ s.size) && decide (s.extract (s.size - p.size) s.size = p)
noncomputable def pre0_V (s : ByteArray) (p : ByteArray) (Q : SV → Prop) : Σ' P : Prop, (P → ICt 151 [.one (.d (.str s)), .one (.d (.str p))] Q) := by
  apply mkV; intro hP
  refine ic_wk (K 18) Try.func151 rfl rfl rfl rfl (fun w0 => ?_)
  repeat' (first
    | ((fail_if_success (have hTest : Hld False := hP)); (have hq := chk_c hP); (replace hP := chk_p hP))
    | (with_reducible (first | apply c_seq | apply c_rg | apply j_nil | apply q_n | apply g_tt | apply c_ret))
    | ((with_reducible apply v_strh); exact rfl; kernel_rfl; exact rfl; exact rfl; (apply chk_c; exact hP; (first | skip)))
    | ((with_reducible apply v_lenstr); exact rfl; exact rfl; kernel_rfl)
    | ((with_reducible apply j_v); exact rfl; exact rfl)
    | ((with_reducible apply j_g); exact rfl; exact rfl; (first | with_reducible assumption))
    | ((with_reducible apply g_ft); exact rfl)
    | ((with_reducible apply j_pk); exact rfl; exact rfl; (first | with_reducible assumption); exact rfl)
    | ((with_reducible apply v_streq); exact rfl; kernel_rfl; exact rfl; exact rfl)
    | ((with_reducible apply r_g); exact rfl; (· repeat' (first | exact True.intro | refine And.intro ?_ ?_)); (exact hP.out))
    | ((with_reducible apply v_gs); exact rfl; exact rfl; (exact hP); all_goals (clear hP; intro hg hP)))
theorem pre0_ic (s p : ByteArray) : ICt 151 [.one (.d (.str s)), .one (.d (.str p))] (fun v => v = bv (preB s p)) := (pre0_V s p _).2 (by
  (delta pre0_V; dsimp only [mkV])
  unfold preB
  (repeat' (first | with_reducible refine brn_nd (fun h => ?_) (fun h => ?_) | with_reducible refine brn_d (fun h => ?_) (fun h => ?_) | with_reducible refine brn_nn (fun h => ?_) (fun h => ?_) | with_reducible refine brn_nb (fun h => ?_) (fun h => ?_) | with_reducible refine Brn.mk (fun h => ?_) (fun h => ?_) | with_reducible refine Chk.mk ?_ ?_ | with_reducible refine Bth.mk ?_ ?_ | with_reducible refine Fct.mk (fun hf => ?_)))
  all_goals first | omega | (unfold InI; omega) | (refine bl ?_; simp [*]; done) | (refine bl ?_; simp [*]; omega) | trace_state)
noncomputable def pre_V (s : ByteArray) (p : ByteArray) (Q : SV → Prop) : Σ' P : Prop, (P → ICt 110 [.one (.d (.str s)), .one (.d (.str p))] Q) := by
  apply mkV; intro hP
  refine ic_wk (K 8) Try.func110 rfl rfl rfl rfl (fun w0 => ?_)
  repeat' (first
    | (with_reducible (first | apply c_seq | apply c_rg | apply j_nil | apply q_n | apply c_ret))
    | ((with_reducible apply j_v); exact rfl; exact rfl)
    | ((with_reducible apply r_g); exact rfl; (· repeat' (first | exact True.intro | refine And.intro ?_ ?_)); (exact hP.out))
    | ((with_reducible apply j_call (pu := false)); exact rfl; (apply (pre0_ic _ _); rotate_left 2); (focus ((repeat' (first | exact .nil _ | refine PsSL.cons ?_ ?_ | exact .one (.d _ _))) <;> fail)); exact .inr rfl))
theorem pre_ic (s p : ByteArray) : ICt 110 [.one (.d (.str s)), .one (.d (.str p))] (fun v => v = bv (preB s p)) := (pre_V s p _).2 (by
  (delta pre_V; dsimp only [mkV])
  all_goals rfl)
noncomputable def suf0_V (s : ByteArray) (p : ByteArray) (Q : SV → Prop) : Σ' P : Prop, (P → ICt 152 [.one (.d (.str s)), .one (.d (.str p))] Q) := by
  apply mkV; intro hP
  refine ic_wk (K 21) Try.func152 rfl rfl rfl rfl (fun w0 => ?_)
  repeat' (first
    | ((fail_if_success (have hTest : Hld False := hP)); (have hq := chk_c hP); (replace hP := chk_p hP))
    | (with_reducible (first | apply c_seq | apply c_rg | apply j_nil | apply q_n | apply g_tt | apply c_ret))
    | ((with_reducible apply v_strl); exact rfl; kernel_rfl; exact rfl; exact rfl; (apply chk_c; exact hP; (first | skip)))
    | ((with_reducible apply v_lenstr); exact rfl; exact rfl; kernel_rfl)
    | ((with_reducible apply j_v); exact rfl; exact rfl)
    | ((with_reducible apply j_g); exact rfl; exact rfl; (first | with_reducible assumption))
    | ((with_reducible apply g_ft); exact rfl)
    | ((with_reducible apply j_pk); exact rfl; exact rfl; (first | with_reducible assumption); exact rfl)
    | ((with_reducible apply j_sub); exact rfl; exact rfl; exact rfl; (with_reducible apply wr_i64; (apply chk_c; exact hP; (first | skip))))
    | ((with_reducible apply v_streq); exact rfl; kernel_rfl; exact rfl; exact rfl)
    | ((with_reducible apply r_g); exact rfl; (· repeat' (first | exact True.intro | refine And.intro ?_ ?_)); (exact hP.out))
    | ((with_reducible apply v_gs); exact rfl; exact rfl; (exact hP); all_goals (clear hP; intro hg hP)))
theorem suf0_ic (s p : ByteArray) : ICp (s.size ≤ 1000000000) 152 [.one (.d (.str s)), .one (.d (.str p))] (fun v => v = bv (sufB s p)) := fun hz => (suf0_V s p _).2 (by
  (delta suf0_V; dsimp only [mkV])
  unfold sufB
  (repeat' (first | with_reducible refine brn_nd (fun h => ?_) (fun h => ?_) | with_reducible refine brn_d (fun h => ?_) (fun h => ?_) | with_reducible refine brn_nn (fun h => ?_) (fun h => ?_) | with_reducible refine brn_nb (fun h => ?_) (fun h => ?_) | with_reducible refine Brn.mk (fun h => ?_) (fun h => ?_) | with_reducible refine Chk.mk ?_ ?_ | with_reducible refine Bth.mk ?_ ?_ | with_reducible refine Fct.mk (fun hf => ?_)))
  all_goals first | omega | (unfold InI; omega) | (refine bl ?_; simp [*]; done) | (refine bl ?_; simp [*]; omega) | trace_state)
noncomputable def suf_V (s : ByteArray) (p : ByteArray) (Q : SV → Prop) : Σ' P : Prop, (P → ICt 111 [.one (.d (.str s)), .one (.d (.str p))] Q) := by
  apply mkV; intro hP
  refine ic_wk (K 8) Try.func111 rfl rfl rfl rfl (fun w0 => ?_)
  repeat' (first
    | ((fail_if_success (have hTest : Hld False := hP)); (have hq := chk_c hP); (replace hP := chk_p hP))
    | (with_reducible (first | apply c_seq | apply c_rg | apply j_nil | apply q_n | apply c_ret))
    | ((with_reducible apply j_v); exact rfl; exact rfl)
    | ((with_reducible apply r_g); exact rfl; (· repeat' (first | exact True.intro | refine And.intro ?_ ?_)); (exact hP.out))
    | ((with_reducible apply v_call (pu := false)); exact rfl; exact ⟨rfl, rfl⟩; (apply (suf0_ic _ _); rotate_left 2); (focus ((repeat' (first | exact .nil _ | refine PsSL.cons ?_ ?_ | exact .one (.d _ _))) <;> fail)); exact .inr rfl; (apply chk_c; exact hP; (first | skip))))
theorem suf_ic (s p : ByteArray) : ICp (s.size ≤ 1000000000) 111 [.one (.d (.str s)), .one (.d (.str p))] (fun v => v = bv (sufB s p)) := fun hz => (suf_V s p _).2 (by
  (delta suf_V; dsimp only [mkV])
  (repeat' (first | with_reducible refine brn_nd (fun h => ?_) (fun h => ?_) | with_reducible refine brn_d (fun h => ?_) (fun h => ?_) | with_reducible refine brn_nn (fun h => ?_) (fun h => ?_) | with_reducible refine brn_nb (fun h => ?_) (fun h => ?_) | with_reducible refine Brn.mk (fun h => ?_) (fun h => ?_) | with_reducible refine Chk.mk ?_ ?_ | with_reducible refine Bth.mk ?_ ?_ | with_reducible refine Fct.mk (fun hf => ?_)))
  · exact hz
  all_goals rfl)
noncomputable def neg_V (k : Trm) (S : Trm → Prop) (q : Trm → Bool) (Q : SV → Prop) : Σ' P : Prop, (P → ICt 113 [k.v, .one (.rp [.fn (pTrm S q)])] Q) := by
  apply mkV; intro hP
  refine ic_wk (K 8) Try.func113 rfl rfl rfl rfl (fun w0 => ?_)
  repeat' (first
    | ((fail_if_success (have hTest : Hld False := hP)); (have hq := chk_c hP); (replace hP := chk_p hP))
    | (with_reducible (first | apply c_seq | apply c_rg | apply j_nil | apply q_n | apply c_ret))
    | ((with_reducible apply j_v); exact rfl; exact rfl)
    | ((with_reducible apply j_h); exact rfl; exact rfl)
    | ((with_reducible apply r_g); exact rfl; (· repeat' (first | exact True.intro | refine And.intro ?_ ?_)); (exact hP.out))
    | ((apply (j_callf (args := [.agg [.int .i64 _, .str _, .int .i64 _, .int .u64 _, .list _]]))); exact rfl; exact rfl; exact ⟨rfl, trivial⟩; (refine if_pos ?_; (apply chk_c; exact hP; (first | skip))); (focus (intro _ _ h; cases h; done)); exact (fun _ h => by cases h)))
theorem neg_fn (S : Trm → Prop) (q : Trm → Bool) : FnC 113 [.rp [.fn (pTrm S q)]] (pTrm S fun k => !q k) := fnTrm (enters_of Try.func113 rfl rfl) fun k hk => (neg_V k S q _).2 (by
  (delta neg_V; dsimp only [mkV])
  (repeat' (first | with_reducible refine brn_nd (fun h => ?_) (fun h => ?_) | with_reducible refine brn_d (fun h => ?_) (fun h => ?_) | with_reducible refine brn_nn (fun h => ?_) (fun h => ?_) | with_reducible refine brn_nb (fun h => ?_) (fun h => ?_) | with_reducible refine Brn.mk (fun h => ?_) (fun h => ?_) | with_reducible refine Chk.mk ?_ ?_ | with_reducible refine Bth.mk ?_ ?_ | with_reducible refine Fct.mk (fun hf => ?_)))
  · exact hk
  all_goals rfl)
noncomputable def hoF (kinds : List Knd) (f : Fnd) (s : Spt) (op : Int) (tx : ByteArray) (nu pr : Int) (l : List Bool) : Bool :=
  if op = 1 then decide (0 ≤ f.kd ∧ f.kd < kinds.length) && decide ((gt kinds f.kd).nm = tx)
  else if op = 2 then preB s.pl.pa tx
  else if op = 3 then sufB s.pl.pa tx
  else if op = 4 then decide (s.pl.sr = nu)
  else if op = 5 then decide (nu ≤ s.ly.length)
  else if op = 6 then decide (s.fr ≤ s.to) && decide (nu ≤ IntKind.u64.wrap (s.to - s.fr))
  else if op = 7 then decide (f.pr = pr)
  else if op = 8 then decide (s.pl.tm < nu)
  else if op = 9 then !(l.headD false)
  else if op = 10 then l.all id
  else l.any id
noncomputable def Tre.holds (kinds : List Knd) (f : Fnd) (s : Spt) : Tre → Bool := Tre.fold (hoF kinds f s)
theorem Tre.holds_mk (kinds : List Knd) (f : Fnd) (s : Spt) (op : Int) (tx : ByteArray) (nu pr : Int) (ks : List Tre) : (Tre.mk op tx nu pr ks).holds kinds f s = hoF kinds f s op tx nu pr (ks.map (Tre.holds kinds f s)) := Tre.fold_mk ..
noncomputable def hoS (kinds : List Knd) (f : Fnd) (s : Spt) (c : Trm) : Bool := c.tre.holds kinds f s
theorem hoS_mk (kinds : List Knd) (f : Fnd) (s : Spt) {op : Int} {tx : ByteArray} {nu pr : Int} {ts : List Trm} (h : ∀ k ∈ ts, k.ok) : hoS kinds f s ⟨op, tx, nu, pr, ts.map Trm.row⟩ = hoF kinds f s op tx nu pr (ts.map (hoS kinds f s)) := by
  unfold hoS
  rw [Trm.tre_mk h, Tre.holds_mk, List.map_map]; rfl
noncomputable def kid_V (k : Trm) (kinds : List Knd) (f : Fnd) (s : Spt) (ih : ∀ k' : Trm, ICp (k' = k) 55 [k'.v, knv kinds, f.v, s.v] (fun v => v = bv (hoS kinds f s k'))) (Q : SV → Prop) : Σ' P : Prop, (P → ICt 109 [k.v, .one (.rp [.d (.list (kinds.map Knd.row))]), .one f.p, .one s.p] Q) := by
  apply mkV; intro hP
  refine ic_wk (K 11) Try.func109 rfl rfl rfl rfl (fun w0 => ?_)
  repeat' (first
    | ((fail_if_success (have hTest : Hld False := hP)); (have hq := chk_c hP); (replace hP := chk_p hP))
    | (with_reducible (first | apply c_seq | apply c_rg | apply j_nil | apply q_n | apply c_ret))
    | ((with_reducible apply j_v); exact rfl; exact rfl)
    | ((with_reducible apply j_h); exact rfl; exact rfl)
    | ((with_reducible apply r_g); exact rfl; (· repeat' (first | exact True.intro | refine And.intro ?_ ?_)); (exact hP.out))
    | ((with_reducible apply v_call (pu := false)); exact rfl; exact ⟨rfl, rfl⟩; (apply (ih _); rotate_left 1); (focus ((repeat' (first | exact .nil _ | refine PsL.cons ?_ ?_ | refine PsSL.cons ?_ ?_ | exact .one (.d _ _) | refine .agg ?_ | exact .d _ _)) <;> fail)); exact .inr rfl; (apply chk_c; exact hP; (first | skip))))
theorem kid_fn (ts : List Trm) (kinds : List Knd) (f : Fnd) (s : Spt) (ih : ∀ k ∈ ts, ICt 55 [k.v, knv kinds, f.v, s.v] (fun v => v = bv (hoS kinds f s k))) : FnC 109 [.rp [.d (.list (kinds.map Knd.row))], f.p, s.p] (pTrm (· ∈ ts) fun k => hoS kinds f s k) := fnTrm (enters_of Try.func109 rfl rfl) fun k hk => (kid_V k kinds f s (fun k' e => by subst e; exact ih k' hk) _).2 (by
  (delta kid_V; dsimp only [mkV])
  (repeat' (first | with_reducible refine brn_nd (fun h => ?_) (fun h => ?_) | with_reducible refine brn_d (fun h => ?_) (fun h => ?_) | with_reducible refine brn_nn (fun h => ?_) (fun h => ?_) | with_reducible refine brn_nb (fun h => ?_) (fun h => ?_) | with_reducible refine Brn.mk (fun h => ?_) (fun h => ?_) | with_reducible refine Chk.mk ?_ ?_ | with_reducible refine Bth.mk ?_ ?_ | with_reducible refine Fct.mk (fun hf => ?_)))
  all_goals rfl)
noncomputable def holds_V (op : Int) (tx : ByteArray) (nu pr : Int) (ts : List Trm) (kinds : List Knd) (f : Fnd) (s : Spt) (ih : FnC 109 [.rp [.d (.list (kinds.map Knd.row))], f.p, s.p] (pTrm (· ∈ ts) fun k => hoS kinds f s k)) (Q : SV → Prop) : Σ' P : Prop, (P → ICt 55 [.agg [.d (.int .i64 op), .d (.str tx), .d (.int .i64 nu), .d (.int .u64 pr), .d (.list (ts.map Trm.row))], .one (.d (.list (kinds.map Knd.row))), f.v, s.v] Q) := by
  apply mkV; intro hP
  refine ic_wk (K 123) Try.func55 rfl rfl rfl rfl (fun w0 => ?_)
  repeat' (first
    | ((apply (v_fzr (o := ⟨some 10, .makeFunc _ _ _, _, _, _, _⟩) 5)); exact rfl; exact rfl; exact rfl; exact rfl)
    | ((apply (v_fzr (o := ⟨some 10, .makeFunc _ _ _, _, _, _, _⟩) 6)); exact rfl; exact rfl; exact rfl; exact rfl)
    | ((apply (v_fzr (o := ⟨some 10, .makeFunc _ _ _, _, _, _, _⟩) 7)); exact rfl; exact rfl; exact rfl; exact rfl)
    | ((with_reducible apply (v_mfn (d := 10))); exact (ih); exact rfl; exact rfl; exact (fun _ => rfl))
    | ((fail_if_success (have hTest : Hld False := hP)); (have hq := chk_c hP); (replace hP := chk_p hP))
    | (with_reducible (first | apply c_seq | apply c_rg | apply j_nil | apply q_n | apply g_tt | apply c_bl | apply c_ret | apply c_sk | apply q_r | apply b_r | apply b_n))
    | ((with_reducible apply (v_conv (t := 3) (t' := 40) .u64)); exact rfl; kernel_rfl; exact rfl; (with_reducible apply wr_u64; (apply chk_c; exact hP; (first | skip))))
    | ((with_reducible apply j_v); exact rfl; exact rfl)
    | ((with_reducible apply j_h); exact rfl; exact rfl)
    | ((with_reducible apply j_s); exact rfl)
    | ((with_reducible apply j_g); exact rfl; exact rfl; (first | with_reducible assumption))
    | ((with_reducible apply g_ft); exact rfl)
    | ((with_reducible apply v_lenm); exact rfl; exact rfl; exact rfl; (exact hP); clear hP; intro hP)
    | ((with_reducible apply j_pk); exact rfl; exact rfl; (first | with_reducible assumption); exact rfl)
    | ((with_reducible apply j_sub); exact rfl; exact rfl; exact rfl; (first | exact rfl))
    | ((with_reducible apply r_g); exact rfl; (· repeat' (first | exact True.intro | refine And.intro ?_ ?_)); (exact hP.out))
    | ((with_reducible apply j_call (pu := false)); exact rfl; (apply (pre_ic _ _); rotate_left 2); (focus ((repeat' (first | exact .nil _ | refine PsSL.cons ?_ ?_ | exact .one (.d _ _))) <;> fail)); exact .inr rfl)
    | ((with_reducible apply v_call (pu := false)); exact rfl; exact ⟨rfl, rfl⟩; (first | (apply (suf_ic _ _); rotate_left 2) | (apply (hasT_ic _ _ _); rotate_left 3)); (focus ((repeat' (first | (apply (PsS.cfn _ (neg_fn _ _)); (focus (repeat' (first | exact .nil _ | refine PsL.cons ?_ ?_ | refine PsSL.cons ?_ ?_ | exact .one (.d _ _) | exact .one (.nil _) | exact .one (.tape _) | exact .one (.fn _ _) | exact .agg (.same _ _) | refine .agg ?_ | exact .d _ _ | exact .one (.sl rfl rfl) | exact .sl rfl rfl | exact PsC.fn _ _ | refine .one (PsC.ref rfl ?_) | refine PsC.ref rfl ?_ | refine .one (PsC.rp ?_) | refine PsC.rp ?_ | refine .one (PsC.clo ?_) | refine PsC.clo ?_ | exact .same _ _)))) | exact .nil _ | refine PsL.cons ?_ ?_ | refine PsSL.cons ?_ ?_ | exact .one (.d _ _) | exact .one (.fn _ _) | exact PsC.fn _ _ | refine PsC.ref rfl ?_)) <;> fail)); exact .inr rfl; (apply chk_c; exact hP; (first | skip)))
    | ((with_reducible refine v_rgat (i := 4) ?_); (refine n_start (by kernel_rfl) ?_; (refine n_quiet none #[true, true, true, true, true, true, true, true, true, true, true, true, true, true, true, true, true, true, true, true, true, true] [0, 1, 2, 3, 4, 5, 6, 7, 8, 9, 10, 11, 12, 13, 14, 15, 16, 17, 18, 19, 20, 21] 0 rfl ?_; (repeat' (first | ((fail_if_success (have hTest : Hld False := hP)); (have hq := chk_c hP); (replace hP := chk_p hP)) | ((with_reducible apply (d_e (some []))); exact rfl; exact rfl; kernel_rfl; kernel_rfl; exact rfl; exact rfl; (first | ((with_reducible apply e_v); exact rfl) | ((with_reducible apply e_pk); exact rfl; (first | with_reducible assumption | with_reducible exact Eq.refl false); exact rfl))) | ((with_reducible apply (d_ey (some []))); exact rfl; exact rfl; exact rfl; (first | with_reducible assumption); exact rfl; kernel_rfl; kernel_rfl; exact rfl; exact rfl; (first | ((with_reducible apply e_v); exact rfl) | ((with_reducible apply e_lenm); exact rfl; exact rfl) | ((with_reducible apply f_ia); exact rfl; exact rfl; exact rfl; (case inst => exact inferInstance); exact rfl; exact rfl; (apply chk_c; exact hP; (first | skip))) | ((with_reducible apply f_streq); kernel_rfl; exact rfl; exact rfl))) | ((with_reducible apply d_gn); exact rfl; exact rfl; exact rfl; (first | with_reducible assumption | with_reducible rfl); exact rfl; kernel_rfl; kernel_rfl; exact rfl; exact rfl) | ((with_reducible apply v_dgs); exact rfl; exact rfl; exact rfl; ((repeat ((fail_if_success (have hTest : Hld False := hP)); (have hq := chk_c hP); (replace hP := chk_p hP))); exact hP); all_goals (clear hP; intro hg hP)) | ((with_reducible apply d_leaf); exact (by decide +kernel)))); all_goals ((with_reducible apply n_doneZ); exact rfl; exact (by decide +kernel)))))
    | ((with_reducible refine v_rgat (i := 20) ?_); (refine n_start (by kernel_rfl) ?_; ((apply (n_pure 1 (by kernel_rfl) rfl rfl (by kernel_rfl) (by kernel_rfl)); (first | exact p_fa (x := 0) (fo := 0) rfl rfl rfl rfl)); (refine n_quiet none #[true, false, true, true, true, true, true, true] [0, 2, 3, 4, 5, 6, 7] 0 rfl ?_; (repeat' (first | ((fail_if_success (have hTest : Hld False := hP)); (have hq := chk_c hP); (replace hP := chk_p hP)) | ((with_reducible apply (d_e (some []))); exact rfl; exact rfl; kernel_rfl; kernel_rfl; exact rfl; exact rfl; (first | ((with_reducible apply e_v); exact rfl) | ((with_reducible apply f_ia); exact rfl; exact rfl; exact rfl; (case inst => exact inferInstance); exact rfl; exact rfl; (apply chk_c; exact hP; (first | skip))) | ((with_reducible apply (f_callf (args := [.agg [.int .i64 _, .str _, .int .i64 _, .int .u64 _, .list _]]))); exact rfl; exact rfl; exact ⟨rfl, trivial⟩; (refine if_pos ?_; (apply chk_c; exact hP; (first | skip))); (focus (intro _ _ h; cases h; done)); exact (fun _ h => by cases h)))) | ((with_reducible apply d_leaf); exact (by decide +kernel)))); all_goals ((with_reducible apply n_doneZ); exact rfl; exact (by decide +kernel))))))
    | ((with_reducible apply v_gs); exact rfl; exact rfl; (exact hP); all_goals (clear hP; intro hg hP))
    | ((with_reducible apply v_if); exact rfl; (exact hP); all_goals (clear hP; intro hc hP)))
def SpOk (s : Spt) : Prop := s.pl.pa.size ≤ 1000000000 ∧ 0 ≤ s.fr ∧ s.fr ≤ 1099511627776 ∧ 0 ≤ s.to ∧ s.to ≤ 1099511627776
theorem okF_6 {op : Int} {tx : ByteArray} {nu pr : Int} {n : Nat} (h : okF op tx nu pr n = true) (e : op = 6) : 0 ≤ nu ∧ nu ≤ 1099511627776 := by
  subst e
  unfold okF at h
  simp at h
  omega
theorem okF_9 {op : Int} {tx : ByteArray} {nu pr : Int} {n : Nat} (h : okF op tx nu pr n = true) (e : op = 9) : n = 1 := by
  subst e
  unfold okF at h
  simp at h
  exact h.2.2.2
theorem rtS_kids {ts : List Trm} (h : (!ts.any fun k => !rtS k) = true) : ∀ k ∈ ts, rtS k = true := fun k hk => by
  simp at h
  exact h k hk
theorem holds_x (kinds : List Knd) (f : Fnd) (s : Spt) (hs : SpOk s) : ∀ c : Trm, c.ok → rtS c = true → ICt 55 [c.v, knv kinds, f.v, s.v] (fun v => v = bv (hoS kinds f s c)) := Trm.ind fun op tx nu pr ts htx hok ih hr => by
  rw [rtS_mk hok, Bool.and_eq_true] at hr
  obtain ⟨hr1, hr2⟩ := hr
  refine (holds_V op tx nu pr ts kinds f s (kid_fn ts kinds f s fun k hk => ih k hk (rtS_kids hr2 k hk)) _).2 ?_
  rw [hoS_mk kinds f s hok]
  obtain ⟨s1, s2, s3, s4, s5⟩ := hs
  unfold hoF
  (delta holds_V; dsimp only [mkV])
  (repeat' (first | with_reducible refine brn_nd (fun h => ?_) (fun h => ?_) | with_reducible refine brn_d (fun h => ?_) (fun h => ?_) | with_reducible refine brn_nn (fun h => ?_) (fun h => ?_) | with_reducible refine brn_nb (fun h => ?_) (fun h => ?_) | with_reducible refine Brn.mk (fun h => ?_) (fun h => ?_) | with_reducible refine Chk.mk ?_ ?_ | with_reducible refine Bth.mk ?_ ?_ | with_reducible refine Fct.mk (fun hf => ?_)))
  all_goals (try first | exact s1 | (have := okF_6 hr1 (by assumption); omega) | (intro k hk; exact hk) | (have := okF_9 hr1 (by assumption); omega) | (have := okF_9 hr1 (by assumption); exact gt_mem (by omega) (by omega)) | omega)
  all_goals refine bl ?_
  all_goals (try (simp [*]; done))
  · have e : op = 9 := by assumption
    obtain ⟨a, rfl⟩ := List.length_eq_one_iff.1 (okF_9 hr1 e)
    subst e
    rfl
  · have e : op = 10 := by assumption
    subst e
    rw [List.not_any_eq_all_not]
    simp [List.all_map]
theorem holds_ic (c : Trm) (kinds : List Knd) (f : Fnd) (s : Spt) : ICp (c.ok ∧ rtS c = true ∧ SpOk s) 55 [c.v, knv kinds, f.v, s.v] (fun v => v = bv (hoS kinds f s c)) := fun h => holds_x kinds f s h.2.2 c h.1 h.2.1
end Go.Proofs.Ytcbppkfnfbdkhaa
