/- Makers: kinds. -/
import Derived.Test.YtcbppkfnfbdkhaaJj
set_option linter.all false
set_option maxRecDepth 20000
set_option maxHeartbeats 4000000
namespace Go.Proofs.Ytcbppkfnfbdkhaa
open Go.RowKit Go.Shelf
noncomputable def bnode_V (b : Int) (Q : SV → Prop) : Σ' P : Prop, (P → ICt 89 [.one (.d (.int .u8 b))] Q) := by
  apply mkV; intro hP
  refine ic_wk (K 8) Try.func89 rfl rfl rfl rfl (fun w0 => ?_)
  repeat' (first
    | (with_reducible (first | apply c_seq | apply c_rg | apply j_nil | apply q_n | apply c_ret))
    | ((with_reducible apply j_v); exact rfl; exact rfl)
    | ((with_reducible apply (v_bsf (d := 6) (Rng.row))); exact rfl; exact rfl; exact (row_cons (Rng.row_mk _ _) row_nil); exact rfl; exact rfl)
    | ((with_reducible apply j_h); exact rfl; exact rfl)
    | ((with_reducible apply j_s); exact rfl)
    | ((with_reducible apply r_g); exact rfl; (· repeat' (first | exact True.intro | refine And.intro ?_ ?_)); (exact hP.out)))
theorem bnode_nd (b : Int) : ICt 89 [.one (.d (.int .u8 b))] (ND (fun _ : Nde => True) Nde.v) := (bnode_V b _).2 (by
  (delta bnode_V; dsimp only [mkV])
  exact ⟨⟨1, [⟨b, b⟩], [], 0, 0⟩, True.intro, rfl⟩)
noncomputable def seq_V (l : List Nde) (Q : SV → Prop) : Σ' P : Prop, (P → ICt 88 [.one (.d (.list (l.map Nde.row)))] Q) := by
  apply mkV; intro hP
  refine ic_wk (K 5) Try.func88 rfl rfl rfl rfl (fun w0 => ?_)
  repeat' (first
    | (with_reducible (first | apply c_seq | apply c_rg | apply j_nil | apply q_n | apply c_ret))
    | ((with_reducible apply j_v); exact rfl; exact rfl)
    | ((with_reducible apply j_h); exact rfl; exact rfl)
    | ((with_reducible apply j_s); exact rfl)
    | ((with_reducible apply r_g); exact rfl; (· repeat' (first | exact True.intro | refine And.intro ?_ ?_)); (exact hP.out)))
theorem seq_nd (l : List Nde) : ICt 88 [.one (.d (.list (l.map Nde.row)))] (ND (fun _ : Nde => True) Nde.v) := (seq_V l _).2 (by
  (delta seq_V; dsimp only [mkV])
  exact ⟨⟨2, [], l.map Nde.row, 0, 0⟩, True.intro, rfl⟩)
noncomputable def times_V (r : List Rng) (a : Int) (b : Int) (Q : SV → Prop) : Σ' P : Prop, (P → ICt 90 [.one (.d (.list (List.map Rng.row r))), .one (.d (.int .i64 a)), .one (.d (.int .i64 b))] Q) := by
  apply mkV; intro hP
  refine ic_wk (K 13) Try.func90 rfl rfl rfl rfl (fun w0 => ?_)
  apply (v_kint (x := 1)); exact rfl; exact hP; clear hP; intro hP
  apply (v_kint (x := 2)); exact rfl; exact hP; clear hP; intro hP
  repeat' (first
    | (with_reducible (first | apply c_seq | apply c_rg | apply j_nil | apply q_n | apply c_ret))
    | ((with_reducible apply j_v); exact rfl; exact rfl)
    | ((with_reducible apply (v_bsf (d := 9) (Nde.row))); exact rfl; exact rfl; (focus (repeat' (first | exact row_nil | apply row_cons | exact Nde.row_mk _ _ [] _ _))); exact rfl; exact rfl)
    | ((with_reducible apply j_h); exact rfl; exact rfl)
    | ((with_reducible apply j_s); exact rfl)
    | ((with_reducible apply r_g); exact rfl; (· repeat' (first | exact True.intro | refine And.intro ?_ ?_)); (exact hP.out)))
theorem times_nd (r : List Rng) (a b : Int) : ICt 90 [.one (.d (.list (r.map Rng.row))), iv a, iv b] (ND (fun _ : Nde => True) Nde.v) := (times_V r a b _).2 (by
  (delta times_V; dsimp only [mkV])
  (repeat' (first | with_reducible refine brn_nd (fun h => ?_) (fun h => ?_) | with_reducible refine brn_d (fun h => ?_) (fun h => ?_) | with_reducible refine brn_nn (fun h => ?_) (fun h => ?_) | with_reducible refine brn_nb (fun h => ?_) (fun h => ?_) | with_reducible refine Brn.mk (fun h => ?_) (fun h => ?_) | with_reducible refine Chk.mk ?_ ?_ | with_reducible refine Bth.mk ?_ ?_ | with_reducible refine Fct.mk (fun hf => ?_)))
  exact ⟨⟨4, [], [Nde.mk 1 r [] 0 0].map Nde.row, a, b⟩, True.intro, rfl⟩)
noncomputable def shapes_V  (Q : SV → Prop) : Σ' P : Prop, (P → ICt 42 [] Q) := by
  apply mkV; intro hP
  refine ic_wk (K 44) Try.func42 rfl rfl rfl rfl (fun w0 => ?_)
  repeat' (first
    | (with_reducible (first | apply c_seq | apply c_rg | apply j_nil | apply q_n | apply c_ret))
    | ((with_reducible apply j_v); exact rfl; exact rfl)
    | ((with_reducible apply (v_bsf (d := 5) (Rng.row))); exact rfl; exact rfl; exact (row_cons (Rng.row_mk _ _) row_nil); exact rfl; exact rfl)
    | ((with_reducible apply (v_bsf (d := 8) (Rng.row))); exact rfl; exact rfl; exact (row_cons (Rng.row_mk _ _) (row_cons (Rng.row_mk _ _) row_nil)); exact rfl; exact rfl)
    | ((with_reducible apply (v_bsf (d := 11) (Rng.row))); exact rfl; exact rfl; exact (row_cons (Rng.row_mk _ _) (row_cons (Rng.row_mk _ _) row_nil)); exact rfl; exact rfl)
    | ((with_reducible apply (v_bsf (d := 16) (Nde.row))); exact rfl; exact rfl; (focus (repeat' (first | exact row_nil | apply row_cons | exact Nde.row_mkr _ _ _ _ _))); exact rfl; exact rfl)
    | ((with_reducible apply (v_bsf (d := 22) (Nde.row))); exact rfl; exact rfl; (focus (repeat' (first | exact row_nil | apply row_cons | exact Nde.row_mkr _ _ _ _ _))); exact rfl; exact rfl)
    | ((with_reducible apply (v_bsf (d := 31) (Nde.row))); exact rfl; exact rfl; (focus (repeat' (first | exact row_nil | apply row_cons | exact Nde.row_mkr _ _ _ _ _))); exact rfl; exact rfl)
    | ((with_reducible apply (v_bsf (d := 35) (Nde.row))); exact rfl; exact rfl; (focus (repeat' (first | exact row_nil | apply row_cons | exact Nde.row_mkr _ _ _ _ _))); exact rfl; exact rfl)
    | ((with_reducible apply (v_bsf (d := 41) (Nde.row))); exact rfl; exact rfl; (focus (repeat' (first | exact row_nil | apply row_cons | exact Nde.row_mkr _ _ _ _ _))); exact rfl; exact rfl)
    | ((with_reducible apply (v_bsf (d := 43) (Nde.row))); exact rfl; exact rfl; (focus (repeat' (first | exact row_nil | apply row_cons | exact Nde.row_mk _ [] _ _ _ | exact Nde.row_mkr _ _ _ _ _))); exact rfl; exact rfl)
    | ((with_reducible apply r_g); exact rfl; (· repeat' (first | exact True.intro | refine And.intro ?_ ?_)); (exact hP.out))
    | ((with_reducible apply v_nd (pu := true)); exact rfl; (first | (apply (seq_nd _); rotate_left 1) | (apply (bnode_nd _); rotate_left 1) | (apply (times_nd _ _ _); rotate_left 3)); (focus ((repeat' (first | exact .nil _ | refine PsSL.cons ?_ ?_ | exact .one (.d _ _))) <;> fail)); exact .inl rfl; (exact hP); clear hP; intro x hx hP))
theorem shapes_nd : ICt 42 [] (ND (fun l : List Nde => l.length = 6) (fun l => .one (.d (.list (l.map Nde.row))))) := (shapes_V _).2 (by
  (delta shapes_V; dsimp only [mkV])
  (repeat' (first | with_reducible refine brn_nd (fun h => ?_) (fun h => ?_) | with_reducible refine brn_d (fun h => ?_) (fun h => ?_) | with_reducible refine brn_nn (fun h => ?_) (fun h => ?_) | with_reducible refine brn_nb (fun h => ?_) (fun h => ?_) | with_reducible refine Brn.mk (fun h => ?_) (fun h => ?_) | with_reducible refine Chk.mk ?_ ?_ | with_reducible refine Bth.mk ?_ ?_ | with_reducible refine Fct.mk (fun hf => ?_)))
  repeat' (intro _ _)
  (repeat' (first | with_reducible refine brn_nd (fun h => ?_) (fun h => ?_) | with_reducible refine brn_d (fun h => ?_) (fun h => ?_) | with_reducible refine brn_nn (fun h => ?_) (fun h => ?_) | with_reducible refine brn_nb (fun h => ?_) (fun h => ?_) | with_reducible refine Brn.mk (fun h => ?_) (fun h => ?_) | with_reducible refine Chk.mk ?_ ?_ | with_reducible refine Bth.mk ?_ ?_ | with_reducible refine Fct.mk (fun hf => ?_)))
  all_goals first | exact ⟨_, rfl, rfl⟩ | trace_state)
noncomputable def numb_V (n : Int) (Q : SV → Prop) : Σ' P : Prop, (P → ICt 43 [.one (.d (.int .i64 n))] Q) := by
  apply mkV; intro hP
  refine ic_wk (K 20) Try.func43 rfl rfl rfl rfl (fun w0 => ?_)
  apply (v_kint (x := 0)); exact rfl; exact hP; clear hP; intro hP
  repeat' (first
    | (with_reducible (first | apply c_seq | apply c_rg | apply j_nil | apply q_n | apply c_ret | apply c_sk | apply q_r))
    | ((with_reducible apply (v_conv (t := 3) (t' := 5) .u8)); exact rfl; kernel_rfl; exact rfl; exact wr_u8t)
    | ((with_reducible apply (v_bstr (t := 179) (t' := 9))); exact rfl; kernel_rfl; (first | exact .d _))
    | ((with_reducible apply j_v); exact rfl; exact rfl)
    | ((with_reducible apply (v_bsf (d := 8) (irow_u8))); exact rfl; exact rfl; exact (row_cons (irow_u8_mk _) row_nil); exact rfl; exact rfl)
    | ((with_reducible apply j_add); exact rfl; exact rfl; exact rfl; (first | exact rfl))
    | ((with_reducible apply r_g); exact rfl; (· repeat' (first | exact True.intro | refine And.intro ?_ ?_)); (exact hP.out))
    | ((with_reducible refine v_rgat (i := 3) ?_); exact v_cut (R := True) hP)
    | ((with_reducible apply v_if); exact rfl; (exact hP); all_goals (clear hP; intro hc hP)))
theorem numb_ic (n : Int) : ICp (0 ≤ n ∧ n < 10) 43 [iv n] (fun v => v = .one (.d (.str (bsI [48 + n])))) := fun hn => (numb_V n _).2 (by
  (delta numb_V; dsimp only [mkV])
  (repeat' (first | with_reducible refine brn_nd (fun h => ?_) (fun h => ?_) | with_reducible refine brn_d (fun h => ?_) (fun h => ?_) | with_reducible refine brn_nn (fun h => ?_) (fun h => ?_) | with_reducible refine brn_nb (fun h => ?_) (fun h => ?_) | with_reducible refine Brn.mk (fun h => ?_) (fun h => ?_) | with_reducible refine Chk.mk ?_ ?_ | with_reducible refine Bth.mk ?_ ?_ | with_reducible refine Fct.mk (fun hf => ?_)))
  · refine congrArg (fun z => SV.one (CV.d (Cell.str (bsI [z])))) ?_
    rw [show n % 256 = n by omega]
    show (48 + n) % 256 = 48 + n
    omega
  · omega
  · trivial)
theorem bsI_size (l : List Int) : (bsI l).size = l.length := by simp [bsI, ByteArray.size]
def KndOk (l : List Knd) : Prop := l.length ≤ 3 ∧ ∀ k ∈ l, quB k.nm = true ∧ k.nm.size = 5
theorem kind_nm : ∀ n : Nat, n < 3 → quB (⟨#[107, 105, 110, 100]⟩ ++ bsI [48 + (n : Int)]) = true ∧ (⟨#[107, 105, 110, 100]⟩ ++ bsI [48 + (n : Int)] : ByteArray).size = 5 := by decide
theorem KndOk_snoc {l : List Knd} {n : Int} {k : Knd} (h : KndOk l) (hn : (l.length : Int) = n) (h3 : n < 3) (hk : k.nm = ⟨#[107, 105, 110, 100]⟩ ++ bsI [48 + n]) : KndOk (l ++ [k]) := by
  refine ⟨by simp; omega, fun x hx => ?_⟩
  rcases List.mem_append.1 hx with hx | hx
  · exact h.2 x hx
  · rw [List.mem_singleton] at hx
    subst hx
    rw [hk, ← hn]
    exact kind_nm _ (by omega)
noncomputable def kinds_V  (Q : SV → Prop) : Σ' P : Prop, (P → ICt 9 [.one .tape] Q) := by
  apply mkV; intro hP
  refine ic_wk (K 64) Try.func9 rfl rfl rfl rfl (fun w0 => ?_)
  repeat' (first
    | ((fail_if_success (have hTest : Hld False := hP)); (have hq := chk_c hP); (replace hP := chk_p hP))
    | (with_reducible (first | apply c_seq | apply c_rg | apply j_nil | apply q_n | apply c_bl | apply c_ex | apply c_ret | apply c_sk | apply q_e | apply b_e | apply b_n | apply n_n | apply n_e))
    | ((with_reducible apply j_v); exact rfl; exact rfl)
    | ((with_reducible apply (v_bsf (d := 42) (srow))); exact rfl; exact rfl; exact (row_cons (srow_mk _) row_nil); exact rfl; exact rfl)
    | ((with_reducible apply (v_bsf (d := 49) (srow))); exact rfl; exact rfl; exact (row_cons (srow_mk _) (row_cons (srow_mk _) row_nil)); exact rfl; exact rfl)
    | ((with_reducible apply (v_bsf (d := 61) (Knd.row))); exact rfl; exact rfl; (focus (repeat' (first | exact row_nil | apply row_cons | exact Knd.row_mkr _ _ _ _ _ _ _ _ _ _ _ | exact Knd.row_mkr _ _ _ _ _ _ _ _ _ [] _))); exact rfl; exact rfl)
    | ((with_reducible apply j_s); exact rfl)
    | ((with_reducible apply j_sub); exact rfl; exact rfl; exact rfl; (with_reducible apply wr_i64; (apply chk_c; exact hP; (first | skip))))
    | ((with_reducible apply j_mul); exact rfl; exact rfl; exact rfl; (with_reducible apply wr_i64; (apply chk_c; exact hP; (first | skip))))
    | ((with_reducible apply (v_ap (Knd.row))); exact rfl; exact rfl; exact rfl; exact rfl; exact rfl; exact rfl; exact rfl; (first | exact rfl); exact rfl; exact rfl; exact rfl; (apply src_d; exact rfl; (intro row hrow; obtain ⟨q, _, rfl⟩ := List.mem_map.1 hrow; rfl)); (first | exact rfl); exact rfl; exact rfl; exact rfl; (apply chk_c; exact hP; (first | skip)))
    | ((with_reducible apply r_g); exact rfl; (· repeat' (first | exact True.intro | refine And.intro ?_ ?_ | (show (_ : Nat) = _; (first | exact (List.length_map _).symm)))); (exact hP.out))
    | ((with_reducible apply v_ndp (pu := false)); exact rfl; exact ⟨rfl, rfl⟩; (first | (apply (next_nd _); rotate_left 1) | (apply (between_nd _ _); rotate_left 2)); (focus ((repeat' (first | exact .nil _ | refine PsSL.cons ?_ ?_ | exact .one (.d _ _) | exact .one (.tape _))) <;> fail)); exact .inr (fun _ => rfl); (exact hP); clear hP; intro x hx hP)
    | ((with_reducible apply v_nd (pu := true)); exact rfl; (exact shapes_nd); (focus ((repeat' (first | exact .nil _)) <;> fail)); exact .inl rfl; (exact hP); clear hP; intro x hx hP)
    | ((with_reducible refine v_loopat (c := (.seq (.seq (.region 4 _ _) _) _)) ?_); (apply (v_loop2 [] _ [0, 4] [] (fun x1 x2 => [(3, .one (.sl 203 (List.length x1) 11)), (5, .one (.d (.int .i64 x2)))]) (fun x1 x2 => [(203, .arr 115 11 (List.map Knd.row x1))]) [203])); exact rfl; exact rfl; (focus (refine ⟨?_, ?_⟩; rotate_left 1; (focus (repeat' (first | exact .nil | refine .cons ?_ ?_ | exact .virt rfl))); (focus (repeat' (first | exact .nil | refine .cons ?_ ?_ | exact SVle_pl rfl | refine .one ?_ | exact .tape | exact .nils rfl))))); (exact hP); clear hP; intro I μ x1 x2 hP)
    | ((with_reducible apply (v_nxt2 (a1 := _) (a2 := _))); rotate_left 1; (focus (repeat' (first | exact .nil | refine .cons ?_ ?_ | exact .arr rfl (by first | rfl | assumption | simp)))); rotate_right 1; (focus (repeat' (first | exact .nil | refine .cons ?_ ?_ | exact SVle_pl rfl | refine .one ?_ | exact .sl rfl (by first | rfl | exact List.length_set.symm | exact (splT_len (by simp only [List.length_take, List.length_drop]; omega)).symm | omega | (rw [List.length_append, List.length_map]; show _ + 1 = _; omega) | simp) | exact .tape))); (exact hP))
    | ((with_reducible refine v_rgat (i := 6) ?_); (refine n_start (by kernel_rfl) ?_; (refine n_quiet (some [6]) #[true, true, true, true, true, true, true, true, true, true, true, true, true, true, true, true, true] [0, 1, 2, 3, 4, 5, 6, 7, 11, 8, 9, 10, 12, 13, 14, 15, 16] 0 rfl ?_; (repeat' (first | ((fail_if_success (have hTest : Hld False := hP)); (have hq := chk_c hP); (replace hP := chk_p hP)) | ((with_reducible apply (d_e (some []))); exact rfl; exact rfl; kernel_rfl; exact (by decide +kernel); exact rfl; exact rfl; (first | ((with_reducible apply e_v); exact rfl) | ((with_reducible apply e_lenm); exact rfl; exact rfl) | ((with_reducible apply e_lens); exact rfl; exact rfl) | ((with_reducible apply f_ia); exact rfl; exact rfl; exact rfl; (case inst => exact inferInstance); exact rfl; exact rfl; (first | with_reducible assumption)) | ((with_reducible apply f_cat); kernel_rfl; exact rfl; exact rfl; (apply chk_c; exact hP; (first | skip))) | ((with_reducible apply f_call (pu := true)); exact rfl; exact ⟨rfl, rfl⟩; apply (numb_ic _); rotate_left 1; (focus ((repeat' (first | exact .nil _ | refine PsSL.cons ?_ ?_ | exact .one (.d _ _))) <;> fail)); exact .inl rfl; (apply chk_c; exact hP; (first | skip))))) | ((with_reducible apply d_st); exact rfl; exact (by decide +kernel); exact rfl; exact rfl; exact rfl; exact rfl; exact rfl; exact rfl; exact rfl) | ((with_reducible apply d_al); exact rfl; exact rfl; exact (by decide +kernel); exact rfl; exact rfl) | ((with_reducible apply d_nd); exact rfl; exact rfl; exact (by decide +kernel); ((with_reducible apply f_ndp (pu := false)); exact rfl; exact ⟨rfl, rfl⟩; apply (next_nd _); rotate_left 1; (focus ((repeat' (first | exact .nil _ | refine PsSL.cons ?_ ?_ | exact .one (.d _ _) | exact .one (.tape _))) <;> fail)); exact .inr (fun _ => rfl); ((repeat ((fail_if_success (have hTest : Hld False := hP)); (have hq := chk_c hP); (replace hP := chk_p hP))); first | with_reducible assumption | (apply chk_c; exact hP; (first | skip)))); (with_reducible apply nd_intro); ((repeat ((fail_if_success (have hTest : Hld False := hP)); (have hq := chk_c hP); (replace hP := chk_p hP))); exact hP); clear hP; intro x hx hP) | ((with_reducible apply (v_dtwo 8 15)); exact (by decide +kernel); ((repeat ((fail_if_success (have hTest : Hld False := hP)); (have hq := chk_c hP); (replace hP := chk_p hP))); exact hP); all_goals (clear hP; intro hP)) | ((with_reducible apply (v_dtwo 12 15)); exact (by decide +kernel); ((repeat ((fail_if_success (have hTest : Hld False := hP)); (have hq := chk_c hP); (replace hP := chk_p hP))); exact hP); all_goals (clear hP; intro hP)) | ((with_reducible apply (s_nd (i := 12) (l := [13, 14, 15, 16]))); exact rfl; exact rfl; ((with_reducible apply f_ndp (pu := false)); exact rfl; exact ⟨rfl, rfl⟩; apply (next_nd _); rotate_left 1; (focus ((repeat' (first | exact .nil _ | refine PsSL.cons ?_ ?_ | exact .one (.d _ _) | exact .one (.tape _))) <;> fail)); exact .inr (fun _ => rfl); ((repeat ((fail_if_success (have hTest : Hld False := hP)); (have hq := chk_c hP); (replace hP := chk_p hP))); first | with_reducible assumption | (apply chk_c; exact hP; (first | skip)))); exact rfl; (with_reducible apply nd_intro); ((repeat ((fail_if_success (have hTest : Hld False := hP)); (have hq := chk_c hP); (replace hP := chk_p hP))); exact hP); clear hP; intro x hx hP) | ((with_reducible apply (s_al (i := 15) (l := [12, 13, 14, 16]))); exact rfl; exact rfl; exact rfl; exact rfl; exact rfl) | ((with_reducible apply (s_nd (i := 8) (l := [9, 10, 12, 13, 14, 15, 16]))); exact rfl; exact rfl; ((with_reducible apply f_ndp (pu := false)); exact rfl; exact ⟨rfl, rfl⟩; apply (next_nd _); rotate_left 1; (focus ((repeat' (first | exact .nil _ | refine PsSL.cons ?_ ?_ | exact .one (.d _ _) | exact .one (.tape _))) <;> fail)); exact .inr (fun _ => rfl); ((repeat ((fail_if_success (have hTest : Hld False := hP)); (have hq := chk_c hP); (replace hP := chk_p hP))); first | with_reducible assumption | (apply chk_c; exact hP; (first | skip)))); exact rfl; (with_reducible apply nd_intro); ((repeat ((fail_if_success (have hTest : Hld False := hP)); (have hq := chk_c hP); (replace hP := chk_p hP))); exact hP); clear hP; intro x hx hP) | ((with_reducible apply (s_al (i := 15) (l := [8, 9, 10, 12, 13, 14, 16]))); exact rfl; exact rfl; exact rfl; exact rfl; exact rfl) | ((with_reducible apply d_leaf); exact (by decide +kernel)))); all_goals ((with_reducible apply n_doneZ); exact rfl; exact (by decide +kernel)))))
    | ((with_reducible apply v_if); exact rfl; (exact hP); all_goals (clear hP; intro hc hP)))
theorem kinds_nd : ICt 9 [.one .tape] (ND (fun l : List Knd => KndOk l) (fun l => .one (.d (.list (l.map Knd.row))))) := (kinds_V _).2 (by
  (delta kinds_V; dsimp only [mkV])
  intro x hx
  (repeat' (first | with_reducible refine brn_nd (fun h => ?_) (fun h => ?_) | with_reducible refine brn_d (fun h => ?_) (fun h => ?_) | with_reducible refine brn_nn (fun h => ?_) (fun h => ?_) | with_reducible refine brn_nb (fun h => ?_) (fun h => ?_) | with_reducible refine Brn.mk (fun h => ?_) (fun h => ?_) | with_reducible refine Chk.mk ?_ ?_ | with_reducible refine Bth.mk ?_ ?_ | with_reducible refine Fct.mk (fun hf => ?_)))
  · omega
  intro n hn
  refine lp2 (fun l k => KndOk l ∧ 0 ≤ k ∧ (l.length : Int) + k ≤ 3) (fun _ k => k.toNat) ⟨⟨by simp, fun k hk => by cases hk⟩, by omega, by show (0 : Int) + n ≤ 3; omega⟩ ?_
  intro I μ nx l k hJ
  have hs : ∀ m : Int, (⟨#[107, 105, 110, 100]⟩ : ByteArray).size + (bsI [m]).size ≤ 1000000000 := fun m => by rw [bsI_size]; show 4 + 1 ≤ 1000000000; omega
  repeat' (first | with_reducible refine brn_d (fun h => ?_) (fun h => ?_) | with_reducible refine Chk.mk ?_ ?_ | with_reducible refine Bth.mk ?_ ?_ | with_reducible refine Fct.mk (fun _ => ?_) | intro _)
  all_goals first
    | omega
    | exact hs _
    | (unfold InI; omega)
    | (simp; omega)
    | exact nx _ _ _ _ hJ ⟨KndOk_snoc hJ.1 rfl (by omega) rfl, by omega, by simp; omega⟩ (by omega)
    | exact ⟨_, hJ.1, rfl⟩
    | trace_state)
end Go.Proofs.Ytcbppkfnfbdkhaa
