/- Directories: the reference. -/
import Derived.Test.YtoflahjlnbligaaEm
import Derived.Test.YtoflahjlnbligaaExLeaves
set_option linter.all false
set_option maxRecDepth 20000
set_option maxHeartbeats 4000000
namespace Go.Proofs.Ytoflahjlnbligaa
open Go.RowKit Go.Shelf
noncomputable def rdirect_V (d : Dir) (p : Int) (g : Int) (t : Int) (Q : SV → Prop) : Σ' P : Prop, (P → ICt 89 [.agg (List.map .d (Dir.row d)), .one (.d (.int .i64 p)), .one (.d (.int .i64 g)), .one (.d (.int .i64 t))] Q) := by
  apply mkV; intro hP
  refine ic_wk (K 40) Try.func89 rfl rfl rfl rfl (fun w0 => ?_)
  apply (v_kint (x := 1)); exact rfl; exact hP; clear hP; intro hP
  apply (v_kint (x := 2)); exact rfl; exact hP; clear hP; intro hP
  apply (v_kint (x := 3)); exact rfl; exact hP; clear hP; intro hP
  repeat' (first
    | ((fail_if_success (have hTest : Hld False := hP)); (have hq := chk_c hP); (replace hP := chk_p hP))
    | (with_reducible (first | apply c_seq | apply c_rg | apply j_nil | apply q_n | apply g_tt | apply c_cf | apply c_bl | apply c_ex | apply c_ret | apply c_sk | apply q_e | apply b_e | apply b_n | apply n_n | apply n_e))
    | ((with_reducible apply c_l1); exact rfl; exact rfl)
    | ((with_reducible apply j_v); exact rfl; exact rfl)
    | ((with_reducible apply j_h); exact rfl; exact rfl)
    | ((with_reducible apply j_s); exact rfl)
    | ((with_reducible apply j_g); exact rfl; exact rfl; (first | with_reducible assumption | with_reducible exact Eq.refl false))
    | ((with_reducible apply g_ft); exact rfl)
    | ((with_reducible apply v_lenm); exact rfl; exact rfl; exact rfl; (exact hP); clear hP; intro hP)
    | ((with_reducible apply j_pk); exact rfl; exact rfl; (first | with_reducible assumption | with_reducible exact Eq.refl false); exact rfl)
    | ((with_reducible apply j_add); exact rfl; exact rfl; exact rfl; (with_reducible apply wr_i64; (apply chk_c; exact hP; (first | skip))))
    | ((with_reducible apply v_ia); exact rfl; exact rfl; exact rfl; exact rfl; (case inst => exact inferInstance); exact rfl; exact rfl; (apply chk_c; exact hP; (first | skip)))
    | ((with_reducible apply c_c); exact rfl; (first | with_reducible exact Eq.refl false))
    | ((with_reducible apply r_g); exact rfl; (· repeat' (first | exact True.intro | refine And.intro ?_ ?_)); (exact hP.out))
    | ((with_reducible refine v_loopat (c := (.seq (.region 3 _ _) _)) ?_); (apply (v_loop2 _ _ [1, 2, 3, 13, 14] [] (fun x1 x2 => [(9, .one (.d (.bool x1))), (15, .one (.d (.int .i64 x2)))]) (fun x1 x2 => []) [])); exact rfl; exact rfl; exact ⟨(by repeat' (first | exact .nil | refine .cons ?_ ?_ | exact SVle_pl rfl)), (by repeat' (first | exact .nil))⟩; (exact hP); clear hP; intro I μ x1 x2 hP)
    | ((with_reducible apply (v_nxt2 (a1 := _) (a2 := _))); (repeat' (first | exact .nil | refine .cons ?_ ?_ | exact SVle_pl rfl)); (repeat' (first | exact .nil | exact .nil _ | refine .cons ?_ ?_ | exact .u _ | exact SVle_pl rfl | refine .one ?_ | refine .agg ?_ | exact .d rfl | exact .ref rfl rfl | exact .sl rfl (by first | rfl | exact List.length_set.symm | exact (splT_len (by simp only [List.length_take, List.length_drop]; omega)).symm | omega | (rw [List.length_append, List.length_map]; show _ + 1 = _; omega) | simp) | exact .fn _ | exact .tape | exact .nils rfl | exact .nild | exact .nildm | exact .nil | exact .rp (by simp) | exact .clo (by simp) | exact .el rfl rfl rfl | exact .d (by first | rfl | (congr 1; omega) | (congr 1; assumption) | simp) | exact .virt rfl | exact .gone _ | refine .blk rfl ?_ | exact .arr rfl (by first | rfl | assumption | simp))); (exact hP))
    | ((with_reducible apply v_gs); exact rfl; exact rfl; (exact hP); all_goals (clear hP; intro hg hP))
    | ((with_reducible apply v_if); exact rfl; (exact hP); all_goals (clear hP; intro hc hP)))
theorem rdirect_ic (d : Dir) (p g t : Int) : ICt 89 [d.v, iv p, iv g, iv t] (fun v => v = bv (d.edge t p g)) := (rdirect_V d p g t _).2 (by
  (delta rdirect_V; dsimp only [mkV])
  (repeat' (first | with_reducible refine brn_nd (fun h => ?_) (fun h => ?_) | with_reducible refine brn_d (fun h => ?_) (fun h => ?_) | with_reducible refine brn_nn (fun h => ?_) (fun h => ?_) | with_reducible refine brn_nb (fun h => ?_) (fun h => ?_) | with_reducible refine Brn.mk (fun h => ?_) (fun h => ?_) | with_reducible refine Chk.mk ?_ ?_ | with_reducible refine Bth.mk ?_ ?_ | with_reducible refine Fct.mk (fun hf => ?_)))
  refine up2 (fun b z => b = edgeL (d.evs.take z.toNat) t p g) (by omega) rfl ?_ ?_
  · rintro I μ b z h0 h1 rfl nx
    have ets : d.evs.take (z + 1).toNat = d.evs.take z.toNat ++ [gt d.evs z] := by
      have e : (z + 1).toNat = z.toNat + 1 := by omega
      rw [e, take_snoc (by omega), show ((z.toNat : Nat) : Int) = z by omega]
    (repeat' (first | with_reducible refine brn_nd (fun h => ?_) (fun h => ?_) | with_reducible refine brn_d (fun h => ?_) (fun h => ?_) | with_reducible refine brn_nn (fun h => ?_) (fun h => ?_) | with_reducible refine brn_nb (fun h => ?_) (fun h => ?_) | with_reducible refine Brn.mk (fun h => ?_) (fun h => ?_) | with_reducible refine Chk.mk ?_ ?_ | with_reducible refine Bth.mk ?_ ?_ | with_reducible refine Fct.mk (fun hf => ?_)))
    all_goals (first | omega | skip)
    · exact nx _ (by rw [ets, edgeL_snoc, if_pos ⟨by assumption, by assumption, by assumption⟩])
    all_goals (exact nx _ (by rw [ets, edgeL_snoc, if_neg (by rintro ⟨a, b, c⟩; contradiction)]))
  · rintro I μ b rfl
    rw [List.take_of_length_le (by omega)]
    rfl)
noncomputable def rDirect_V (d : Dir) (g : Int) (t : Int) (Q : SV → Prop) : Σ' P : Prop, (P → ICt 50 [.agg (List.map .d (Dir.row d)), .one (.d (.int .i64 g)), .one (.d (.int .i64 t))] Q) := by
  apply mkV; intro hP
  refine ic_wk (K 35) Try.func50 rfl rfl rfl rfl (fun w0 => ?_)
  apply (v_kint (x := 1)); exact rfl; exact hP; clear hP; intro hP
  apply (v_kint (x := 2)); exact rfl; exact hP; clear hP; intro hP
  repeat' (first
    | ((fail_if_success (have hTest : Hld False := hP)); (have hq := chk_c hP); (replace hP := chk_p hP))
    | (with_reducible (first | apply c_seq | apply c_rg | apply j_nil | apply q_n | apply g_ff | apply c_ct | apply c_bl | apply c_ex | apply c_ret | apply c_sk | apply q_r | apply q_e | apply b_e | apply b_n | apply n_n | apply n_e))
    | ((with_reducible apply c_l1); exact rfl; exact rfl)
    | ((with_reducible apply j_v); exact rfl; exact rfl)
    | ((with_reducible apply (v_bsf (d := 31) (irow))); exact rfl; exact rfl; exact (row_cons (irow_mk _) row_nil); exact rfl; exact rfl)
    | ((with_reducible apply j_h); exact rfl; exact rfl)
    | ((with_reducible apply j_g); exact rfl; exact rfl; (first | with_reducible assumption))
    | ((with_reducible apply g_tf); exact rfl)
    | ((with_reducible apply v_lenm); exact rfl; exact rfl; exact rfl; (exact hP); clear hP; intro hP)
    | ((with_reducible apply j_pk); exact rfl; exact rfl; (first | with_reducible assumption); exact rfl)
    | ((with_reducible apply j_add); exact rfl; exact rfl; exact rfl; (with_reducible apply wr_i64; (apply chk_c; exact hP; (first | skip))))
    | ((with_reducible apply (v_ap (irow))); exact rfl; exact rfl; exact rfl; exact rfl; exact rfl; exact rfl; exact rfl; (first | exact rfl); exact rfl; exact rfl; exact rfl; (apply src_d; exact rfl; (intro row hrow; obtain ⟨q, _, rfl⟩ := List.mem_map.1 hrow; rfl)); (first | exact rfl); exact rfl; exact rfl; exact rfl; (apply chk_c; exact hP; (first | skip)))
    | ((with_reducible apply c_c); exact rfl; (first | with_reducible exact Eq.refl true))
    | ((with_reducible apply r_g); exact rfl; (· repeat' (first | exact True.intro | refine And.intro ?_ ?_ | (show (_ : Nat) = _; (first | exact (List.length_map _).symm)))); (exact hP.out))
    | ((with_reducible apply j_call (pu := false)); exact rfl; (first | (apply (rGroup_ic _ _); rotate_left 2) | (apply (rValid_ic _); rotate_left 1) | (apply (rdirect_ic _ _ _ _); rotate_left 4)); (focus ((repeat' (first | exact .nil _ | refine PsL.cons ?_ ?_ | refine PsSL.cons ?_ ?_ | exact .one (.d _ _) | refine .agg ?_ | exact .d _ _)) <;> fail)); exact .inr rfl)
    | ((with_reducible refine v_loopat (c := (.seq (.region 5 _ _) _)) ?_); (apply (v_loop2 [] _ [1, 2, 3, 20] [3] (fun x1 x2 => [(7, .one (.sl 207 (List.length x1) 1)), (21, .one (.d (.int .i64 x2)))]) (fun x1 x2 => [(207, .arr 3 1 (List.map irow x1))]) [207])); exact rfl; exact rfl; (focus (refine ⟨?_, ?_⟩; rotate_left 1; (focus (repeat' (first | exact .nil | refine .cons ?_ ?_ | exact .d rfl | exact .virt rfl | refine .blk rfl ?_))); (focus (repeat' (first | exact .nil | refine .cons ?_ ?_ | exact SVle_pl rfl | refine .one ?_ | exact .ref rfl rfl | exact .nils rfl))))); (exact hP); clear hP; intro I μ x1 x2 hP)
    | ((with_reducible apply (v_nxt2 (a1 := _) (a2 := _))); rotate_left 1; (focus (repeat' (first | exact .nil | refine .cons ?_ ?_ | exact .d rfl | refine .blk rfl ?_ | exact .arr rfl (by first | rfl | assumption | simp)))); rotate_right 1; (focus (repeat' (first | exact .nil | refine .cons ?_ ?_ | exact SVle_pl rfl | refine .one ?_ | exact .ref rfl rfl | exact .sl rfl (by first | rfl | exact List.length_set.symm | exact (splT_len (by simp only [List.length_take, List.length_drop]; omega)).symm | omega | (rw [List.length_append, List.length_map]; show _ + 1 = _; omega) | simp)))); (exact hP))
    | ((with_reducible apply v_gs); exact rfl; exact rfl; (exact hP); all_goals (clear hP; intro hg hP))
    | ((with_reducible apply v_if); exact rfl; (exact hP); all_goals (clear hP; intro hc hP)))
theorem rDirect_ic (d : Dir) (g t : Int) : ICt 50 [d.v, iv g, iv t] (fun v => v = lv (dirS d g t)) := (rDirect_V d g t _).2 (by
  (delta rDirect_V; dsimp only [mkV])
  (repeat' (first | with_reducible refine brn_nd (fun h => ?_) (fun h => ?_) | with_reducible refine brn_d (fun h => ?_) (fun h => ?_) | with_reducible refine brn_nn (fun h => ?_) (fun h => ?_) | with_reducible refine brn_nb (fun h => ?_) (fun h => ?_) | with_reducible refine Brn.mk (fun h => ?_) (fun h => ?_) | with_reducible refine Chk.mk ?_ ?_ | with_reducible refine Bth.mk ?_ ?_ | with_reducible refine Fct.mk (fun hf => ?_)))
  · rw [dirS, if_neg (by simp_all)]; rfl
  · rw [dirS, if_neg (by simp_all)]; rfl
  have hd := (dirB_iff.1 (by assumption : dirB d = true)).1
  refine upSel (fun p => d.edge t p g) (by omega) (fun I μ o z h0 h1 hl a b => ?_) (fun I μ => ?_)
  · (repeat' (first | with_reducible refine brn_nd (fun h => ?_) (fun h => ?_) | with_reducible refine brn_d (fun h => ?_) (fun h => ?_) | with_reducible refine brn_nn (fun h => ?_) (fun h => ?_) | with_reducible refine brn_nb (fun h => ?_) (fun h => ?_) | with_reducible refine Brn.mk (fun h => ?_) (fun h => ?_) | with_reducible refine Chk.mk ?_ ?_ | with_reducible refine Bth.mk ?_ ?_ | with_reducible refine Fct.mk (fun hf => ?_)))
    all_goals (first | omega | (simp; omega) | skip)
    · exact a (by assumption)
    · exact b (by assumption)
  · rw [dirS, if_pos (by simp_all)])
noncomputable def rCheck_V (d : Dir) (Q : SV → Prop) : Σ' P : Prop, (P → ICt 49 [.agg (List.map .d (Dir.row d))] Q) := by
  apply mkV; intro hP
  refine ic_wk (K 6) Try.func49 rfl rfl rfl rfl (fun w0 => ?_)
  repeat' (first
    | (with_reducible (first | apply c_seq | apply c_rg | apply j_nil | apply q_n | apply c_ret | apply c_sk | apply q_r))
    | ((with_reducible apply j_v); exact rfl; exact rfl)
    | ((with_reducible apply j_h); exact rfl; exact rfl)
    | ((with_reducible apply r_g); exact rfl; (· repeat' (first | exact True.intro | refine And.intro ?_ ?_)); (exact hP.out))
    | ((with_reducible apply j_call (pu := false)); exact rfl; (apply (rValid_ic _); rotate_left 1); (focus ((repeat' (first | exact .nil _ | refine PsL.cons ?_ ?_ | refine PsSL.cons ?_ ?_ | refine .agg ?_ | exact .d _ _)) <;> fail)); exact .inr rfl)
    | ((with_reducible apply v_if); exact rfl; (exact hP); all_goals (clear hP; intro hc hP)))
theorem rCheck_ic (d : Dir) : ICt 49 [d.v] (fun v => v = iv (if dirB d = true then 0 else 30)) := (rCheck_V d _).2 (by
  (delta rCheck_V; dsimp only [mkV])
  (repeat' (first | with_reducible refine brn_nd (fun h => ?_) (fun h => ?_) | with_reducible refine brn_d (fun h => ?_) (fun h => ?_) | with_reducible refine brn_nn (fun h => ?_) (fun h => ?_) | with_reducible refine brn_nb (fun h => ?_) (fun h => ?_) | with_reducible refine Brn.mk (fun h => ?_) (fun h => ?_) | with_reducible refine Chk.mk ?_ ?_ | with_reducible refine Bth.mk ?_ ?_ | with_reducible refine Fct.mk (fun hf => ?_)))
  all_goals simp [*])
noncomputable def rAsc_V (l : List Int) (n : Int) (Q : SV → Prop) : Σ' P : Prop, (P → ICt 91 [.one (.d (.list (List.map irow l))), .one (.d (.int .i64 n))] Q) := by
  apply mkV; intro hP
  refine ic_wk (K 33) Try.func91 rfl rfl rfl rfl (fun w0 => ?_)
  apply (v_kint (x := 1)); exact rfl; exact hP; clear hP; intro hP
  repeat' (first
    | ((fail_if_success (have hTest : Hld False := hP)); (have hq := chk_c hP); (replace hP := chk_p hP))
    | (with_reducible (first | apply c_seq | apply c_rg | apply j_nil | apply q_n | apply g_tt | apply g_ff | apply c_ct | apply c_cf | apply c_bl | apply c_ex | apply c_ret | apply c_sk | apply q_r | apply q_e | apply b_r | apply b_e | apply b_n | apply n_n | apply n_r | apply n_e))
    | ((with_reducible apply c_l1); exact rfl; exact rfl)
    | ((with_reducible apply j_v); exact rfl; exact rfl)
    | ((with_reducible apply j_g); exact rfl; exact rfl; (first | with_reducible assumption))
    | ((with_reducible apply g_tf); exact rfl)
    | ((with_reducible apply g_ft); exact rfl)
    | ((with_reducible apply j_gz); exact rfl; exact rfl; exact rfl)
    | ((with_reducible apply v_lenm); exact rfl; exact rfl; exact rfl; (exact hP); clear hP; intro hP)
    | ((with_reducible apply j_pk); exact rfl; exact rfl; (first | with_reducible assumption); exact rfl)
    | ((with_reducible apply j_add); exact rfl; exact rfl; exact rfl; (with_reducible apply wr_i64; (apply chk_c; exact hP; (first | skip))))
    | ((with_reducible apply j_sub); exact rfl; exact rfl; exact rfl; (with_reducible apply wr_i64; (apply chk_c; exact hP; (first | skip))))
    | ((with_reducible apply v_ia); exact rfl; exact rfl; exact rfl; exact rfl; (case inst => exact inferInstance); exact rfl; exact rfl; (apply chk_c; exact hP; (first | skip)))
    | ((with_reducible apply c_c); exact rfl; (first | with_reducible exact Eq.refl true | with_reducible exact Eq.refl false))
    | ((with_reducible apply r_g); exact rfl; (· repeat' (first | exact True.intro | refine And.intro ?_ ?_)); (exact hP.out))
    | ((with_reducible apply j_call (pu := false)); exact rfl; (apply (rin_ic _ _ _); rotate_left 3); (focus ((repeat' (first | exact .nil _ | refine PsSL.cons ?_ ?_ | exact .one (.d _ _))) <;> fail)); exact .inr rfl)
    | ((with_reducible refine v_loopat (c := (.seq (.region 2 _ _) _)) ?_); (apply (v_loop1 _ [0, 1, 7, 8] [] (fun x1 => [(9, .one (.d (.int .i64 x1)))]) (fun x1 => []) [])); exact rfl; exact rfl; exact ⟨(by repeat' (first | exact .nil | refine .cons ?_ ?_ | exact SVle_pl rfl)), (by repeat' (first | exact .nil))⟩; (exact hP); clear hP; intro I μ x1 hP)
    | ((with_reducible apply (v_nxt1 (a1 := _))); (repeat' (first | exact .nil | refine .cons ?_ ?_ | exact SVle_pl rfl)); (repeat' (first | exact .nil | exact .nil _ | refine .cons ?_ ?_ | exact .u _ | exact SVle_pl rfl | refine .one ?_ | refine .agg ?_ | exact .d rfl | exact .ref rfl rfl | exact .sl rfl (by first | rfl | exact List.length_set.symm | exact (splT_len (by simp only [List.length_take, List.length_drop]; omega)).symm | omega | (rw [List.length_append, List.length_map]; show _ + 1 = _; omega) | simp) | exact .fn _ | exact .tape | exact .nils rfl | exact .nild | exact .nildm | exact .nil | exact .rp (by simp) | exact .clo (by simp) | exact .el rfl rfl rfl | exact .d (by first | rfl | (congr 1; omega) | (congr 1; assumption) | simp) | exact .virt rfl | exact .gone _ | refine .blk rfl ?_ | exact .arr rfl (by first | rfl | assumption | simp))); (exact hP))
    | ((with_reducible apply v_gs); exact rfl; exact rfl; (exact hP); all_goals (clear hP; intro hg hP))
    | ((with_reducible apply v_if); exact rfl; (exact hP); all_goals (clear hP; intro hc hP)))
theorem rAsc_ic (l : List Int) (n : Int) : ICp (0 ≤ n) 91 [lv l, iv n] (fun v => v = bv (pB (AscP l ∧ ∀ x ∈ l, 0 ≤ x ∧ x < n))) := fun hn => (rAsc_V l n _).2 (by
  (delta rAsc_V; dsimp only [mkV])
  (repeat' (first | with_reducible refine brn_nd (fun h => ?_) (fun h => ?_) | with_reducible refine brn_d (fun h => ?_) (fun h => ?_) | with_reducible refine brn_nn (fun h => ?_) (fun h => ?_) | with_reducible refine brn_nb (fun h => ?_) (fun h => ?_) | with_reducible refine Brn.mk (fun h => ?_) (fun h => ?_) | with_reducible refine Chk.mk ?_ ?_ | with_reducible refine Bth.mk ?_ ?_ | with_reducible refine Fct.mk (fun hf => ?_)))
  refine up1 (fun z => (∀ i : Nat, (i : Int) + 1 < z → gt l (i : Int) < gt l ((i : Int) + 1)) ∧ ∀ i : Nat, (i : Int) < z → 0 ≤ gt l (i : Int) ∧ gt l (i : Int) < n) (by omega) ⟨fun i hi => by omega, fun i hi => by omega⟩ ?_ ?_
  · rintro I μ z h0 h1 ⟨j1, j2⟩ nx
    have hnx : (0 ≤ gt l z ∧ gt l z ≤ n - 1) → (0 < z → gt l (z - 1) < gt l z) → I (z + 1) ∧ μ (z + 1) < μ z := fun a b => by
      refine nx ⟨fun i hi => ?_, fun i hi => ?_⟩
      · by_cases e : (i : Int) + 1 < z
        · exact j1 i e
        · have := b (by omega)
          rw [show (i : Int) = z - 1 by omega, show z - 1 + 1 = z by omega]; exact this
      · by_cases e : (i : Int) < z
        · exact j2 i e
        · rw [show (i : Int) = z by omega]; omega
    (repeat' (first | with_reducible refine brn_nd (fun h => ?_) (fun h => ?_) | with_reducible refine brn_d (fun h => ?_) (fun h => ?_) | with_reducible refine brn_nn (fun h => ?_) (fun h => ?_) | with_reducible refine brn_nb (fun h => ?_) (fun h => ?_) | with_reducible refine Brn.mk (fun h => ?_) (fun h => ?_) | with_reducible refine Chk.mk ?_ ?_ | with_reducible refine Bth.mk ?_ ?_ | with_reducible refine Fct.mk (fun hf => ?_)))
    · omega
    · omega
    · refine pB_f fun hh => ?_
      have h3 := hh.2 _ (gt_mem h0 h1)
      have h4 := (inB_not _ _ _).1 (by assumption)
      omega
    all_goals (have h5 := (inB_iff _ _ _).1 (by assumption))
    · omega
    · omega
    · refine pB_f fun hh => ?_
      have := hh.1 (z - 1).toNat (by omega)
      rw [show (((z - 1).toNat : Nat) : Int) = z - 1 by omega, show z - 1 + 1 = z by omega] at this
      omega
    · omega
    · exact hnx h5 fun h => by omega
    · omega
    · exact hnx h5 fun h => by omega
  · rintro I μ ⟨j1, j2⟩
    refine pB_t ⟨fun i hi => j1 i (by omega), fun x hx => ?_⟩
    obtain ⟨i, hi, rfl⟩ := mem_gt hx
    exact j2 i (by omega))
noncomputable def rProves_V (d : Dir) (t : Int) (c : List Int) (Q : SV → Prop) : Σ' P : Prop, (P → ICt 55 [.agg (List.map .d (Dir.row d)), .one (.d (.int .i64 t)), .one (.d (.list (List.map irow c)))] Q) := by
  apply mkV; intro hP
  refine ic_wk (K 60) Try.func55 rfl rfl rfl rfl (fun w0 => ?_)
  apply (v_kint (x := 1)); exact rfl; exact hP; clear hP; intro hP
  repeat' (first
    | ((fail_if_success (have hTest : Hld False := hP)); (have hq := chk_c hP); (replace hP := chk_p hP))
    | (with_reducible (first | apply c_seq | apply c_rg | apply j_nil | apply q_n | apply g_ff | apply c_ct | apply c_cf | apply c_bl | apply c_ex | apply c_ret | apply c_sk | apply q_r | apply q_e | apply b_r | apply b_e | apply b_n | apply n_n | apply n_r | apply n_e))
    | ((with_reducible apply c_l1); exact rfl; exact rfl)
    | ((with_reducible apply j_v); exact rfl; exact rfl)
    | ((with_reducible apply j_h); exact rfl; exact rfl)
    | ((with_reducible apply j_g); exact rfl; exact rfl; (first | with_reducible assumption | with_reducible exact Eq.refl true))
    | ((with_reducible apply g_tf); exact rfl)
    | ((with_reducible apply v_lenm); exact rfl; exact rfl; exact rfl; (exact hP); clear hP; intro hP)
    | ((with_reducible apply j_pk); exact rfl; exact rfl; (first | with_reducible assumption | with_reducible exact Eq.refl true); exact rfl)
    | ((with_reducible apply j_add); exact rfl; exact rfl; exact rfl; (with_reducible apply wr_i64; (apply chk_c; exact hP; (first | skip))))
    | ((with_reducible apply v_ia); exact rfl; exact rfl; exact rfl; exact rfl; (case inst => exact inferInstance); exact rfl; exact rfl; (apply chk_c; exact hP; (first | skip)))
    | ((with_reducible apply c_c); exact rfl; (first | with_reducible exact Eq.refl true | with_reducible exact Eq.refl false))
    | ((with_reducible apply r_g); exact rfl; (· repeat' (first | exact True.intro | refine And.intro ?_ ?_)); (exact hP.out))
    | ((with_reducible apply j_call (pu := false)); exact rfl; (apply (rValid_ic _); rotate_left 1); (focus ((repeat' (first | exact .nil _ | refine PsL.cons ?_ ?_ | refine PsSL.cons ?_ ?_ | refine .agg ?_ | exact .d _ _)) <;> fail)); exact .inr rfl)
    | ((with_reducible refine v_loopat (c := (.seq (.region 4 _ _) _)) ?_); (apply (v_loop1 _ [1, 2, 3, 25, 26] [3] (fun x1 => [(27, .one (.d (.int .i64 x1)))]) (fun x1 => []) [])); exact rfl; exact rfl; exact ⟨(by repeat' (first | exact .nil | refine .cons ?_ ?_ | exact SVle_pl rfl | refine .one ?_ | exact .ref rfl rfl)), (by repeat' (first | exact .nil | refine .cons ?_ ?_ | exact .d rfl | refine .blk rfl ?_))⟩; (exact hP); clear hP; intro I μ x1 hP)
    | ((with_reducible apply (v_nxt1 (a1 := _))); (repeat' (first | exact .nil | refine .cons ?_ ?_ | exact SVle_pl rfl | refine .one ?_ | exact .d rfl | exact .ref rfl rfl | refine .blk rfl ?_)); (repeat' (first | exact .nil | exact .nil _ | refine .cons ?_ ?_ | exact .u _ | exact SVle_pl rfl | refine .one ?_ | refine .agg ?_ | exact .d rfl | exact .ref rfl rfl | exact .sl rfl (by first | rfl | exact List.length_set.symm | exact (splT_len (by simp only [List.length_take, List.length_drop]; omega)).symm | omega | (rw [List.length_append, List.length_map]; show _ + 1 = _; omega) | simp) | exact .fn _ | exact .tape | exact .nils rfl | exact .nild | exact .nildm | exact .nil | exact .rp (by simp) | exact .clo (by simp) | exact .el rfl rfl rfl | exact .d (by first | rfl | (congr 1; omega) | (congr 1; assumption) | simp) | exact .virt rfl | exact .gone _ | refine .blk rfl ?_ | exact .arr rfl (by first | rfl | assumption | simp))); (exact hP))
    | ((with_reducible refine v_rgat (i := 6) ?_); (refine n_start (by kernel_rfl) ?_; (refine n_quiet none #[true, true, true, true, true, true, true, true, true, true, true, true, true, true, true, true, true, true, true, true, true, true, true, true, true, true, true] [0, 1, 2, 3, 4, 5, 6, 7, 8, 9, 10, 11, 12, 13, 14, 15, 16, 17, 18, 19, 20, 21, 22, 23, 24, 25, 26] 0 rfl ?_; (repeat' (first | ((fail_if_success (have hTest : Hld False := hP)); (have hq := chk_c hP); (replace hP := chk_p hP)) | ((with_reducible apply (d_e (some []))); exact rfl; exact rfl; kernel_rfl; kernel_rfl; exact rfl; exact rfl; (first | ((with_reducible apply e_v); exact rfl) | ((with_reducible apply e_pk); exact rfl; (first | with_reducible assumption | with_reducible exact Eq.refl true); exact rfl) | ((with_reducible apply e_call (pu := false)); exact rfl; apply (rExists_ic _ _); rotate_left 2; (focus ((repeat' (first | exact .nil _ | refine PsL.cons ?_ ?_ | refine PsSL.cons ?_ ?_ | exact .one (.d _ _) | refine .agg ?_ | exact .d _ _)) <;> fail)); exact .inr rfl))) | ((with_reducible apply (d_ey (some []))); exact rfl; exact rfl; exact rfl; (first | with_reducible assumption); exact rfl; kernel_rfl; kernel_rfl; exact rfl; exact rfl; (first | ((with_reducible apply e_v); exact rfl) | ((with_reducible apply e_pk); exact rfl; (first | with_reducible assumption); exact rfl) | ((with_reducible apply e_sub); exact rfl; exact rfl; (with_reducible apply wr_i64; (apply chk_c; exact hP; (first | skip)))) | ((with_reducible apply f_ia); exact rfl; exact rfl; exact rfl; (case inst => exact inferInstance); exact rfl; exact rfl; (apply chk_c; exact hP; (first | skip))) | ((with_reducible apply f_sh); exact rfl; exact rfl; exact rfl; exact (fun _ => rfl); (apply chk_c; exact hP; (first | skip))) | ((with_reducible apply e_call (pu := false)); exact rfl; apply (rHas_ic _ _); rotate_left 2; (focus ((repeat' (first | exact .nil _ | refine PsSL.cons ?_ ?_ | exact .one (.d _ _))) <;> fail)); exact .inr rfl) | ((with_reducible apply e_call (pu := false)); exact rfl; apply (rdirect_ic _ _ _ _); rotate_left 4; (focus ((repeat' (first | exact .nil _ | refine PsL.cons ?_ ?_ | refine PsSL.cons ?_ ?_ | exact .one (.d _ _) | refine .agg ?_ | exact .d _ _)) <;> fail)); exact .inr rfl))) | ((with_reducible apply d_gn); exact rfl; exact rfl; exact rfl; (first | with_reducible assumption); exact rfl; kernel_rfl; kernel_rfl; exact rfl; exact rfl) | ((with_reducible apply d_gm); exact rfl; exact rfl; exact rfl; (first | with_reducible assumption | with_reducible rfl); exact rfl; kernel_rfl; kernel_rfl; exact rfl; exact rfl) | ((with_reducible apply d_gz); exact rfl; exact rfl; exact rfl; exact rfl; kernel_rfl; kernel_rfl; exact rfl; exact rfl) | ((with_reducible apply v_dgs); exact rfl; exact rfl; exact rfl; ((repeat ((fail_if_success (have hTest : Hld False := hP)); (have hq := chk_c hP); (replace hP := chk_p hP))); exact hP); all_goals (clear hP; intro hg hP)) | ((with_reducible apply d_leaf); exact (by decide +kernel)))); all_goals ((with_reducible apply n_doneZ); exact rfl; exact (by decide +kernel)))))
    | ((with_reducible apply v_gs); exact rfl; exact rfl; (exact hP); all_goals (clear hP; intro hg hP))
    | ((with_reducible apply v_if); exact rfl; (exact hP); all_goals (clear hP; intro hc hP)))
theorem rProves_ic (d : Dir) (t : Int) (c : List Int) : ICt 55 [d.v, iv t, lv c] (fun v => v = bv (pB (PrvP d t c))) := (rProves_V d t c _).2 (by
  (delta rProves_V; dsimp only [mkV])
  (repeat' (first | with_reducible refine brn_nd (fun h => ?_) (fun h => ?_) | with_reducible refine brn_d (fun h => ?_) (fun h => ?_) | with_reducible refine brn_nn (fun h => ?_) (fun h => ?_) | with_reducible refine brn_nb (fun h => ?_) (fun h => ?_) | with_reducible refine Brn.mk (fun h => ?_) (fun h => ?_) | with_reducible refine Chk.mk ?_ ?_ | with_reducible refine Bth.mk ?_ ?_ | with_reducible refine Fct.mk (fun hf => ?_)))
  · exact pB_f fun hh => by have := hh.1; simp_all
  · exact pB_f fun hh => by have := hh.2.1; omega
  · refine pB_f fun hh => ?_
    have := pig d.kinds.length c hh.2.2.2.1 fun x hx => ex_iff.1 (hh.2.2.1 x hx)
    omega
  have hd : dirB d = true := by assumption
  refine up1 (fun z => (∀ i : Nat, (i : Int) < z → d.ex (gt c (i : Int)) = true) ∧ (c.take z.toNat).Nodup ∧ ∀ i : Nat, (i : Int) + 1 < z → d.edge t (gt c (i : Int)) (gt c ((i : Int) + 1)) = true) (by omega) ⟨fun i hi => by omega, by simp, fun i hi => by omega⟩ ?_ ?_
  · rintro I μ z h0 h1 ⟨j1, j2, j3⟩ nx
    have hnx : d.ex (gt c z) = true → hasB (c.take z.toNat) (gt c z) = false → (0 < z → d.edge t (gt c (z - 1)) (gt c z) = true) → I (z + 1) ∧ μ (z + 1) < μ z := fun a1 a2 a3 => by
      refine nx ⟨fun i hi => ?_, ?_, fun i hi => ?_⟩
      · by_cases e : (i : Int) < z
        · exact j1 i e
        · rw [show (i : Int) = z by omega]; exact a1
      · rw [show (z + 1).toNat = z.toNat + 1 by omega, take_snoc (by omega), show ((z.toNat : Nat) : Int) = z by omega]
        refine List.nodup_append.2 ⟨j2, by simp, fun a ha b hb => ?_⟩
        simp at hb
        subst hb
        intro e
        subst e
        exact of_decide_eq_false a2 ha
      · by_cases e : (i : Int) + 1 < z
        · exact j3 i e
        · have := a3 (by omega)
          rw [show (i : Int) = z - 1 by omega, show z - 1 + 1 = z by omega]; exact this
    (repeat' (first | with_reducible refine brn_nd (fun h => ?_) (fun h => ?_) | with_reducible refine brn_d (fun h => ?_) (fun h => ?_) | with_reducible refine brn_nn (fun h => ?_) (fun h => ?_) | with_reducible refine brn_nb (fun h => ?_) (fun h => ?_) | with_reducible refine Brn.mk (fun h => ?_) (fun h => ?_) | with_reducible refine Chk.mk ?_ ?_ | with_reducible refine Bth.mk ?_ ?_ | with_reducible refine Fct.mk (fun hf => ?_)))
    · omega
    · refine pB_f fun hh => ?_
      have := hh.2.2.1 _ (gt_mem h0 h1)
      simp_all
    · omega
    · refine pB_f fun hh => ?_
      have h5 : hasB (c.take z.toNat) (gt c z) = true := by assumption
      have h6 := of_decide_eq_true h5
      have h7 := hh.2.2.2.1
      have h8 := h7.sublist (List.take_sublist (z.toNat + 1) c)
      rw [take_snoc (by omega), show ((z.toNat : Nat) : Int) = z by omega] at h8
      exact (List.nodup_append.1 h8).2.2 _ h6 _ (by simp) rfl
    · omega
    · omega
    · refine pB_f fun hh => ?_
      have h6 := hh.2.2.2.2 (z - 1).toNat (by omega)
      rw [show (((z - 1).toNat : Nat) : Int) = z - 1 by omega, show z - 1 + 1 = z by omega] at h6
      rw [(by assumption : d.edge t (gt c (z - 1)) (gt c z) = false)] at h6
      cases h6
    · omega
    · exact hnx (by assumption) (by assumption) fun h => by assumption
    · omega
    · exact hnx (by assumption) (by assumption) fun h => by omega
  · rintro I μ ⟨j1, j2, j3⟩
    rw [List.take_of_length_le (by omega)] at j2
    refine pB_t ⟨hd, by omega, fun x hx => ?_, j2, fun i hi => j3 i (by omega)⟩
    obtain ⟨i, hi, rfl⟩ := mem_gt hx
    exact j1 i (by omega))
noncomputable def rClosed_V (d : Dir) (t : Int) (set : List Int) (Q : SV → Prop) : Σ' P : Prop, (P → ICt 56 [.agg (List.map .d (Dir.row d)), .one (.d (.int .i64 t)), .one (.d (.list (List.map irow set)))] Q) := by
  apply mkV; intro hP
  refine ic_wk (K 46) Try.func56 rfl rfl rfl rfl (fun w0 => ?_)
  apply (v_kint (x := 1)); exact rfl; exact hP; clear hP; intro hP
  repeat' (first
    | ((fail_if_success (have hTest : Hld False := hP)); (have hq := chk_c hP); (replace hP := chk_p hP))
    | (with_reducible (first | apply c_seq | apply c_rg | apply j_nil | apply q_n | apply g_tt | apply g_ff | apply c_ct | apply c_cf | apply c_bl | apply c_ex | apply c_ret | apply c_sk | apply q_r | apply q_e | apply b_r | apply b_e | apply b_n | apply n_n | apply n_r | apply n_e))
    | ((with_reducible apply c_l1); exact rfl; exact rfl)
    | ((with_reducible apply j_v); exact rfl; exact rfl)
    | ((with_reducible apply j_h); exact rfl; exact rfl)
    | ((with_reducible apply j_g); exact rfl; exact rfl; (first | with_reducible assumption))
    | ((with_reducible apply g_tf); exact rfl)
    | ((with_reducible apply g_ft); exact rfl)
    | ((with_reducible apply v_lenm); exact rfl; exact rfl; exact rfl; (exact hP); clear hP; intro hP)
    | ((with_reducible apply j_pk); exact rfl; exact rfl; (first | with_reducible assumption); exact rfl)
    | ((with_reducible apply j_add); exact rfl; exact rfl; exact rfl; (with_reducible apply wr_i64; (apply chk_c; exact hP; (first | skip))))
    | ((with_reducible apply v_ia); exact rfl; exact rfl; exact rfl; exact rfl; (case inst => exact inferInstance); exact rfl; exact rfl; (apply chk_c; exact hP; (first | skip)))
    | ((with_reducible apply c_c); exact rfl; (first | with_reducible exact Eq.refl true | with_reducible exact Eq.refl false))
    | ((with_reducible apply r_g); exact rfl; (· repeat' (first | exact True.intro | refine And.intro ?_ ?_)); (exact hP.out))
    | ((with_reducible apply j_call (pu := false)); exact rfl; (first | (apply (rHas_ic _ _); rotate_left 2) | (apply (rValid_ic _); rotate_left 1) | (apply (rdirect_ic _ _ _ _); rotate_left 4)); (focus ((repeat' (first | exact .nil _ | refine PsL.cons ?_ ?_ | refine PsSL.cons ?_ ?_ | exact .one (.d _ _) | refine .agg ?_ | exact .d _ _)) <;> fail)); exact .inr rfl)
    | ((with_reducible apply v_call (pu := false)); exact rfl; exact ⟨rfl, rfl⟩; (apply (rAsc_ic _ _); rotate_left 2); (focus ((repeat' (first | exact .nil _ | refine PsSL.cons ?_ ?_ | exact .one (.d _ _))) <;> fail)); exact .inr rfl; (apply chk_c; exact hP; (first | skip)))
    | ((with_reducible refine v_loopat (c := (.seq (.region 4 _ _) _)) ?_); (apply (v_loop1 _ [1, 2, 3, 21, 22] [3] (fun x1 => [(23, .one (.d (.int .i64 x1)))]) (fun x1 => []) [])); exact rfl; exact rfl; exact ⟨(by repeat' (first | exact .nil | refine .cons ?_ ?_ | exact SVle_pl rfl | refine .one ?_ | exact .ref rfl rfl)), (by repeat' (first | exact .nil | refine .cons ?_ ?_ | exact .d rfl | refine .blk rfl ?_))⟩; (exact hP); clear hP; intro I μ x1 hP)
    | ((with_reducible apply (v_nxt1 (a1 := _))); (repeat' (first | exact .nil | refine .cons ?_ ?_ | exact SVle_pl rfl | refine .one ?_ | exact .d rfl | exact .ref rfl rfl | refine .blk rfl ?_)); (repeat' (first | exact .nil | exact .nil _ | refine .cons ?_ ?_ | exact .u _ | exact SVle_pl rfl | refine .one ?_ | refine .agg ?_ | exact .d rfl | exact .ref rfl rfl | exact .sl rfl (by first | rfl | exact List.length_set.symm | exact (splT_len (by simp only [List.length_take, List.length_drop]; omega)).symm | omega | (rw [List.length_append, List.length_map]; show _ + 1 = _; omega) | simp) | exact .fn _ | exact .tape | exact .nils rfl | exact .nild | exact .nildm | exact .nil | exact .rp (by simp) | exact .clo (by simp) | exact .el rfl rfl rfl | exact .d (by first | rfl | (congr 1; omega) | (congr 1; assumption) | simp) | exact .virt rfl | exact .gone _ | refine .blk rfl ?_ | exact .arr rfl (by first | rfl | assumption | simp))); (exact hP))
    | ((with_reducible refine v_loopat (c := (.seq (.region 7 _ _) _)) ?_); (apply (v_loop1 _ [1, 2, 3, 8, 21, 22, 23, 29] [3] (fun x1 => [(30, .one (.d (.int .i64 x1)))]) (fun x1 => []) [])); exact rfl; exact rfl; exact ⟨(by repeat' (first | exact .nil | refine .cons ?_ ?_ | exact SVle_pl rfl | refine .one ?_ | exact .ref rfl rfl)), (by repeat' (first | exact .nil | refine .cons ?_ ?_ | exact .d rfl | refine .blk rfl ?_))⟩; (exact hP); clear hP; intro I μ x1 hP)
    | ((with_reducible apply v_gs); exact rfl; exact rfl; (exact hP); all_goals (clear hP; intro hg hP))
    | ((with_reducible apply v_if); exact rfl; (exact hP); all_goals (clear hP; intro hc hP)))
theorem rClosed_ic (d : Dir) (t : Int) (s : List Int) : ICt 56 [d.v, iv t, lv s] (fun v => v = bv (pB (ClsP d t s))) := (rClosed_V d t s _).2 (by
  (delta rClosed_V; dsimp only [mkV])
  (repeat' (first | with_reducible refine brn_nd (fun h => ?_) (fun h => ?_) | with_reducible refine brn_d (fun h => ?_) (fun h => ?_) | with_reducible refine brn_nn (fun h => ?_) (fun h => ?_) | with_reducible refine brn_nb (fun h => ?_) (fun h => ?_) | with_reducible refine Brn.mk (fun h => ?_) (fun h => ?_) | with_reducible refine Chk.mk ?_ ?_ | with_reducible refine Bth.mk ?_ ?_ | with_reducible refine Fct.mk (fun hf => ?_)))
  · exact pB_f fun hh => by have := hh.1; simp_all
  · omega
  · refine pB_f fun hh => pB_no (by assumption : pB (AscP s ∧ ∀ x : Int, x ∈ s → 0 ≤ x ∧ x < (d.kinds.length : Int)) = false) ⟨hh.2.1, fun x hx => ex_iff.1 (hh.2.2.1 x hx)⟩
  have hd : dirB d = true := by assumption
  have ha := pB_iff.1 (by assumption : pB (AscP s ∧ ∀ x : Int, x ∈ s → 0 ≤ x ∧ x < (d.kinds.length : Int)) = true)
  refine up1 (fun z => ∀ i : Nat, (i : Int) < z → ∀ g : Int, 0 ≤ g → g < (d.kinds.length : Int) → d.edge t (gt s (i : Int)) g = true → g ∈ s) (by omega) (fun i hi => by omega) ?_ ?_
  · rintro I μ z h0 h1 hj nx
    (repeat' (first | with_reducible refine brn_nd (fun h => ?_) (fun h => ?_) | with_reducible refine brn_d (fun h => ?_) (fun h => ?_) | with_reducible refine brn_nn (fun h => ?_) (fun h => ?_) | with_reducible refine brn_nb (fun h => ?_) (fun h => ?_) | with_reducible refine Brn.mk (fun h => ?_) (fun h => ?_) | with_reducible refine Chk.mk ?_ ?_ | with_reducible refine Bth.mk ?_ ?_ | with_reducible refine Fct.mk (fun hf => ?_)))
    · omega
    refine up1 (fun y => ∀ g : Int, 0 ≤ g → g < y → d.edge t (gt s z) g = true → g ∈ s) (by omega) (fun g g0 g1 => by omega) ?_ ?_
    · rintro I1 μ1 y y0 y1 hk nx1
      have keep : (d.edge t (gt s z) y = true → y ∈ s) → I1 (y + 1) ∧ μ1 (y + 1) < μ1 y := fun hy => nx1 fun g g0 g1 he => by
        by_cases e : g = y
        · subst e; exact hy he
        · exact hk g g0 (by omega) he
      (repeat' (first | with_reducible refine brn_nd (fun h => ?_) (fun h => ?_) | with_reducible refine brn_d (fun h => ?_) (fun h => ?_) | with_reducible refine brn_nn (fun h => ?_) (fun h => ?_) | with_reducible refine brn_nb (fun h => ?_) (fun h => ?_) | with_reducible refine Brn.mk (fun h => ?_) (fun h => ?_) | with_reducible refine Chk.mk ?_ ?_ | with_reducible refine Bth.mk ?_ ?_ | with_reducible refine Fct.mk (fun hf => ?_)))
      · refine pB_f fun hh => hasB_no.1 (by assumption) (hh.2.2.2 _ (gt_mem h0 h1) y y0 y1 (by assumption))
      · omega
      · exact keep fun _ => hasB_iff.1 (by assumption)
      · omega
      · exact keep fun h => by rw [(by assumption : d.edge t (gt s z) y = false)] at h; cases h
    · rintro I1 μ1 hk
      (repeat' (first | with_reducible refine brn_nd (fun h => ?_) (fun h => ?_) | with_reducible refine brn_d (fun h => ?_) (fun h => ?_) | with_reducible refine brn_nn (fun h => ?_) (fun h => ?_) | with_reducible refine brn_nb (fun h => ?_) (fun h => ?_) | with_reducible refine Brn.mk (fun h => ?_) (fun h => ?_) | with_reducible refine Chk.mk ?_ ?_ | with_reducible refine Bth.mk ?_ ?_ | with_reducible refine Fct.mk (fun hf => ?_)))
      · omega
      · refine nx fun i hi g g0 g1 he => ?_
        by_cases e : (i : Int) < z
        · exact hj i e g g0 g1 he
        · rw [show (i : Int) = z by omega] at he; exact hk g g0 g1 he
  · rintro I μ hj
    refine pB_t ⟨hd, ha.1, fun p hp => ex_iff.2 (ha.2 p hp), fun p hp g g0 g1 he => ?_⟩
    obtain ⟨i, hi, rfl⟩ := mem_gt hp
    exact hj i (by omega) g g0 g1 he)
end Go.Proofs.Ytoflahjlnbligaa
