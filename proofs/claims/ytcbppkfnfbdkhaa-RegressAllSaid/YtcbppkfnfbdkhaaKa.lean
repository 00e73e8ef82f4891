/- Findings in order, as the reference says. -/
import Derived.Test.YtcbppkfnfbdkhaaJs
set_option linter.all false
set_option maxRecDepth 20000
set_option maxHeartbeats 4000000
namespace Go.Proofs.Ytcbppkfnfbdkhaa
open Go.RowKit Go.Shelf
noncomputable def rlo_V (a b : List Lyr) (Q : SV → Prop) : Σ' P : Prop, (P → ICt 96 [.one (.d (.list (a.map Lyr.row))), .one (.d (.list (b.map Lyr.row)))] Q) := by
  apply mkV; intro hP
  refine ic_wk (K 87) Try.func96 rfl rfl rfl rfl (fun w0 => ?_)
  repeat' (first
    | ((fail_if_success (have hTest : Hld False := hP)); (have hq := chk_c hP); (replace hP := chk_p hP))
    | (with_reducible (first | apply c_seq | apply c_rg | apply j_nil | apply q_n | apply g_tt | apply c_cf | apply c_bl | apply c_ex | apply c_ret | apply c_sk | apply q_r | apply q_e | apply b_r | apply b_e | apply b_n | apply n_n | apply n_r | apply n_e))
    | ((with_reducible apply j_v); exact rfl; exact rfl)
    | ((with_reducible apply j_g); exact rfl; exact rfl; (first | with_reducible assumption))
    | ((with_reducible apply g_ft); exact rfl)
    | ((with_reducible apply v_lenm); exact rfl; exact rfl; exact rfl; (exact hP); clear hP; intro hP)
    | ((with_reducible apply j_pk); exact rfl; exact rfl; (first | with_reducible assumption); exact rfl)
    | ((with_reducible apply j_add); exact rfl; exact rfl; exact rfl; (with_reducible apply wr_i64; (first | with_reducible assumption | (apply chk_c; exact hP; (first | skip)))))
    | ((with_reducible apply c_c); exact rfl; (first | with_reducible exact Eq.refl false))
    | ((with_reducible apply r_g); exact rfl; (· repeat' (first | exact True.intro | refine And.intro ?_ ?_)); (exact hP.out))
    | ((with_reducible refine v_loopat (c := (.seq (.seq (.region 2 _ _) _) _)) ?_); (apply (v_loop1 _ [0, 1] [] (fun x1 => [(5, .one (.d (.int .i64 x1)))]) (fun x1 => []) [])); exact rfl; exact rfl; exact ⟨(by repeat' (first | exact .nil | refine .cons ?_ ?_ | exact SVle_pl rfl)), (by repeat' (first | exact .nil))⟩; (exact hP); clear hP; intro I μ x1 hP)
    | ((with_reducible apply (v_nxt1 (a1 := _))); (repeat' (first | exact .nil | refine .cons ?_ ?_ | exact SVle_pl rfl)); (repeat' (first | exact .nil | exact .nil _ | refine .cons ?_ ?_ | exact .u _ | exact SVle_pl rfl | refine .one ?_ | refine .agg ?_ | exact .d rfl | exact .ref rfl rfl | exact .sl rfl (by first | rfl | exact List.length_set.symm | exact (splT_len (by simp only [List.length_take, List.length_drop]; omega)).symm | omega | (rw [List.length_append, List.length_map]; show _ + 1 = _; omega) | simp) | exact .fn _ | exact .tape | exact .nils rfl | exact .nild | exact .nildm | exact .nil | exact .rp (by simp) | exact .clo (by simp) | exact .el rfl rfl rfl | exact .d (by first | rfl | (congr 1; omega) | (congr 1; assumption) | simp) | exact .virt rfl | exact .gone _ | refine .blk rfl ?_ | exact .arr rfl (by first | rfl | assumption | simp))); (exact hP))
    | ((with_reducible refine v_loopat (c := (.seq (.seq (.region 6 _ _) _) _)) ?_); (apply (v_loop1 _ [0, 1, 5, 6, 7] [36, 52] (fun x1 => [(8, .one (.d (.int .i64 x1)))]) (fun x1 => []) [])); exact rfl; exact rfl; exact ⟨(by repeat' (first | exact .nil | refine .cons ?_ ?_ | exact SVle_pl rfl)), (by repeat' (first | exact .nil))⟩; (exact hP); clear hP; intro I μ x1 hP)
    | ((with_reducible refine v_rgat (i := 4) ?_); (refine n_start (by kernel_rfl) ?_; (refine n_quiet none #[true, true, true, true, true, true, true, true, true, true, true, true, true, true, true, true, true, true, true, true, true, true, true, true, true, true, true, true, true, true, true, true, true, true] [0, 1, 2, 3, 4, 5, 6, 7, 8, 9, 10, 11, 12, 13, 14, 16, 17, 18, 19, 20, 21, 22, 23, 24, 25, 26, 27, 28, 29, 30, 15, 32, 31, 33] 0 rfl ?_; (repeat' (first | ((fail_if_success (have hTest : Hld False := hP)); (have hq := chk_c hP); (replace hP := chk_p hP)) | ((with_reducible apply (d_e (some []))); exact rfl; exact rfl; kernel_rfl; kernel_rfl; exact rfl; exact rfl; (first | ((with_reducible apply e_v); exact rfl) | ((with_reducible apply f_ia); exact rfl; exact rfl; exact rfl; (case inst => exact inferInstance); exact rfl; exact rfl; (first | with_reducible assumption | (apply chk_c; exact hP; (first | skip)))))) | ((with_reducible apply (v_dbsf (d := 36) (irow))); exact rfl; exact rfl; exact (by decide +kernel); exact rfl; exact rfl; exact rfl; exact rfl; exact rfl; exact rfl; exact rfl; exact rfl; exact rfl; exact (row_cons (irow_mk _) (row_cons (irow_mk _) (row_cons (irow_mk _) row_nil))); exact rfl) | ((with_reducible apply (v_dbsf (d := 52) (irow))); exact rfl; exact rfl; exact (by decide +kernel); exact rfl; exact rfl; exact rfl; exact rfl; exact rfl; exact rfl; exact rfl; exact rfl; exact rfl; exact (row_cons (irow_mk _) (row_cons (irow_mk _) (row_cons (irow_mk _) row_nil))); exact rfl) | (refine d_two 15 31 (by decide +kernel) ?_ ?_) | ((with_reducible apply (v_sbsf (d := 36) (irow) (i := 15) (l := [32, 31, 33]))); exact rfl; exact rfl; exact rfl; exact rfl; exact rfl; exact rfl; exact rfl; exact rfl; exact rfl; exact rfl; exact rfl; exact (row_cons (irow_mk _) (row_cons (irow_mk _) (row_cons (irow_mk _) row_nil))); exact rfl; exact rfl) | ((with_reducible apply (v_sbsf (d := 52) (irow) (i := 31) (l := [15, 32, 33]))); exact rfl; exact rfl; exact rfl; exact rfl; exact rfl; exact rfl; exact rfl; exact rfl; exact rfl; exact rfl; exact rfl; exact (row_cons (irow_mk _) (row_cons (irow_mk _) (row_cons (irow_mk _) row_nil))); exact rfl; exact rfl) | ((with_reducible apply d_leaf); exact (by decide +kernel)))); all_goals ((with_reducible apply n_doneZ); exact rfl; exact (by decide +kernel)))))
    | ((with_reducible refine v_rgat (i := 8) ?_); (refine n_start (by kernel_rfl) ?_; (refine n_quiet none #[true, true, true, true, true, true, true, true, true] [0, 1, 2, 3, 4, 5, 6, 7, 8] 0 rfl ?_; (repeat' (first | ((fail_if_success (have hTest : Hld False := hP)); (have hq := chk_c hP); (replace hP := chk_p hP)) | ((with_reducible apply (d_e (some []))); exact rfl; exact rfl; kernel_rfl; kernel_rfl; exact rfl; exact rfl; (first | ((with_reducible apply e_v); exact rfl) | ((with_reducible apply f_ia); exact rfl; exact rfl; exact rfl; (case inst => exact inferInstance); exact rfl; exact rfl; (first | with_reducible assumption | (apply chk_c; exact hP; (first | skip)))))) | ((with_reducible apply d_leaf); exact (by decide +kernel)))); all_goals ((with_reducible apply n_doneZ); exact rfl; exact (by decide +kernel)))))
    | ((with_reducible refine v_rgat (i := 9) ?_); (refine n_start (by kernel_rfl) ?_; (refine n_quiet none #[true, true, true, true, true, true, true, true, true] [0, 1, 2, 3, 4, 5, 6, 7, 8] 0 rfl ?_; (repeat' (first | ((with_reducible apply (d_e (some []))); exact rfl; exact rfl; kernel_rfl; kernel_rfl; exact rfl; exact rfl; (first | ((with_reducible apply e_v); exact rfl) | ((with_reducible apply f_ia); exact rfl; exact rfl; exact rfl; (case inst => exact inferInstance); exact rfl; exact rfl; (first | with_reducible assumption)))) | ((with_reducible apply d_leaf); exact (by decide +kernel)))); all_goals ((with_reducible apply n_doneZ); exact rfl; exact (by decide +kernel)))))
    | ((with_reducible apply v_gs); exact rfl; exact rfl; (exact hP); all_goals (clear hP; intro hg hP))
    | ((with_reducible apply v_if); exact rfl; (exact hP); all_goals (clear hP; intro hc hP)))
theorem rlo_ic (a b : List Lyr) : ICp (a = [] ∧ b = []) 96 [.one (.d (.list (a.map Lyr.row))), .one (.d (.list (b.map Lyr.row)))] (fun v => v = iv 0) := fun hh => (rlo_V a b _).2 (by
  obtain ⟨rfl, rfl⟩ := hh
  (delta rlo_V; dsimp only [mkV])
  refine lp1 (fun z => 0 ≤ z) (fun z => 0) (by show (0 : Int) ≤ 0; omega) ?_
  intro I μ nx z h1
  (repeat' (first | with_reducible refine brn_nd (fun h => ?_) (fun h => ?_) | with_reducible refine brn_d (fun h => ?_) (fun h => ?_) | with_reducible refine brn_nn (fun h => ?_) (fun h => ?_) | with_reducible refine brn_nb (fun h => ?_) (fun h => ?_) | with_reducible refine Brn.mk (fun h => ?_) (fun h => ?_) | with_reducible refine Chk.mk ?_ ?_ | with_reducible refine Bth.mk ?_ ?_ | with_reducible refine Fct.mk (fun hf => ?_)))
  all_goals first | (exfalso; simp_all; done) | (exfalso; simp_all; omega) | rfl | trace_state)
theorem sLt_self (a : ByteArray) : sLt a a = false := by
  have h : ∀ l : List UInt8, Go.Op.bytesLess l l = false := fun l => by
    induction l with
    | nil => rfl
    | cons x l ih => simp [Go.Op.bytesLess, ih]
  exact h _
theorem sCmp_self (a : ByteArray) : sCmp a a = 0 := by
  unfold sCmp; rw [sLt_self, if_neg (by decide), if_neg (by simp)]
theorem cmpN_self (a : Int) : cmpN a a = 0 := by unfold cmpN; rw [if_neg (by omega), if_neg (by omega)]
theorem cmpSp_self (a : Spt) : cmpSp a a = 0 := by
  unfold cmpSp
  simp only [cmpN_self, sCmp_self]
  rfl
theorem fcmp_self (a : Fnd) : fcmp a a = 0 := by
  unfold fcmp
  simp only [cmpN_self]
  rfl
theorem zw_at {X Y : List Int} {z : Int} (h0 : 0 ≤ z) (h1 : z < X.length) (h2 : z < Y.length) : (List.zipWith cmpN X Y).drop z.toNat = cmpN (gt X z) (gt Y z) :: (List.zipWith cmpN X Y).drop (z + 1).toNat := by
  rw [gt_eq (xs := X) (by omega), gt_eq (xs := Y) (by omega), show (z + 1).toNat = z.toNat + 1 by omega, List.drop_eq_getElem_cons (by simp; omega), List.getElem_zipWith]
theorem lexP {X Y : List Int} {r : Int} (hl : X.length = Y.length) (hX : X.length ≤ 1000) (he : r = orS (List.zipWith cmpN X Y)) : ∃ (I : Int → Prop) (μ : Int → Nat), I 0 ∧ ∀ x1, I x1 → Fct (X.length ≤ 9223372036854775807) (Brn (decide (x1 < (X.length : Int))) (Chk (0 ≤ x1 ∧ x1 < (X.length : Int)) (Chk (0 ≤ x1 ∧ x1 < (Y.length : Int)) (Brn (!decide (gt X x1 = gt Y x1)) (Brn (decide (gt X x1 < gt Y x1)) (SV.one (.d (.int .i64 (-1))) = iv r) (SV.one (.d (.int .i64 1)) = iv r)) (Chk (InI (x1 + 1)) (I (x1 + 1) ∧ μ (x1 + 1) < μ x1))))) (SV.one (.d (.int .i64 0)) = iv r)) := by
  refine lp1 (fun z => 0 ≤ z ∧ z ≤ X.length ∧ r = orS ((List.zipWith cmpN X Y).drop z.toNat)) (fun z => (X.length - z).toNat) ⟨by omega, by omega, he⟩ ?_
  rintro I μ nx z ⟨h0, h1, hj⟩
  have hne : ∀ hz : z < X.length, ¬ gt X z = gt Y z → r = if gt X z < gt Y z then -1 else 1 := fun hz hn => by
    rw [zw_at h0 hz (by omega), orS_cons] at hj
    have e : cmpN (gt X z) (gt Y z) = if gt X z < gt Y z then -1 else 1 := by
      unfold cmpN
      split
      · rfl
      · rw [if_pos (by omega)]
    rw [hj, e]
    split <;> rfl
  (repeat' (first | with_reducible refine brn_nd (fun h => ?_) (fun h => ?_) | with_reducible refine brn_d (fun h => ?_) (fun h => ?_) | with_reducible refine brn_nn (fun h => ?_) (fun h => ?_) | with_reducible refine brn_nb (fun h => ?_) (fun h => ?_) | with_reducible refine Brn.mk (fun h => ?_) (fun h => ?_) | with_reducible refine Chk.mk ?_ ?_ | with_reducible refine Bth.mk ?_ ?_ | with_reducible refine Fct.mk (fun hf => ?_)))
  · omega
  · omega
  · have hn : ¬ gt X z = gt Y z := by assumption
    have hlt : gt X z < gt Y z := by assumption
    rw [hne (by assumption) hn, if_pos hlt]
  · have hn : ¬ gt X z = gt Y z := by assumption
    have hlt : ¬ gt X z < gt Y z := by assumption
    rw [hne (by assumption) hn, if_neg hlt]
  · unfold InI; omega
  · have hn : gt X z = gt Y z := by assumption
    have hz : z < X.length := by assumption
    have hj' := hj
    rw [zw_at h0 hz (by omega), orS_cons, hn, cmpN_self, if_pos rfl] at hj'
    exact nx _ _ ⟨h0, h1, hj⟩ ⟨by omega, by omega, hj'⟩ (by omega)
  · rw [List.drop_eq_nil_of_le (by simp; omega)] at hj
    rw [hj]; rfl
theorem cmpSp_z (a b : Spt) (c : Int) (hc : sCmp a.pl.pa b.pl.pa = cmpN c 0) : cmpSp a b = orS (List.zipWith cmpN [a.pl.sr, c, a.pl.tm, 0, a.fr, a.to] [b.pl.sr, 0, b.pl.tm, 0, b.fr, b.to]) := by
  unfold cmpSp; rw [sg3_orS (by simp [sg3_cmpN, sg3_sCmp]; rfl), hc]; rfl
noncomputable def rso_V (a : Spt) (b : Spt) (Q : SV → Prop) : Σ' P : Prop, (P → ICt 49 [.agg (List.map .d (Spt.row a)), .agg (List.map .d (Spt.row b))] Q) := by
  apply mkV; intro hP
  refine ic_wk (K 85) Try.func49 rfl rfl rfl rfl (fun w0 => ?_)
  repeat' (first
    | ((fail_if_success (have hTest : Hld False := hP)); (have hq := chk_c hP); (replace hP := chk_p hP))
    | (with_reducible (first | apply c_seq | apply c_rg | apply j_nil | apply q_n | apply c_bl | apply c_ex | apply c_ret | apply c_sk | apply q_r | apply q_e | apply b_r | apply b_e | apply b_n | apply n_n | apply n_r | apply n_e))
    | ((with_reducible apply v_strlt); exact rfl; exact rfl; exact rfl)
    | ((with_reducible apply v_strgt); exact rfl; exact rfl; exact rfl)
    | ((with_reducible apply j_v); exact rfl; exact rfl)
    | ((with_reducible apply (v_bsf (d := 59) (irow))); exact rfl; exact rfl; exact (row_cons (irow_mk _) (row_cons (irow_mk _) (row_cons (irow_mk _) row_nil))); exact rfl; exact rfl)
    | ((with_reducible apply j_h); exact rfl; exact rfl)
    | ((with_reducible apply v_lens); exact rfl; exact rfl; exact rfl; (exact hP); clear hP; intro hP)
    | ((with_reducible apply j_add); exact rfl; exact rfl; exact rfl; (with_reducible apply wr_i64; (first | with_reducible assumption | (apply chk_c; exact hP; (first | skip)))))
    | ((with_reducible apply v_iasl); exact rfl; exact rfl; exact rfl; exact rfl; (first | with_reducible assumption | (apply chk_c; exact hP; (first | skip))))
    | ((apply (v_ste (f := irow))); exact rfl; exact rfl; (case inst => exact inferInstance); exact rfl; exact rfl; exact rfl; exact rfl; exact rfl; exact congrArg some (irow_mk _); (first | with_reducible assumption))
    | ((with_reducible apply (v_ap (irow))); exact rfl; exact rfl; exact rfl; exact rfl; exact rfl; exact rfl; exact rfl; (first | exact rfl); exact rfl; exact rfl; exact rfl; (apply src_d; exact rfl; (intro row hrow; obtain ⟨q, _, rfl⟩ := List.mem_map.1 hrow; rfl)); (first | exact rfl); exact rfl; exact rfl; exact rfl; (first | with_reducible assumption | (apply chk_c; exact hP; (first | skip))))
    | ((with_reducible apply r_g); exact rfl; (· repeat' (first | exact True.intro | refine And.intro ?_ ?_)); (exact hP.out))
    | ((with_reducible refine v_loopat (c := (.seq (.seq (.region 9 _ _) _) _)) ?_); (apply (v_loop1 _ [5, 6] [14, 21] (fun x1 => [(7, .one (.d (.int .i64 x1)))]) (fun x1 => []) [])); exact rfl; exact rfl; exact ⟨(by repeat' (first | exact .nil | refine .cons ?_ ?_ | exact SVle_pl rfl | refine .one ?_ | exact .sl rfl (by first | rfl | omega | (rw [List.length_append, List.length_map]; show _ + 1 = _; omega) | simp))), (by repeat' (first | exact .nil | refine .cons ?_ ?_ | exact .arr rfl (by first | rfl | assumption | simp)))⟩; (exact hP); clear hP; intro I μ x1 hP)
    | ((with_reducible apply (v_nxt1 (a1 := _))); (repeat' (first | exact .nil | refine .cons ?_ ?_ | exact SVle_pl rfl | refine .one ?_ | exact .sl rfl (by first | rfl | exact List.length_set.symm | exact (splT_len (by simp only [List.length_take, List.length_drop]; omega)).symm | omega | (rw [List.length_append, List.length_map]; show _ + 1 = _; omega) | simp) | exact .arr rfl (by first | rfl | assumption | simp))); (repeat' (first | exact .nil | exact .nil _ | refine .cons ?_ ?_ | exact .u _ | exact SVle_pl rfl | refine .one ?_ | refine .agg ?_ | exact .d rfl | exact .ref rfl rfl | exact .sl rfl (by first | rfl | exact List.length_set.symm | exact (splT_len (by simp only [List.length_take, List.length_drop]; omega)).symm | omega | (rw [List.length_append, List.length_map]; show _ + 1 = _; omega) | simp) | exact .fn _ | exact .tape | exact .nils rfl | exact .nild | exact .nildm | exact .nil | exact .rp (by simp) | exact .clo (by simp) | exact .el rfl rfl rfl | exact .d (by first | rfl | (congr 1; omega) | (congr 1; assumption) | simp) | exact .virt rfl | exact .gone _ | refine .blk rfl ?_ | exact .arr rfl (by first | rfl | assumption | simp))); (exact hP))
    | ((with_reducible refine v_rgat (i := 1) ?_); (refine n_start (by kernel_rfl) ?_; (refine n_quiet none #[true, true, true, true, true, true, true, true, true, true, true, true, true, true, true, true] [0, 1, 2, 3, 4, 5, 7, 8, 9, 10, 11, 12, 6, 14, 13, 15] 0 rfl ?_; (repeat' (first | ((with_reducible apply (d_e (some []))); exact rfl; exact rfl; kernel_rfl; kernel_rfl; exact rfl; exact rfl; ((with_reducible apply e_v); exact rfl)) | ((with_reducible apply (v_dbs (irow))); exact rfl; exact rfl; exact (by decide +kernel); exact rfl; exact rfl; exact rfl; exact rfl; exact rfl; exact rfl; exact rfl; exact rfl; exact rfl; exact (row_cons (irow_mk _) (row_cons (irow_mk _) (row_cons (irow_mk _) row_nil))); exact rfl) | (refine d_two 6 13 (by decide +kernel) ?_ ?_) | ((with_reducible apply (v_sbs (irow) (i := 6) (l := [14, 13, 15]))); exact rfl; exact rfl; exact rfl; exact rfl; exact rfl; exact rfl; exact rfl; exact rfl; exact rfl; exact rfl; exact rfl; exact (row_cons (irow_mk _) (row_cons (irow_mk _) (row_cons (irow_mk _) row_nil))); exact rfl; exact rfl) | ((with_reducible apply (v_sbs (irow) (i := 13) (l := [6, 14, 15]))); exact rfl; exact rfl; exact rfl; exact rfl; exact rfl; exact rfl; exact rfl; exact rfl; exact rfl; exact rfl; exact rfl; exact (row_cons (irow_mk _) (row_cons (irow_mk _) (row_cons (irow_mk _) row_nil))); exact rfl; exact rfl) | ((with_reducible apply d_leaf); exact (by decide +kernel)))); all_goals ((with_reducible apply n_doneZ); exact rfl; exact (by decide +kernel)))))
    | ((with_reducible refine v_rgat (i := 6) ?_); (refine n_start (by kernel_rfl) ?_; (refine n_quiet none #[true, true, true, true, true, true, true, true, true, true, true, false, false] [0, 1, 2, 3, 4, 5, 6, 7, 8, 9, 10] 2 rfl ?_; (repeat' (first | ((fail_if_success (have hTest : Hld False := hP)); (have hq := chk_c hP); (replace hP := chk_p hP)) | ((with_reducible apply (d_e (some []))); exact rfl; exact rfl; kernel_rfl; kernel_rfl; exact rfl; exact rfl; (first | ((with_reducible apply e_v); exact rfl) | ((with_reducible apply f_call (pu := false)); exact rfl; exact ⟨rfl, rfl⟩; apply (rlo_ic _ _); rotate_left 2; (focus ((repeat' (first | exact .nil _ | refine PsSL.cons ?_ ?_ | exact .one (.d _ _))) <;> fail)); exact .inr rfl; (first | with_reducible assumption | (apply chk_c; exact hP; (first | skip)))))) | ((with_reducible apply (v_dbsf (d := 52) (irow))); exact rfl; exact rfl; exact (by decide +kernel); exact rfl; exact rfl; exact rfl; exact rfl; exact rfl; exact rfl; exact rfl; exact rfl; exact rfl; exact (row_cons (irow_mk _) (row_cons (irow_mk _) (row_cons (irow_mk _) row_nil))); exact rfl) | ((with_reducible apply d_leaf); exact (by decide +kernel)))); all_goals (refine n_one 11 (by decide +kernel) rfl ?_; (repeat' (first | ((fail_if_success (have hTest : Hld False := hP)); (have hq := chk_c hP); (replace hP := chk_p hP)) | (with_reducible (first | apply j_nil)) | ((with_reducible apply (v_ap (irow))); exact rfl; exact rfl; exact rfl; exact rfl; exact rfl; exact rfl; exact rfl; (first | exact rfl); exact rfl; exact rfl; exact rfl; (apply src_d; exact rfl; (intro row hrow; obtain ⟨q, _, rfl⟩ := List.mem_map.1 hrow; rfl)); (first | exact rfl); exact rfl; exact rfl; exact rfl; (first | with_reducible assumption | (apply chk_c; exact hP; (first | skip)))))); all_goals (refine n_quiet none #[false, false, false, false, false, false, false, false, false, false, false, false, true] [12] 0 rfl ?_; (repeat' (first | ((with_reducible apply (d_e (some []))); exact rfl; exact rfl; kernel_rfl; kernel_rfl; exact rfl; exact rfl; ((with_reducible apply e_v); exact rfl)) | ((with_reducible apply d_leaf); exact (by decide +kernel)))); all_goals ((with_reducible apply n_doneZ); exact rfl; exact (by decide +kernel)))))))
    | ((with_reducible refine v_rgat (i := 11) ?_); (refine n_start (by kernel_rfl) ?_; (refine n_quiet none #[true, true, true, true, true, true, true, true, true] [0, 1, 2, 3, 4, 5, 6, 7, 8] 0 rfl ?_; (repeat' (first | ((fail_if_success (have hTest : Hld False := hP)); (have hq := chk_c hP); (replace hP := chk_p hP)) | ((with_reducible apply (d_e (some []))); exact rfl; exact rfl; kernel_rfl; kernel_rfl; exact rfl; exact rfl; (first | ((with_reducible apply e_v); exact rfl) | ((with_reducible apply e_ld_el1); exact rfl; exact rfl; exact rfl; (first | exact gt_row (by omega) (by omega)); exact rfl) | ((with_reducible apply f_iasl); exact rfl; exact rfl; exact rfl; (first | with_reducible assumption | (apply chk_c; exact hP; (first | skip)))))) | ((with_reducible apply d_leaf); exact (by decide +kernel)))); all_goals ((with_reducible apply n_doneZ); exact rfl; exact (by decide +kernel)))))
    | ((with_reducible refine v_rgat (i := 12) ?_); (refine n_start (by kernel_rfl) ?_; (refine n_quiet none #[true, true, true, true, true, true, true, true, true] [0, 1, 2, 3, 4, 5, 6, 7, 8] 0 rfl ?_; (repeat' (first | ((with_reducible apply (d_e (some []))); exact rfl; exact rfl; kernel_rfl; kernel_rfl; exact rfl; exact rfl; (first | ((with_reducible apply e_v); exact rfl) | ((with_reducible apply e_ld_el1); exact rfl; exact rfl; exact rfl; (first | exact gt_row (by omega) (by omega)); exact rfl) | ((with_reducible apply f_iasl); exact rfl; exact rfl; exact rfl; (first | with_reducible assumption)))) | ((with_reducible apply d_leaf); exact (by decide +kernel)))); all_goals ((with_reducible apply n_doneZ); exact rfl; exact (by decide +kernel)))))
    | ((with_reducible apply v_if); exact rfl; (exact hP); all_goals (clear hP; intro hc hP)))
theorem rso_ic (a b : Spt) : ICp (a.ly = [] ∧ b.ly = []) 49 [a.v, b.v] (fun v => v = iv (cmpSp a b)) := fun hh => (rso_V a b _).2 (by
  (delta rso_V; dsimp only [mkV])
  (repeat' (first | with_reducible refine brn_nd (fun h => ?_) (fun h => ?_) | with_reducible refine brn_d (fun h => ?_) (fun h => ?_) | with_reducible refine brn_nn (fun h => ?_) (fun h => ?_) | with_reducible refine brn_nb (fun h => ?_) (fun h => ?_) | with_reducible refine Brn.mk (fun h => ?_) (fun h => ?_) | with_reducible refine Chk.mk ?_ ?_ | with_reducible refine Bth.mk ?_ ?_ | with_reducible refine Fct.mk (fun hf => ?_)))
  all_goals first | exact hh | (simp; done) | skip
  · exact lexP rfl (by simp) (cmpSp_z a b (-1) (by unfold sCmp; rw [if_pos (by assumption)]; rfl))
  · exact lexP rfl (by simp) (cmpSp_z a b 1 (by unfold sCmp; rw [if_neg (by simp_all), if_pos (by simp_all)]; rfl))
  · exact lexP rfl (by simp) (cmpSp_z a b 0 (by unfold sCmp; rw [if_neg (by simp_all), if_neg (by simp_all)]; rfl)))
theorem fcmp_eq (a b : Fnd) : fcmp a b = if a.kd < b.kd then -1 else if b.kd < a.kd then 1 else if a.pr < b.pr then -1 else if b.pr < a.pr then 1 else 0 := by
  unfold fcmp
  rw [orS_cons, orS_cons]
  unfold cmpN
  by_cases h1 : a.kd < b.kd
  · simp [h1]; rfl
  · by_cases h2 : b.kd < a.kd
    · simp [h1, h2]; rfl
    · simp only [h1, h2, if_false]
      by_cases h3 : a.pr < b.pr
      · simp [h3]; rfl
      · by_cases h4 : b.pr < a.pr
        · simp [h3, h4]; rfl
        · simp [h3, h4]; rfl
noncomputable def rky_V (a : Fnd) (b : Fnd) (Q : SV → Prop) : Σ' P : Prop, (P → ICt 48 [.agg (List.map .d (Fnd.row a)), .agg (List.map .d (Fnd.row b))] Q) := by
  apply mkV; intro hP
  refine ic_wk (K 38) Try.func48 rfl rfl rfl rfl (fun w0 => ?_)
  repeat' (first
    | (with_reducible (first | apply c_seq | apply c_rg | apply j_nil | apply q_n | apply g_tt | apply g_ff | apply c_ct | apply c_cf | apply c_bl | apply c_ret | apply c_sk | apply q_r | apply b_r | apply b_n))
    | ((with_reducible apply j_v); exact rfl; exact rfl)
    | ((with_reducible apply j_h); exact rfl; exact rfl)
    | ((with_reducible apply j_g); exact rfl; exact rfl; (first | with_reducible assumption))
    | ((with_reducible apply g_tf); exact rfl)
    | ((with_reducible apply g_ft); exact rfl)
    | ((with_reducible apply j_gz); exact rfl; exact rfl; exact rfl)
    | ((with_reducible apply j_pk); exact rfl; exact rfl; (first | with_reducible assumption); exact rfl)
    | ((with_reducible apply c_c); exact rfl; (first | with_reducible exact Eq.refl true | with_reducible exact Eq.refl false))
    | ((with_reducible apply r_g); exact rfl; (· repeat' (first | exact True.intro | refine And.intro ?_ ?_)); (exact hP.out))
    | ((with_reducible apply v_gs); exact rfl; exact rfl; (exact hP); all_goals (clear hP; intro hg hP))
    | ((with_reducible apply v_if); exact rfl; (exact hP); all_goals (clear hP; intro hc hP)))
theorem rky_ic (a b : Fnd) : ICt 48 [a.v, b.v] (fun v => v = iv (fcmp a b)) := (rky_V a b _).2 (by
  (delta rky_V; dsimp only [mkV])
  (repeat' (first | with_reducible refine brn_nd (fun h => ?_) (fun h => ?_) | with_reducible refine brn_d (fun h => ?_) (fun h => ?_) | with_reducible refine brn_nn (fun h => ?_) (fun h => ?_) | with_reducible refine brn_nb (fun h => ?_) (fun h => ?_) | with_reducible refine Brn.mk (fun h => ?_) (fun h => ?_) | with_reducible refine Chk.mk ?_ ?_ | with_reducible refine Bth.mk ?_ ?_ | with_reducible refine Fct.mk (fun hf => ?_)))
  all_goals (rw [fcmp_eq]; repeat' split)
  all_goals first | rfl | (exfalso; omega))
noncomputable def rsame_V (a : List Fnd) (b : List Fnd) (Q : SV → Prop) : Σ' P : Prop, (P → ICt 17 [.one (.d (.list (List.map Fnd.row a))), .one (.d (.list (List.map Fnd.row b)))] Q) := by
  apply mkV; intro hP
  refine ic_wk (K 71) Try.func17 rfl rfl rfl rfl (fun w0 => ?_)
  repeat' (first
    | ((fail_if_success (have hTest : Hld False := hP)); (have hq := chk_c hP); (replace hP := chk_p hP))
    | (with_reducible (first | apply c_seq | apply c_rg | apply j_nil | apply q_n | apply c_ct | apply c_bl | apply c_ex | apply c_ret | apply c_sk | apply q_r | apply q_e | apply b_r | apply b_e | apply b_n | apply n_n | apply n_r | apply n_e))
    | ((with_reducible apply j_v); exact rfl; exact rfl)
    | ((with_reducible apply v_lenm); exact rfl; exact rfl; exact rfl; (exact hP); clear hP; intro hP)
    | ((with_reducible apply j_add); exact rfl; exact rfl; exact rfl; (with_reducible apply wr_i64; (apply chk_c; exact hP; (first | skip))))
    | ((with_reducible apply v_ia); exact rfl; exact rfl; exact rfl; exact rfl; (case inst => exact inferInstance); exact rfl; exact rfl; (first | with_reducible assumption))
    | ((with_reducible apply c_c); exact rfl; (first | with_reducible exact Eq.refl true))
    | ((with_reducible apply r_g); exact rfl; (· repeat' (first | exact True.intro | refine And.intro ?_ ?_)); (exact hP.out))
    | ((with_reducible refine v_loopat (c := (.seq (.seq (.region 4 _ _) _) _)) ?_); (apply (v_loop1 _ [0, 1] [] (fun x1 => [(5, .one (.d (.int .i64 x1)))]) (fun x1 => []) [])); exact rfl; exact rfl; exact ⟨(by repeat' (first | exact .nil | refine .cons ?_ ?_ | exact SVle_pl rfl)), (by repeat' (first | exact .nil))⟩; (exact hP); clear hP; intro I μ x1 hP)
    | ((with_reducible apply (v_nxt1 (a1 := _))); (repeat' (first | exact .nil | refine .cons ?_ ?_ | exact SVle_pl rfl)); (repeat' (first | exact .nil | exact .nil _ | refine .cons ?_ ?_ | exact .u _ | exact SVle_pl rfl | refine .one ?_ | refine .agg ?_ | exact .d rfl | exact .ref rfl rfl | exact .sl rfl (by first | rfl | exact List.length_set.symm | exact (splT_len (by simp only [List.length_take, List.length_drop]; omega)).symm | omega | (rw [List.length_append, List.length_map]; show _ + 1 = _; omega) | simp) | exact .fn _ | exact .tape | exact .nils rfl | exact .nild | exact .nildm | exact .nil | exact .rp (by simp) | exact .clo (by simp) | exact .el rfl rfl rfl | exact .d (by first | rfl | (congr 1; omega) | (congr 1; assumption) | simp) | exact .virt rfl | exact .gone _ | refine .blk rfl ?_ | exact .arr rfl (by first | rfl | assumption | simp))); (exact hP))
    | ((with_reducible refine v_loopat (c := (.seq (.seq (.region 9 _ _) _) _)) ?_); (apply (v_loop1 _ [0, 1, 5] [] (fun x1 => [(6, .one (.d (.int .i64 x1)))]) (fun x1 => []) [])); exact rfl; exact rfl; exact ⟨(by repeat' (first | exact .nil | refine .cons ?_ ?_ | exact SVle_pl rfl)), (by repeat' (first | exact .nil))⟩; (exact hP); clear hP; intro I μ x1 hP)
    | ((with_reducible refine v_rgat (i := 6) ?_); (refine n_start (by kernel_rfl) ?_; (refine n_quiet none #[true, true, true, true, true, true, true, true, true, true, true, true, true, true, true, true, true, true, true, true, true, true, true, true, true] [0, 1, 2, 3, 4, 5, 6, 7, 8, 9, 10, 11, 12, 13, 14, 15, 16, 17, 18, 19, 20, 21, 22, 23, 24] 0 rfl ?_; (repeat' (first | ((fail_if_success (have hTest : Hld False := hP)); (have hq := chk_c hP); (replace hP := chk_p hP)) | ((with_reducible apply (d_e (some []))); exact rfl; exact rfl; kernel_rfl; kernel_rfl; exact rfl; exact rfl; (first | ((with_reducible apply e_v); exact rfl) | ((with_reducible apply e_pk); exact rfl; (first | with_reducible assumption); exact rfl) | ((with_reducible apply f_ia); exact rfl; exact rfl; exact rfl; (case inst => exact inferInstance); exact rfl; exact rfl; (apply chk_c; exact hP; (first | skip))) | ((with_reducible apply e_call (pu := false)); exact rfl; apply (rky_ic _ _); rotate_left 2; (focus ((repeat' (first | exact .nil _ | refine PsL.cons ?_ ?_ | refine PsSL.cons ?_ ?_ | refine .agg ?_ | exact .d _ _)) <;> fail)); exact .inr rfl))) | ((with_reducible apply (d_ey (some []))); exact rfl; exact rfl; exact rfl; (first | with_reducible assumption); exact rfl; kernel_rfl; kernel_rfl; exact rfl; exact rfl; (first | ((with_reducible apply e_v); exact rfl) | ((with_reducible apply e_lenm); exact rfl; exact rfl) | ((with_reducible apply f_ia); exact rfl; exact rfl; exact rfl; (case inst => exact inferInstance); exact rfl; exact rfl; (first | with_reducible assumption)))) | ((with_reducible apply d_gm); exact rfl; exact rfl; exact rfl; (first | with_reducible assumption); exact rfl; kernel_rfl; kernel_rfl; exact rfl; exact rfl) | ((with_reducible apply v_dgs); exact rfl; exact rfl; exact rfl; ((repeat ((fail_if_success (have hTest : Hld False := hP)); (have hq := chk_c hP); (replace hP := chk_p hP))); exact hP); all_goals (clear hP; intro hg hP)) | ((with_reducible apply d_leaf); exact (by decide +kernel)))); all_goals ((with_reducible apply n_doneZ); exact rfl; exact (by decide +kernel)))))
    | ((with_reducible refine v_rgat (i := 11) ?_); (refine n_start (by kernel_rfl) ?_; (refine n_quiet none #[true, true, true, true, true, true, true, true, true, true, true, true, true, true, true, true, true, true] [0, 1, 2, 3, 4, 5, 6, 7, 8, 9, 10, 11, 12, 13, 14, 15, 16, 17] 0 rfl ?_; (repeat' (first | ((fail_if_success (have hTest : Hld False := hP)); (have hq := chk_c hP); (replace hP := chk_p hP)) | ((with_reducible apply (d_e (some []))); exact rfl; exact rfl; kernel_rfl; kernel_rfl; exact rfl; exact rfl; (first | ((with_reducible apply e_v); exact rfl) | ((with_reducible apply f_ia); exact rfl; exact rfl; exact rfl; (case inst => exact inferInstance); exact rfl; exact rfl; (first | with_reducible assumption | (apply chk_c; exact hP; (first | skip)))) | ((with_reducible apply f_call (pu := false)); exact rfl; exact ⟨rfl, rfl⟩; apply (rso_ic _ _); rotate_left 2; (focus ((repeat' (first | exact .nil _ | refine PsL.cons ?_ ?_ | refine PsSL.cons ?_ ?_ | refine .agg ?_ | exact .d _ _)) <;> fail)); exact .inr rfl; (apply chk_c; exact hP; (first | skip))))) | ((with_reducible apply d_leaf); exact (by decide +kernel)))); all_goals ((with_reducible apply n_doneZ); exact rfl; exact (by decide +kernel)))))
    | ((with_reducible apply v_if); exact rfl; (exact hP); all_goals (clear hP; intro hc hP)))
theorem rsame_ic (a b : List Fnd) : ICp (a = b ∧ a.length ≤ 1000 ∧ ∀ x ∈ a, x.wh.length ≤ 1000 ∧ ∀ s ∈ x.wh, s.ly = []) 17 [fnv a, fnv b] (fun v => v = bv true) := fun hh => (rsame_V a b _).2 (by
  obtain ⟨rfl, g2, g3⟩ := hh
  (delta rsame_V; dsimp only [mkV])
  (repeat' (first | with_reducible refine brn_nd (fun h => ?_) (fun h => ?_) | with_reducible refine brn_d (fun h => ?_) (fun h => ?_) | with_reducible refine brn_nn (fun h => ?_) (fun h => ?_) | with_reducible refine brn_nb (fun h => ?_) (fun h => ?_) | with_reducible refine Brn.mk (fun h => ?_) (fun h => ?_) | with_reducible refine Chk.mk ?_ ?_ | with_reducible refine Bth.mk ?_ ?_ | with_reducible refine Fct.mk (fun hf => ?_)))
  · exfalso; simp_all
  refine lp1 (fun z => 0 ≤ z ∧ z ≤ a.length) (fun z => (a.length - z).toNat) ⟨by omega, by omega⟩ ?_
  rintro I μ nx z ⟨h0, h1⟩
  (repeat' (first | with_reducible refine brn_nd (fun h => ?_) (fun h => ?_) | with_reducible refine brn_d (fun h => ?_) (fun h => ?_) | with_reducible refine brn_nn (fun h => ?_) (fun h => ?_) | with_reducible refine brn_nb (fun h => ?_) (fun h => ?_) | with_reducible refine Brn.mk (fun h => ?_) (fun h => ?_) | with_reducible refine Chk.mk ?_ ?_ | with_reducible refine Bth.mk ?_ ?_ | with_reducible refine Fct.mk (fun hf => ?_)))
  · exact ⟨h0, by assumption⟩
  · exact ⟨h0, by assumption⟩
  · exact absurd (fcmp_self _) (by assumption)
  · exfalso; simp_all
  · have hz : z < a.length := by assumption
    refine lp1 (fun k => 0 ≤ k ∧ k ≤ (gt a z).wh.length) (fun k => ((gt a z).wh.length - k).toNat) ⟨by omega, by omega⟩ ?_
    rintro I2 μ2 nx2 k ⟨k0, k1⟩
    have q := g3 _ (gt_mem h0 hz)
    (repeat' (first | with_reducible refine brn_nd (fun h => ?_) (fun h => ?_) | with_reducible refine brn_d (fun h => ?_) (fun h => ?_) | with_reducible refine brn_nn (fun h => ?_) (fun h => ?_) | with_reducible refine brn_nb (fun h => ?_) (fun h => ?_) | with_reducible refine Brn.mk (fun h => ?_) (fun h => ?_) | with_reducible refine Chk.mk ?_ ?_ | with_reducible refine Bth.mk ?_ ?_ | with_reducible refine Fct.mk (fun hf => ?_)))
    · exact ⟨k0, by assumption⟩
    · exact ⟨k0, by assumption⟩
    · exact ⟨q.2 _ (gt_mem k0 (by assumption)), q.2 _ (gt_mem k0 (by assumption))⟩
    · exact absurd (cmpSp_self _) (by assumption)
    · unfold InI; omega
    · exact nx2 _ _ ⟨k0, k1⟩ ⟨by omega, by omega⟩ (by omega)
    · unfold InI; omega
    · exact nx _ _ ⟨h0, h1⟩ ⟨by omega, by omega⟩ (by omega)
  · rfl)
end Go.Proofs.Ytcbppkfnfbdkhaa
