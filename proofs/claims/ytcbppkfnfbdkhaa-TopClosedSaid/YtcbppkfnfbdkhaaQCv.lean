/- Directories: the table. -/
import Derived.Test.YtcbppkfnfbdkhaaQCq
import Derived.Test.YtcbppkfnfbdkhaaLb4
set_option linter.all false
set_option maxRecDepth 20000
set_option maxHeartbeats 4000000
namespace Go.Proofs.Ytcbppkfnfbdkhaa
open Go.RowKit Go.Shelf
noncomputable def at23_V (d : Dir) (t : Int) (Q : SV → Prop) : Σ' P : Prop, (P → ICt 204 [.agg (List.map .d (Dir.row d)), .one (.d (.int .i64 t))] Q) := by
  apply mkV; intro hP
  refine ic_wk (K 50) Try.func204 rfl rfl rfl rfl (fun w0 => ?_)
  apply (v_kint (x := 1)); exact rfl; exact hP; clear hP; intro hP
  repeat' (first
    | ((fail_if_success (have hTest : Hld False := hP)); (have hq := chk_c hP); (replace hP := chk_p hP))
    | ((with_reducible apply j_lst); exact rfl)
    | (with_reducible (first | apply c_seq | apply c_rg | apply j_nil | apply q_n | apply c_ct | apply c_cf | apply c_bl | apply c_ex | apply c_ret | apply c_sk | apply q_r | apply q_e | apply b_r | apply b_e | apply b_n | apply n_n | apply n_r | apply n_e))
    | ((apply (v_tnew brow 12 4)); exact rfl; (intro x hx; exact (List.mem_replicate.1 hx).2))
    | ((with_reducible apply v_tst); exact rfl; exact rfl; exact rfl; exact rfl; exact rfl; (first | exact rfl | exact (List.length_map _).symm | omega | (simp only [List.length_set, List.length_map, List.length_append] <;> omega) | (simp; done)); exact rfl; exact (fun y => ⟨y, rfl⟩); (first | with_reducible assumption | (apply chk_c; exact hP; (first | (guard_target = Prop; rotate_left 1) | skip))))
    | ((apply (v_tcl 12 900)); exact rfl; (case inst => exact inferInstance); exact rfl; exact (fun y => ⟨y, rfl⟩); exact rfl; (first | with_reducible assumption | (first | with_reducible assumption | (apply chk_c; exact hP; (first | (guard_target = Prop; rotate_left 1) | skip)))))
    | ((apply (v_tfrl (o := ⟨some 49, _, _, _, _, _⟩) 12)); exact rfl; exact rfl; (focus (repeat' (first | exact .nil | (apply tz_sl; (focus (first | exact rfl | exact (List.length_map _).symm | omega | (simp only [List.length_set, List.length_map, List.length_append] <;> omega) | (simp; done)))) | apply TzF.same))))
    | ((with_reducible apply v_lenstr); exact rfl; exact rfl; kernel_rfl)
    | ((with_reducible apply (v_make brow (false))); exact rfl; exact rfl; exact rfl; exact rfl; exact rfl; exact rfl; exact rfl; exact rfl; exact rfl; exact rfl; exact rfl; exact rfl; (first | with_reducible assumption | (apply chk_c; exact hP; (first | (guard_target = Prop; rotate_left 1) | skip))))
    | ((with_reducible apply (v_make (lrow brow) (([] : List Bool)))); exact rfl; exact rfl; exact rfl; exact rfl; exact rfl; exact rfl; exact rfl; exact rfl; exact rfl; exact rfl; exact rfl; exact rfl; (first | with_reducible assumption | (apply chk_c; exact hP; (first | (guard_target = Prop; rotate_left 1) | skip))))
    | ((with_reducible apply c_l1); exact rfl; exact rfl)
    | ((with_reducible apply c_l2); exact rfl; exact rfl)
    | ((with_reducible apply c_l3); exact rfl)
    | ((with_reducible apply j_v); exact rfl; exact rfl)
    | ((with_reducible apply j_h); exact rfl; exact rfl)
    | ((with_reducible apply j_s); exact rfl)
    | ((with_reducible apply v_lenm); exact rfl; exact rfl; exact rfl; (exact hP); clear hP; intro hP)
    | ((with_reducible apply v_lens); exact rfl; exact rfl; exact rfl; (exact hP); clear hP; intro hP)
    | ((with_reducible apply j_len); exact rfl; exact rfl; exact rfl)
    | ((with_reducible apply j_len0); exact rfl; exact rfl; exact rfl)
    | ((with_reducible apply j_ld_el1); exact rfl; exact rfl; exact rfl; exact rfl; (first | with_reducible assumption | exact gt_row (by omega) (by omega) | exact rfl); exact rfl)
    | ((with_reducible apply j_add); exact rfl; exact rfl; exact rfl; (first | (with_reducible apply wr_i64; (first | with_reducible assumption | (apply chk_c; exact hP; (first | (guard_target = Prop; rotate_left 1) | skip)))) | exact rfl))
    | ((with_reducible apply v_ia); exact rfl; exact rfl; exact rfl; exact rfl; (case inst => exact inferInstance); exact rfl; exact rfl; (first | with_reducible assumption | (apply chk_c; exact hP; (first | (guard_target = Prop; rotate_left 1) | skip))))
    | ((with_reducible apply v_iasl); exact rfl; exact rfl; exact rfl; exact rfl; (first | with_reducible assumption | (apply chk_c; exact hP; (first | (guard_target = Prop; rotate_left 1) | skip))))
    | ((with_reducible apply j_ia_ar); exact rfl; exact rfl; exact rfl; exact rfl; ((repeat ((fail_if_success (have hTest : Hld False := hP)); (have hq := chk_c hP); (replace hP := chk_p hP))); first | with_reducible assumption | (apply chk_c; exact hP; (first | (guard_target = Prop; rotate_left 1) | skip))); ((repeat ((fail_if_success (have hTest : Hld False := hP)); (have hq := chk_c hP); (replace hP := chk_p hP))); first | with_reducible assumption | (apply chk_c; exact hP; (first | (guard_target = Prop; rotate_left 1) | skip))); (first | with_reducible exact Int.toNat_natCast _ | exact rfl))
    | ((apply (v_ste (f := brow))); exact rfl; exact rfl; (case inst => exact inferInstance); exact rfl; exact rfl; exact rfl; exact rfl; exact rfl; (first | exact congrArg some (brow_mk _)); (first | with_reducible assumption | (apply chk_c; exact hP; (first | (guard_target = Prop; rotate_left 1) | skip))))
    | ((apply (v_ste (f := (lrow brow)))); exact rfl; exact rfl; (case inst => exact inferInstance); exact rfl; exact rfl; exact rfl; exact rfl; exact rfl; (first | exact congrArg some (lrow_mk _ _) | exact congrArg some (show [Cell.list []] = (lrow brow) [] from rfl)); (first | with_reducible assumption | (apply chk_c; exact hP; (first | (guard_target = Prop; rotate_left 1) | skip))))
    | ((with_reducible apply c_c); exact rfl; (first | with_reducible assumption | with_reducible exact Eq.refl true | with_reducible exact Eq.refl false | (with_reducible refine not_t ?_; with_reducible assumption) | (with_reducible refine not_f ?_; with_reducible assumption) | (refine dec_t ?_; decide) | (refine dec_f ?_; decide)))
    | ((with_reducible apply b_o); exact rfl)
    | ((with_reducible apply r_g); exact rfl; (· repeat' (first | exact True.intro | refine And.intro ?_ ?_ | (show (_ : Nat) = _; (first | exact rfl | exact (List.length_map _).symm | omega | (simp only [List.length_set, List.length_map, List.length_append] <;> omega) | (simp; done))))); (exact hP.out))
    | ((with_reducible refine v_loopat (c := (.seq (.region 3 _ _) _)) ?_); (apply (v_loop2 _ _ [1, 2, 14] [2] (fun x1 x2 => [(5, .one (.sl 12 (List.length x1) 1)), (15, .one (.d (.int .i64 x2)))]) (fun x1 x2 => [(12, .tbl 134 4 (List.map (List.map brow) x1) none)]) [])); exact rfl; exact rfl; (focus (refine ⟨?_, ?_⟩; rotate_left 1; (focus (repeat' (first | exact .nil | exact .nil _ | refine .cons ?_ ?_ | exact .u _ | exact SVle_pl rfl | refine .one ?_ | refine .agg ?_ | exact .d rfl | exact .ref rfl rfl | exact .sl rfl (by first | rfl | exact List.length_set.symm | exact (splT_len (by simp only [List.length_take, List.length_drop]; omega)).symm | omega | (rw [List.length_append, List.length_map]; show _ + 1 = _; omega) | simp) | exact .fn _ | exact .tape | exact .nils rfl | exact .nild | exact .nildm | exact .nil | exact .rp (by simp) | exact .clo (by simp) | exact .el rfl rfl rfl | exact .d (by first | rfl | (congr 1; omega) | (congr 1; assumption) | simp) | exact .virt rfl | exact .gone _ | refine .blk rfl ?_ | exact .tbl rfl rfl | exact .arr rfl (by first | rfl | assumption | simp)))); (focus (repeat' (first | exact .nil | exact .nil _ | refine .cons ?_ ?_ | exact .u _ | exact SVle_pl rfl | refine .one ?_ | refine .agg ?_ | exact .d rfl | exact .ref rfl rfl | exact .sl rfl (by first | rfl | exact List.length_set.symm | exact (splT_len (by simp only [List.length_take, List.length_drop]; omega)).symm | omega | (rw [List.length_append, List.length_map]; show _ + 1 = _; omega) | simp) | exact .fn _ | exact .tape | exact .nils rfl | exact .nild | exact .nildm | exact .nil | exact .rp (by simp) | exact .clo (by simp) | exact .el rfl rfl rfl | exact .d (by first | rfl | (congr 1; omega) | (congr 1; assumption) | simp) | exact .virt rfl | exact .gone _ | refine .blk rfl ?_ | exact .tbl rfl rfl | exact .arr rfl (by first | rfl | assumption | simp)))))); (exact hP); clear hP; intro I μ x1 x2 hP)
    | ((with_reducible apply (v_nxt2 (a1 := _) (a2 := _))); rotate_left 1; (focus (repeat' (first | exact .nil | exact .nil _ | refine .cons ?_ ?_ | exact .u _ | exact SVle_pl rfl | refine .one ?_ | refine .agg ?_ | exact .d rfl | exact .ref rfl rfl | exact .sl rfl (by first | rfl | exact List.length_set.symm | exact (splT_len (by simp only [List.length_take, List.length_drop]; omega)).symm | omega | (rw [List.length_append, List.length_map]; show _ + 1 = _; omega) | simp) | exact .fn _ | exact .tape | exact .nils rfl | exact .nild | exact .nildm | exact .nil | exact .rp (by simp) | exact .clo (by simp) | exact .el rfl rfl rfl | exact .d (by first | rfl | (congr 1; omega) | (congr 1; assumption) | simp) | exact .virt rfl | exact .gone _ | refine .blk rfl ?_ | exact .tbl rfl rfl | exact .arr rfl (by first | rfl | assumption | simp)))); rotate_right 1; (focus (repeat' (first | exact .nil | exact .nil _ | refine .cons ?_ ?_ | exact .u _ | exact SVle_pl rfl | refine .one ?_ | refine .agg ?_ | exact .d rfl | exact .ref rfl rfl | exact .sl rfl (by first | rfl | exact List.length_set.symm | exact (splT_len (by simp only [List.length_take, List.length_drop]; omega)).symm | omega | (rw [List.length_append, List.length_map]; show _ + 1 = _; omega) | simp) | exact .fn _ | exact .tape | exact .nils rfl | exact .nild | exact .nildm | exact .nil | exact .rp (by simp) | exact .clo (by simp) | exact .el rfl rfl rfl | exact .d (by first | rfl | (congr 1; omega) | (congr 1; assumption) | simp) | exact .virt rfl | exact .gone _ | refine .blk rfl ?_ | exact .tbl rfl rfl | exact .arr rfl (by first | rfl | assumption | simp)))); (exact hP))
    | ((with_reducible refine v_loopat (c := (.seq (.region 8 _ _) _)) ?_); (apply (v_loop2 _ _ [1, 27, 28] [] (fun x1 x2 => [(5, .one (.sl 12 (List.length x1) 1)), (29, .one (.d (.int .i64 x2)))]) (fun x1 x2 => [(12, .tbl 134 4 (List.map (List.map brow) x1) none)]) [])); exact rfl; exact rfl; (focus (refine ⟨?_, ?_⟩; rotate_left 1; (focus (repeat' (first | exact .nil | exact .nil _ | refine .cons ?_ ?_ | exact .u _ | exact SVle_pl rfl | refine .one ?_ | refine .agg ?_ | exact .d rfl | exact .ref rfl rfl | exact .sl rfl (by first | rfl | exact List.length_set.symm | exact (splT_len (by simp only [List.length_take, List.length_drop]; omega)).symm | omega | (rw [List.length_append, List.length_map]; show _ + 1 = _; omega) | simp) | exact .fn _ | exact .tape | exact .nils rfl | exact .nild | exact .nildm | exact .nil | exact .rp (by simp) | exact .clo (by simp) | exact .el rfl rfl rfl | exact .d (by first | rfl | (congr 1; omega) | (congr 1; assumption) | simp) | exact .virt rfl | exact .gone _ | refine .blk rfl ?_ | exact .tbl rfl rfl | exact .arr rfl (by first | rfl | assumption | simp)))); (focus (repeat' (first | exact .nil | exact .nil _ | refine .cons ?_ ?_ | exact .u _ | exact SVle_pl rfl | refine .one ?_ | refine .agg ?_ | exact .d rfl | exact .ref rfl rfl | exact .sl rfl (by first | rfl | exact List.length_set.symm | exact (splT_len (by simp only [List.length_take, List.length_drop]; omega)).symm | omega | (rw [List.length_append, List.length_map]; show _ + 1 = _; omega) | simp) | exact .fn _ | exact .tape | exact .nils rfl | exact .nild | exact .nildm | exact .nil | exact .rp (by simp) | exact .clo (by simp) | exact .el rfl rfl rfl | exact .d (by first | rfl | (congr 1; omega) | (congr 1; assumption) | simp) | exact .virt rfl | exact .gone _ | refine .blk rfl ?_ | exact .tbl rfl rfl | exact .arr rfl (by first | rfl | assumption | simp)))))); (exact hP); clear hP; intro I μ x1 x2 hP)
    | ((with_reducible apply (v_nxt2 (a1 := _) (a2 := _))); rotate_left 1; (focus (repeat' (first | exact .nil | exact .nil _ | refine .cons ?_ ?_ | exact .u _ | exact SVle_pl rfl | refine .one ?_ | refine .agg ?_ | exact .d rfl | exact .ref rfl rfl | exact .sl rfl (by first | rfl | exact List.length_set.symm | exact (splT_len (by simp only [List.length_take, List.length_drop]; omega)).symm | omega | (rw [List.length_append, List.length_map]; show _ + 1 = _; omega) | simp) | exact .fn _ | exact .tape | exact .nils rfl | exact .nild | exact .nildm | exact .nil | exact .rp (by simp) | exact .clo (by simp) | exact .el rfl rfl rfl | exact .d (by first | rfl | (congr 1; omega) | (congr 1; assumption) | simp) | exact .virt rfl | exact .gone _ | refine .blk rfl ?_ | exact .tbl rfl rfl | exact .arr rfl (by first | rfl | assumption | simp)))); rotate_right 1; (focus (repeat' (first | exact .nil | exact .nil _ | refine .cons ?_ ?_ | exact .u _ | exact SVle_pl rfl | refine .one ?_ | refine .agg ?_ | exact .d rfl | exact .ref rfl rfl | exact .sl rfl (by first | rfl | exact List.length_set.symm | exact (splT_len (by simp only [List.length_take, List.length_drop]; omega)).symm | omega | (rw [List.length_append, List.length_map]; show _ + 1 = _; omega) | simp) | exact .fn _ | exact .tape | exact .nils rfl | exact .nild | exact .nildm | exact .nil | exact .rp (by simp) | exact .clo (by simp) | exact .el rfl rfl rfl | exact .d (by first | rfl | (congr 1; omega) | (congr 1; assumption) | simp) | exact .virt rfl | exact .gone _ | refine .blk rfl ?_ | exact .tbl rfl rfl | exact .arr rfl (by first | rfl | assumption | simp)))); (exact hP))
    | ((with_reducible refine v_rgat (i := 11) ?_); (refine n_start (by kernel_rfl) ?_; (apply (n_topen 12 900 8 2); exact rfl; exact rfl; exact rfl; (case inst => exact inferInstance); exact rfl; exact rfl; ((repeat ((fail_if_success (have hTest : Hld False := hP)); (have hq := chk_c hP); (replace hP := chk_p hP))); first | with_reducible assumption | (apply chk_c; exact hP; (first | (guard_target = Prop; rotate_left 1) | skip))); ((repeat ((fail_if_success (have hTest : Hld False := hP)); (have hq := chk_c hP); (replace hP := chk_p hP))); first | with_reducible assumption | (apply chk_c; exact hP; (first | (guard_target = Prop; rotate_left 1) | skip)))); (refine n_quiet (some [900]) #[true, true, true, true, true, true, true, true, true, true, true, true] [0, 1, 2, 3, 4, 5, 6, 7, 8, 9, 10, 11] 0 rfl ?_; (repeat' (first | ((fail_if_success (have hTest : Hld False := hP)); (have hq := chk_c hP); (replace hP := chk_p hP)) | ((with_reducible apply (d_e (some []))); exact rfl; exact rfl; kernel_rfl; exact (by decide +kernel); exact rfl; exact rfl; (first | ((with_reducible apply e_ld_t); exact rfl; exact rfl; (case inst => exact inferInstance); exact rfl; with_reducible assumption) | ((with_reducible apply e_v); exact rfl) | ((with_reducible apply e_ld_el1); exact rfl; exact rfl; exact rfl; (first | with_reducible assumption | exact gt_row (by omega) (by omega) | exact rfl); exact rfl) | ((with_reducible apply e_ld_eln); exact rfl; exact rfl; exact rfl; (first | with_reducible assumption | exact gt_row (by omega) (by omega) | exact rfl); exact Nat.le_of_ble_eq_true rfl) | ((with_reducible apply f_ia); exact rfl; exact rfl; exact rfl; (case inst => exact inferInstance); exact rfl; exact rfl; (first | with_reducible assumption | (apply chk_c; exact hP; (first | (guard_target = Prop; rotate_left 1) | skip)))) | ((with_reducible apply f_iasl); exact rfl; exact rfl; exact rfl; (first | with_reducible assumption | (apply chk_c; exact hP; (first | (guard_target = Prop; rotate_left 1) | skip)))) | ((with_reducible apply e_ia_ar); exact rfl; exact rfl; exact rfl; ((repeat ((fail_if_success (have hTest : Hld False := hP)); (have hq := chk_c hP); (replace hP := chk_p hP))); first | with_reducible assumption | (apply chk_c; exact hP; (first | (guard_target = Prop; rotate_left 1) | skip))); ((repeat ((fail_if_success (have hTest : Hld False := hP)); (have hq := chk_c hP); (replace hP := chk_p hP))); first | with_reducible assumption | (apply chk_c; exact hP; (first | (guard_target = Prop; rotate_left 1) | skip))); (first | with_reducible exact Int.toNat_natCast _ | exact rfl)))) | ((with_reducible apply (d_e (some [900]))); exact rfl; exact rfl; kernel_rfl; kernel_rfl; exact rfl; exact rfl; (first | ((with_reducible apply e_ld_t); exact rfl; exact rfl; (case inst => exact inferInstance); exact rfl; with_reducible assumption) | ((with_reducible apply e_v); exact rfl) | ((with_reducible apply e_ld_el1); exact rfl; exact rfl; exact rfl; (first | with_reducible assumption | exact gt_row (by omega) (by omega) | exact rfl); exact rfl) | ((with_reducible apply e_ld_eln); exact rfl; exact rfl; exact rfl; (first | with_reducible assumption | exact gt_row (by omega) (by omega) | exact rfl); exact Nat.le_of_ble_eq_true rfl) | ((with_reducible apply f_ia); exact rfl; exact rfl; exact rfl; (case inst => exact inferInstance); exact rfl; exact rfl; (first | with_reducible assumption | (apply chk_c; exact hP; (first | (guard_target = Prop; rotate_left 1) | skip)))) | ((with_reducible apply f_iasl); exact rfl; exact rfl; exact rfl; (first | with_reducible assumption | (apply chk_c; exact hP; (first | (guard_target = Prop; rotate_left 1) | skip)))) | ((with_reducible apply e_ia_ar); exact rfl; exact rfl; exact rfl; ((repeat ((fail_if_success (have hTest : Hld False := hP)); (have hq := chk_c hP); (replace hP := chk_p hP))); first | with_reducible assumption | (apply chk_c; exact hP; (first | (guard_target = Prop; rotate_left 1) | skip))); ((repeat ((fail_if_success (have hTest : Hld False := hP)); (have hq := chk_c hP); (replace hP := chk_p hP))); first | with_reducible assumption | (apply chk_c; exact hP; (first | (guard_target = Prop; rotate_left 1) | skip))); (first | with_reducible exact Int.toNat_natCast _ | exact rfl)))) | ((with_reducible apply d_st); exact rfl; exact (by decide +kernel); exact rfl; exact rfl; exact rfl; exact rfl; exact rfl; exact rfl; exact rfl) | ((apply (v_dste (f := brow))); exact rfl; exact (by decide +kernel); exact rfl; exact rfl; exact rfl; (case inst => exact inferInstance); exact rfl; exact rfl; exact rfl; exact rfl; exact rfl; exact (brow_mk _); ((repeat ((fail_if_success (have hTest : Hld False := hP)); (have hq := chk_c hP); (replace hP := chk_p hP))); first | with_reducible assumption | (apply chk_c; exact hP; (first | (guard_target = Prop; rotate_left 1) | skip)))) | ((apply (v_dste (f := (lrow brow)))); exact rfl; exact (by decide +kernel); exact rfl; exact rfl; exact rfl; (case inst => exact inferInstance); exact rfl; exact rfl; exact rfl; exact rfl; exact rfl; (first | exact lrow_mk _ _ | exact (show [Cell.list []] = (lrow brow) [] from rfl)); ((repeat ((fail_if_success (have hTest : Hld False := hP)); (have hq := chk_c hP); (replace hP := chk_p hP))); first | with_reducible assumption | (apply chk_c; exact hP; (first | (guard_target = Prop; rotate_left 1) | skip)))) | ((with_reducible apply d_leaf); exact (by decide +kernel)) | ((fail_if_success (have hTest : Hld False := hP)); (replace hP := bth_b hP)))); all_goals (first | ((with_reducible apply n_doneZ); exact rfl; exact (by decide +kernel)) | skip))))
    | ((with_reducible apply v_gs); exact rfl; exact rfl; (exact hP); all_goals (clear hP; intro hg hP))
    | ((with_reducible apply v_if); exact rfl; (exact hP); all_goals (clear hP; intro hc hP)))
theorem gt_sq {α : Type} [Inhabited α] {l : List α} {i p : Int} {v : α} (hi : 0 ≤ i) (h0 : 0 ≤ p) (h : p < l.length) : gt (l.set i.toNat v) p = if p = i then v else gt l p := by
  rw [gt_eq (by simp; omega), gt_eq (by omega), List.getElem_set]
  by_cases e : p = i
  · simp [e]
  · rw [if_neg e, if_neg (by omega)]
abbrev tbv (l : List (List Bool)) : SV := .one (.d (.list (l.map (lrow brow))))
def edgeL (evs : List Mb) (t p g : Int) : Bool := evs.foldl (fun b x => if x.time ≤ t ∧ x.prin = p ∧ x.grp = g then decide (x.kind = 1) else b) false
def tblL (n : Nat) (evs : List Mb) (t : Int) : List (List Bool) := (List.range n).map fun (p : Nat) => (List.range n).map fun (g : Nat) => edgeL evs t p g
def atT (d : Dir) (t : Int) : List (List Bool) := tblL d.kinds.length d.evs t
theorem edgeL_snoc (evs : List Mb) (x : Mb) (t p g : Int) : edgeL (evs ++ [x]) t p g = if x.time ≤ t ∧ x.prin = p ∧ x.grp = g then decide (x.kind = 1) else edgeL evs t p g := by
  unfold edgeL; rw [List.foldl_append]; rfl
theorem set_range {α : Type} {n i : Nat} {f : Nat → α} {v : α} : ((List.range n).map f).set i v = (List.range n).map fun j => if j = i then v else f j := by
  refine List.ext_getElem (by simp) fun k h1 h2 => ?_
  simp only [List.getElem_set, List.getElem_map, List.getElem_range]
  by_cases e : i = k
  · rw [if_pos e, if_pos e.symm]
  · rw [if_neg e, if_neg fun h => e h.symm]
theorem gt_range {α : Type} [Inhabited α] {n : Nat} {f : Nat → α} {i : Int} (h0 : 0 ≤ i) (h : i < (n : Int)) : gt ((List.range n).map f) i = f i.toNat := by
  rw [gt_eq (by simp; omega)]; simp
theorem tblL_len (n : Nat) (evs : List Mb) (t : Int) : (tblL n evs t).length = n := by simp [tblL]
theorem tblL_row {n : Nat} {evs : List Mb} {t p : Int} (h0 : 0 ≤ p) (h : p < (n : Int)) : gt (tblL n evs t) p = (List.range n).map fun (g : Nat) => edgeL evs t p g := by
  unfold tblL; rw [gt_range h0 h, show ((p.toNat : Nat) : Int) = p by omega]
theorem tblL_rowlen {n : Nat} {evs : List Mb} {t p : Int} (h0 : 0 ≤ p) (h : p < (n : Int)) : (gt (tblL n evs t) p).length = n := by
  rw [tblL_row h0 h]; simp
theorem tblL_snoc {n : Nat} {evs : List Mb} {x : Mb} {t : Int} (h0 : 0 ≤ x.prin) (h : x.prin < (n : Int)) (g0 : 0 ≤ x.grp) (g1 : x.grp < (n : Int)) (ht : x.time ≤ t) : (tblL n evs t).set x.prin.toNat ((gt (tblL n evs t) x.prin).set x.grp.toNat (decide (x.kind = 1))) = tblL n (evs ++ [x]) t := by
  rw [tblL_row h0 h, set_range]
  unfold tblL
  rw [set_range]
  refine List.map_congr_left fun j hj => ?_
  have hj' := List.mem_range.1 hj
  by_cases e : j = x.prin.toNat
  · rw [if_pos e]
    refine List.map_congr_left fun k hk => ?_
    have hk' := List.mem_range.1 hk
    rw [edgeL_snoc]
    by_cases e2 : k = x.grp.toNat
    · rw [if_pos e2, if_pos ⟨ht, by omega, by omega⟩]
    · rw [if_neg e2, if_neg fun q => e2 (by omega), show ((j : Nat) : Int) = x.prin by omega]
  · rw [if_neg e]
    refine List.map_congr_left fun k hk => ?_
    rw [edgeL_snoc, if_neg fun q => e (by omega)]
theorem tblL_late {n : Nat} {evs : List Mb} {x : Mb} {t : Int} (ht : ¬ x.time ≤ t) : tblL n (evs ++ [x]) t = tblL n evs t := by
  unfold tblL
  refine List.map_congr_left fun j hj => List.map_congr_left fun k hk => ?_
  rw [edgeL_snoc, if_neg fun q => ht q.1]
theorem ev_in {d : Dir} (h : dirB d = true) {x : Mb} (hx : x ∈ d.evs) : (0 ≤ x.prin ∧ x.prin < (d.kinds.length : Int)) ∧ (0 ≤ x.grp ∧ x.grp < (d.kinds.length : Int)) := by
  obtain ⟨i, hi, rfl⟩ := mem_gt hx
  have := evOk_iff.1 ((dirB_iff.1 h).2.2.2 i hi)
  have h4 := this.2.2.2.1
  have h5 := this.2.2.2.2.1
  simp [Dir.ex, Dir.grp] at h4 h5
  exact ⟨h4, h5.1⟩
theorem at23_ic (d : Dir) (t : Int) : ICp (dirB d = true) 204 [d.v, iv t] (fun v => v = tbv (atT d t)) := fun hd => (at23_V d t _).2 (by
  have hl := (dirB_iff.1 hd).1
  (delta at23_V; dsimp only [mkV])
  (repeat' (first | with_reducible refine brn_nd (fun h => ?_) (fun h => ?_) | with_reducible refine brn_d (fun h => ?_) (fun h => ?_) | with_reducible refine brn_nn (fun h => ?_) (fun h => ?_) | with_reducible refine brn_nb (fun h => ?_) (fun h => ?_) | with_reducible refine Brn.mk (fun h => ?_) (fun h => ?_) | with_reducible refine Chk.mk ?_ ?_ | with_reducible refine Bth.mk ?_ ?_ | with_reducible refine Fct.mk (fun hf => ?_)))
  · omega
  rw [show (List.replicate ((d.kinds.length : Int)).toNat ([] : List Bool)).length = d.kinds.length by simp]
  refine up2 (fun a z => a.length = d.kinds.length ∧ ∀ j : Nat, (j : Int) < z → gt a j = List.replicate d.kinds.length false) (by omega) ⟨by simp, fun j hj => by omega⟩ ?_ ?_
  · rintro I μ a z h0 h1 ⟨hj, hk⟩ nx
    (repeat' (first | with_reducible refine brn_nd (fun h => ?_) (fun h => ?_) | with_reducible refine brn_d (fun h => ?_) (fun h => ?_) | with_reducible refine brn_nn (fun h => ?_) (fun h => ?_) | with_reducible refine brn_nb (fun h => ?_) (fun h => ?_) | with_reducible refine Brn.mk (fun h => ?_) (fun h => ?_) | with_reducible refine Chk.mk ?_ ?_ | with_reducible refine Bth.mk ?_ ?_ | with_reducible refine Fct.mk (fun hf => ?_)))
    · omega
    · omega
    rw [show ((d.kinds.length : Int)).toNat = d.kinds.length by omega]
    refine nx _ ⟨by simp [hj], fun j hj' => ?_⟩
    rw [gt_sq h0 (by omega) (by omega)]
    by_cases e : (j : Int) = z
    · rw [if_pos e]
    · rw [if_neg e]; exact hk j (by omega)
  rintro I μ a ⟨ha, hr⟩
  (repeat' (first | with_reducible refine brn_nd (fun h => ?_) (fun h => ?_) | with_reducible refine brn_d (fun h => ?_) (fun h => ?_) | with_reducible refine brn_nn (fun h => ?_) (fun h => ?_) | with_reducible refine brn_nb (fun h => ?_) (fun h => ?_) | with_reducible refine Brn.mk (fun h => ?_) (fun h => ?_) | with_reducible refine Chk.mk ?_ ?_ | with_reducible refine Bth.mk ?_ ?_ | with_reducible refine Fct.mk (fun hf => ?_)))
  have h00 : a = tblL d.kinds.length [] t := by
    refine List.ext_getElem (by simp [ha, tblL_len]) fun k h1 h2 => ?_
    have := hr k (by omega)
    rw [gt_nat h1] at this
    rw [this]
    simp only [tblL, List.getElem_map, edgeL, List.foldl_nil]
    refine List.ext_getElem (by simp) fun k h1 h2 => by simp
  refine up2 (fun b z => b = tblL d.kinds.length (d.evs.take z.toNat) t) (by omega) (by simpa using h00) ?_ ?_
  · rintro I μ b z h0 h1 rfl nx
    have hm := ev_in hd (gt_mem h0 h1)
    have ets : d.evs.take (z + 1).toNat = d.evs.take z.toNat ++ [gt d.evs z] := by
      have e : (z + 1).toNat = z.toNat + 1 := by omega
      rw [e, take_snoc (by omega), show ((z.toNat : Nat) : Int) = z by omega]
    (repeat' (first | with_reducible refine brn_nd (fun h => ?_) (fun h => ?_) | with_reducible refine brn_d (fun h => ?_) (fun h => ?_) | with_reducible refine brn_nn (fun h => ?_) (fun h => ?_) | with_reducible refine brn_nb (fun h => ?_) (fun h => ?_) | with_reducible refine Brn.mk (fun h => ?_) (fun h => ?_) | with_reducible refine Chk.mk ?_ ?_ | with_reducible refine Bth.mk ?_ ?_ | with_reducible refine Fct.mk (fun hf => ?_)))
    all_goals (try rw [tblL_len])
    all_goals (try rw [tblL_rowlen hm.1.1 hm.1.2])
    all_goals (first | omega | skip)
    · exact nx _ (by rw [ets]; exact tblL_snoc hm.1.1 hm.1.2 hm.2.1 hm.2.2 (by assumption))
    · exact nx _ (by rw [ets, tblL_late (by assumption)])
  · rintro I μ b rfl
    rw [List.take_of_length_le (by omega)]
    rfl)
end Go.Proofs.Ytcbppkfnfbdkhaa
