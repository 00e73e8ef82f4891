/- Archives: the reference's row, flush. -/
import Derived.Test.YtbnmcdnkeipdhaaHa
import Derived.Test.YtbnmcdnkeipdhaaFw
import Derived.Test.YtbnmcdnkeipdhaaLb4
set_option linter.all false
set_option maxRecDepth 20000
set_option maxHeartbeats 4000000
namespace Go.Proofs.Ytbnmcdnkeipdhaa
open Go.RowKit Go.Shelf
theorem gt_drop {b : List Int} {a i : Nat} (h : a + i < b.length) : gt (b.drop a) (i : Int) = gt b ((a : Int) + i) := by
  rw [gt_nat (by rw [List.length_drop]; omega), show (a : Int) + i = ((a + i : Nat) : Int) by omega, gt_nat h, List.getElem_drop]
theorem rrow_ic (b : List Int) (at_ : Int) : ICp (0 ≤ at_ ∧ at_ < b.length) 80 [by_ b, iv at_] (fun v => v = iv (rowS (b.drop at_.toNat))) := fun h0 => (rrow_V b at_ _).2 (by
  (delta rrow_V; dsimp only [mkV])
  (repeat' (first | with_reducible refine brn_nd (fun h => ?_) (fun h => ?_) | with_reducible refine brn_d (fun h => ?_) (fun h => ?_) | with_reducible refine brn_nn (fun h => ?_) (fun h => ?_) | with_reducible refine brn_nb (fun h => ?_) (fun h => ?_) | with_reducible refine Brn.mk (fun h => ?_) (fun h => ?_) | with_reducible refine Chk.mk ?_ ?_ | with_reducible refine Bth.mk ?_ ?_ | with_reducible refine Fct.mk (fun hf => ?_)))
  obtain ⟨a, rfl⟩ : ∃ a : Nat, at_ = a := ⟨at_.toNat, by omega⟩
  have hs : rowS (b.drop a) = 1 + rowF (gt b a) (b.drop (a + 1)) := by
    have := gt_drop (b := b) (a := a) (i := 0) (by omega)
    unfold rowS
    rw [List.drop_drop, show ((0 : Nat) : Int) = 0 from rfl] at *
    rw [this]; simp
  refine lp1 (fun z => 1 ≤ z ∧ (a : Int) + z ≤ b.length ∧ rowF (gt b a) (b.drop (a + 1)) = (z.toNat - 1) + rowF (gt b a) (b.drop (a + z.toNat))) (fun z => ((b.length : Int) - z).toNat) ⟨by omega, by omega, by simp⟩ ?_
  rintro I μ nx z ⟨h1, h2, h3⟩
  obtain ⟨i, rfl⟩ : ∃ i : Nat, z = i := ⟨z.toNat, by omega⟩
  simp only [Int.toNat_natCast] at h3 ⊢
  (repeat' (first | with_reducible refine brn_nd (fun h => ?_) (fun h => ?_) | with_reducible refine brn_d (fun h => ?_) (fun h => ?_) | with_reducible refine brn_nn (fun h => ?_) (fun h => ?_) | with_reducible refine brn_nb (fun h => ?_) (fun h => ?_) | with_reducible refine Brn.mk (fun h => ?_) (fun h => ?_) | with_reducible refine Chk.mk ?_ ?_ | with_reducible refine Bth.mk ?_ ?_ | with_reducible refine Fct.mk (fun hf => ?_)))
  all_goals first | omega | (unfold InI; omega) | skip
  · have hd := drop_hd (l := b) (i := a + i) (by omega)
    have h4 := h3
    rw [hd, rowF, if_pos (by rw [show ((a + i : Nat) : Int) = (a : Int) + i by omega]; assumption)] at h4
    exact nx _ _ ⟨h1, h2, by simpa using h3⟩ ⟨by omega, by omega, by rw [show ((i : Int) + 1).toNat = i + 1 by omega]; rw [show a + (i + 1) = a + i + 1 by omega]; omega⟩ (by omega)
  · have hd := drop_hd (l := b) (i := a + i) (by omega)
    rw [hd, rowF, if_neg (by rw [show ((a + i : Nat) : Int) = (a : Int) + i by omega]; assumption)] at h3
    exact congrArg iv (by omega)
  · rw [List.drop_eq_nil_of_le (show b.length ≤ a + i by omega), rowF] at h3
    exact congrArg iv (by omega))
noncomputable def flush_V (out : List Int) (b : List Int) (x0 : List Int) : Σ' P : Prop, (P → ICh Try.prog 26 81 false [.one (.sl 0 (List.length out) 1), .one (.d (.list (List.map irow_u8 b)))] [.arr 5 1 (List.map irow_u8 out)] (fun x y => x = .one (.sl 0 (List.length x0) 1) ∧ y = [.arr 5 1 (List.map irow_u8 x0)])) := by
  apply mkV; intro hP
  refine ich_wk (K 26) Try.func81 rfl rfl rfl rfl (fun w0 u => ?_)
  change wk _ _ _ _ (St.mk _ [(0, .arr 5 1 (List.map irow_u8 out))])
  apply (v_klist (x := 1)); exact rfl; exact hP; clear hP; intro hP
  repeat' (first
    | (with_reducible (first | apply c_seq | apply c_rg | apply j_nil | apply q_n | apply c_bl | apply c_ex | apply c_ret | apply c_sk | apply q_e | apply b_e | apply b_n | apply n_n | apply n_e))
    | ((with_reducible apply v_sl); exact rfl; exact rfl; exact rfl; exact rfl; exact (fun _ => rfl); (first | with_reducible assumption))
    | ((with_reducible apply v_min); exact rfl; exact rfl; exact rfl)
    | ((with_reducible apply j_v); exact rfl; exact rfl)
    | ((with_reducible apply v_lenm); exact rfl; exact rfl; exact rfl; (exact hP); clear hP; intro hP)
    | ((with_reducible apply r_h1); (first | exact .inl rfl); exact rfl; exact rfl; exact rfl; (first | exact rfl); (exact hP.out))
    | ((with_reducible refine v_loopat (c := (.seq (.seq (.region 1 _ _) _) _)) ?_); (apply (v_loop2 _ _ [] [] (fun x1 x2 => [(0, .one (.sl 0 (List.length x1) 1)), (1, .one (.d (.list (List.map irow_u8 x2))))]) (fun x1 x2 => [(0, .arr 5 1 (List.map irow_u8 x1))]) [])); exact rfl; exact rfl; (focus (refine ⟨?_, ?_⟩; rotate_left 1; (focus (repeat' (first | exact .nil | refine .cons ?_ ?_ | exact .arr rfl (by first | rfl | assumption | simp)))); (focus (repeat' (first | exact .nil | refine .cons ?_ ?_ | exact SVle_pl rfl | refine .one ?_ | exact .sl rfl (by first | rfl | exact List.length_set.symm | exact (splT_len (by simp only [List.length_take, List.length_drop]; omega)).symm | omega | (rw [List.length_append, List.length_map]; show _ + 1 = _; omega) | simp)))))); (exact hP); clear hP; intro I μ x1 x2 hP)
    | ((with_reducible apply (v_nxt2 (a1 := _) (a2 := _))); rotate_left 1; (focus (repeat' (first | exact .nil | refine .cons ?_ ?_ | exact .arr rfl (by first | rfl | assumption | simp)))); rotate_right 1; (focus (repeat' (first | exact .nil | refine .cons ?_ ?_ | exact SVle_pl rfl | refine .one ?_ | exact .sl rfl (by first | rfl | exact List.length_set.symm | exact (splT_len (by simp only [List.length_take, List.length_drop]; omega)).symm | omega | (rw [List.length_append, List.length_map]; show _ + 1 = _; omega) | simp)))); (exact hP))
    | ((with_reducible refine v_rgat (i := 3) ?_); (refine n_start (by kernel_rfl) ?_; ((apply (n_pure 0 (by kernel_rfl) rfl rfl (by kernel_rfl) (by kernel_rfl)); (first | exact p_mv (v := .one _) rfl rfl)); (apply (n_pure 1 (by kernel_rfl) rfl rfl (by kernel_rfl) (by kernel_rfl)); (first | exact p_mv (v := .one (.d _)) rfl rfl)); (apply (n_pure 6 (by kernel_rfl) rfl rfl (by kernel_rfl) (by kernel_rfl)); (first | exact p_mv (v := .one (.d _)) rfl rfl)); (apply (n_pure 7 (by kernel_rfl) rfl rfl (by kernel_rfl) (by kernel_rfl)); (first | exact p_mv (v := .one (.d _)) rfl rfl)); (all_goals (refine n_two 2 8 (by decide +kernel) rfl rfl ?_ ?_; rotate_right; (focus ((repeat' (first | ((fail_if_success (have hTest : Hld False := hP)); (have hq := chk_c hP); (replace hP := chk_p hP)) | (with_reducible (first | apply j_nil)) | ((with_reducible apply v_sh); exact rfl; exact rfl; exact rfl; exact rfl; exact (fun _ => rfl); (apply chk_c; exact hP; (first | skip))))); all_goals (refine n_quiet none #[false, false, true, true, true, false, false, false, false, false, false] [2, 3, 4] 3 rfl ?_; (repeat' (first | ((fail_if_success (have hTest : Hld False := hP)); (have hq := chk_c hP); (replace hP := chk_p hP)) | ((with_reducible apply (d_e (some []))); exact rfl; exact rfl; kernel_rfl; kernel_rfl; exact rfl; exact rfl; (first | ((with_reducible apply e_sub); exact rfl; exact rfl; (with_reducible apply wr_i64; (apply chk_c; exact hP; (first | skip)))) | ((with_reducible apply (f_conv (t := 3) (t' := 5) .u8)); kernel_rfl; exact rfl; exact wr_u8t))) | ((with_reducible apply (v_dbsf (d := 16) (irow_u8))); exact rfl; exact rfl; exact (by decide +kernel); exact rfl; exact rfl; exact rfl; exact rfl; exact rfl; exact rfl; exact rfl; exact rfl; exact rfl; exact (row_cons (irow_u8_mk _) row_nil); exact rfl) | ((with_reducible apply d_leaf); exact (by decide +kernel)))); all_goals (refine n_one 5 (by decide +kernel) rfl ?_; (repeat' (first | ((fail_if_success (have hTest : Hld False := hP)); (have hq := chk_c hP); (replace hP := chk_p hP)) | (with_reducible (first | apply j_nil)) | ((with_reducible apply (v_ap (irow_u8))); exact rfl; exact rfl; exact rfl; exact rfl; exact rfl; exact rfl; exact rfl; (first | exact rfl); exact rfl; exact rfl; exact rfl; (apply src_d; exact rfl; (intro row hrow; obtain ⟨q, _, rfl⟩ := List.mem_map.1 hrow; rfl)); (first | exact rfl); exact rfl; exact rfl; exact rfl; (apply chk_c; exact hP; (first | skip))))); all_goals (all_goals (refine n_one 9 (by decide +kernel) rfl ?_; (repeat' (first | ((fail_if_success (have hTest : Hld False := hP)); (have hq := chk_c hP); (replace hP := chk_p hP)) | (with_reducible (first | apply j_nil)) | ((with_reducible apply (v_ap (irow_u8))); exact rfl; exact rfl; exact rfl; exact rfl; exact rfl; exact rfl; exact rfl; (first | exact rfl); exact rfl; exact rfl; exact rfl; (apply src_d; exact rfl; (intro row hrow; obtain ⟨q, _, rfl⟩ := List.mem_map.1 hrow; rfl)); (first | exact rfl); exact rfl; exact rfl; exact rfl; (apply chk_c; exact hP; (first | skip))))); all_goals (refine n_quiet none #[false, false, false, false, false, false, false, false, false, false, true] [10] 0 rfl ?_; (repeat' (first | ((with_reducible apply (d_e (some []))); exact rfl; exact rfl; kernel_rfl; kernel_rfl; exact rfl; exact rfl; ((with_reducible apply e_v); exact rfl)) | ((with_reducible apply d_leaf); exact (by decide +kernel)))); all_goals ((with_reducible apply n_doneZ); exact rfl; exact (by decide +kernel))))))))); rotate_right; (focus ((repeat' (first | ((fail_if_success (have hTest : Hld False := hP)); (have hq := chk_c hP); (replace hP := chk_p hP)) | (with_reducible (first | apply j_nil)) | ((with_reducible apply j_sub); exact rfl; exact rfl; exact rfl; (with_reducible apply wr_i64; (first | with_reducible assumption))))); all_goals (all_goals (refine n_two 3 8 (by decide +kernel) rfl rfl ?_ ?_; rotate_right; (focus ((repeat' (first | (with_reducible (first | apply j_nil)) | ((with_reducible apply v_sh); exact rfl; exact rfl; exact rfl; exact rfl; exact (fun _ => rfl); (first | with_reducible assumption)))); all_goals (refine n_quiet none #[false, false, false, true, true, false, false, false, false, false, false] [3, 4] 3 rfl ?_; (repeat' (first | ((with_reducible apply (d_e (some []))); exact rfl; exact rfl; kernel_rfl; kernel_rfl; exact rfl; exact rfl; ((with_reducible apply (f_conv (t := 3) (t' := 5) .u8)); kernel_rfl; exact rfl; exact wr_u8t)) | ((with_reducible apply (v_dbsf (d := 16) (irow_u8))); exact rfl; exact rfl; exact (by decide +kernel); exact rfl; exact rfl; exact rfl; exact rfl; exact rfl; exact rfl; exact rfl; exact rfl; exact rfl; exact (row_cons (irow_u8_mk _) row_nil); exact rfl) | ((with_reducible apply d_leaf); exact (by decide +kernel)))); all_goals (refine n_one 5 (by decide +kernel) rfl ?_; (repeat' (first | (with_reducible (first | apply j_nil)) | ((with_reducible apply (v_ap (irow_u8))); exact rfl; exact rfl; exact rfl; exact rfl; exact rfl; exact rfl; exact rfl; (first | exact rfl); exact rfl; exact rfl; exact rfl; (apply src_d; exact rfl; (intro row hrow; obtain ⟨q, _, rfl⟩ := List.mem_map.1 hrow; rfl)); (first | exact rfl); exact rfl; exact rfl; exact rfl; (first | with_reducible assumption)))); all_goals (all_goals (refine n_one 9 (by decide +kernel) rfl ?_; (repeat' (first | (with_reducible (first | apply j_nil)) | ((with_reducible apply (v_ap (irow_u8))); exact rfl; exact rfl; exact rfl; exact rfl; exact rfl; exact rfl; exact rfl; (first | exact rfl); exact rfl; exact rfl; exact rfl; (apply src_d; exact rfl; (intro row hrow; obtain ⟨q, _, rfl⟩ := List.mem_map.1 hrow; rfl)); (first | exact rfl); exact rfl; exact rfl; exact rfl; (first | with_reducible assumption)))); all_goals (refine n_quiet none #[false, false, false, false, false, false, false, false, false, false, true] [10] 0 rfl ?_; (repeat' (first | ((with_reducible apply (d_e (some []))); exact rfl; exact rfl; kernel_rfl; kernel_rfl; exact rfl; exact rfl; ((with_reducible apply e_v); exact rfl)) | ((with_reducible apply d_leaf); exact (by decide +kernel)))); all_goals ((with_reducible apply n_doneZ); exact rfl; exact (by decide +kernel))))))))); rotate_right; (focus ((repeat' (first | (with_reducible (first | apply j_nil)) | ((with_reducible apply (v_conv (t := 3) (t' := 5) .u8)); exact rfl; kernel_rfl; exact rfl; exact wr_u8t))); all_goals (all_goals (refine n_two 4 8 (by decide +kernel) rfl rfl ?_ ?_; rotate_right; (focus ((repeat' (first | (with_reducible (first | apply j_nil)) | ((with_reducible apply v_sh); exact rfl; exact rfl; exact rfl; exact rfl; exact (fun _ => rfl); (first | with_reducible assumption)))); all_goals (refine n_quiet none #[false, false, false, false, true, false, false, false, false, false, false] [4] 3 rfl ?_; (repeat' (first | ((with_reducible apply (v_dbsf (d := 16) (irow_u8))); exact rfl; exact rfl; exact (by decide +kernel); exact rfl; exact rfl; exact rfl; exact rfl; exact rfl; exact rfl; exact rfl; exact rfl; exact rfl; exact (row_cons (irow_u8_mk _) row_nil); exact rfl) | ((with_reducible apply d_leaf); exact (by decide +kernel)))); all_goals (refine n_one 5 (by decide +kernel) rfl ?_; (repeat' (first | (with_reducible (first | apply j_nil)) | ((with_reducible apply (v_ap (irow_u8))); exact rfl; exact rfl; exact rfl; exact rfl; exact rfl; exact rfl; exact rfl; (first | exact rfl); exact rfl; exact rfl; exact rfl; (apply src_d; exact rfl; (intro row hrow; obtain ⟨q, _, rfl⟩ := List.mem_map.1 hrow; rfl)); (first | exact rfl); exact rfl; exact rfl; exact rfl; (first | with_reducible assumption)))); all_goals (all_goals (refine n_one 9 (by decide +kernel) rfl ?_; (repeat' (first | (with_reducible (first | apply j_nil)) | ((with_reducible apply (v_ap (irow_u8))); exact rfl; exact rfl; exact rfl; exact rfl; exact rfl; exact rfl; exact rfl; (first | exact rfl); exact rfl; exact rfl; exact rfl; (apply src_d; exact rfl; (intro row hrow; obtain ⟨q, _, rfl⟩ := List.mem_map.1 hrow; rfl)); (first | exact rfl); exact rfl; exact rfl; exact rfl; (first | with_reducible assumption)))); all_goals (refine n_quiet none #[false, false, false, false, false, false, false, false, false, false, true] [10] 0 rfl ?_; (repeat' (first | ((with_reducible apply (d_e (some []))); exact rfl; exact rfl; kernel_rfl; kernel_rfl; exact rfl; exact rfl; ((with_reducible apply e_v); exact rfl)) | ((with_reducible apply d_leaf); exact (by decide +kernel)))); all_goals ((with_reducible apply n_doneZ); exact rfl; exact (by decide +kernel))))))))); rotate_right; (focus ((repeat' (first | (with_reducible (first | apply j_nil)) | ((with_reducible apply (v_bs (irow_u8))); exact rfl; exact rfl; exact (row_cons (irow_u8_mk _) row_nil); exact rfl))); all_goals (all_goals (refine n_two 5 8 (by decide +kernel) rfl rfl ?_ ?_; rotate_right; (focus ((repeat' (first | (with_reducible (first | apply j_nil)) | ((with_reducible apply v_sh); exact rfl; exact rfl; exact rfl; exact rfl; exact (fun _ => rfl); (first | with_reducible assumption)))); all_goals (all_goals (refine n_one 5 (by decide +kernel) rfl ?_; (repeat' (first | (with_reducible (first | apply j_nil)) | ((with_reducible apply (v_ap (irow_u8))); exact rfl; exact rfl; exact rfl; exact rfl; exact rfl; exact rfl; exact rfl; (first | exact rfl); exact rfl; exact rfl; exact rfl; (apply src_sl; exact rfl; exact rfl; exact rfl); (first | exact rfl); exact rfl; exact rfl; exact rfl; (first | with_reducible assumption)))); all_goals (all_goals (refine n_one 9 (by decide +kernel) rfl ?_; (repeat' (first | (with_reducible (first | apply j_nil)) | ((with_reducible apply (v_ap (irow_u8))); exact rfl; exact rfl; exact rfl; exact rfl; exact rfl; exact rfl; exact rfl; (first | exact rfl); exact rfl; exact rfl; exact rfl; (apply src_d; exact rfl; (intro row hrow; obtain ⟨q, _, rfl⟩ := List.mem_map.1 hrow; rfl)); (first | exact rfl); exact rfl; exact rfl; exact rfl; (first | with_reducible assumption)))); all_goals (refine n_quiet none #[false, false, false, false, false, false, false, false, false, false, true] [10] 0 rfl ?_; (repeat' (first | ((with_reducible apply (d_e (some []))); exact rfl; exact rfl; kernel_rfl; kernel_rfl; exact rfl; exact rfl; ((with_reducible apply e_v); exact rfl)) | ((with_reducible apply d_leaf); exact (by decide +kernel)))); all_goals ((with_reducible apply n_doneZ); exact rfl; exact (by decide +kernel))))))))); rotate_right; (focus ((repeat' (first | (with_reducible (first | apply j_nil)) | ((with_reducible apply (v_ap (irow_u8))); exact rfl; exact rfl; exact rfl; exact rfl; exact rfl; exact rfl; exact rfl; (first | exact rfl); exact rfl; exact rfl; exact rfl; (apply src_sl; exact rfl; exact rfl; exact rfl); (first | exact rfl); exact rfl; exact rfl; exact rfl; (first | with_reducible assumption)))); all_goals (refine n_quiet none #[false, false, false, false, false, false, false, false, true, false, false] [8] 2 rfl ?_; (repeat' (first | ((with_reducible apply (d_e (some []))); exact rfl; exact rfl; kernel_rfl; kernel_rfl; exact rfl; exact rfl; ((with_reducible apply f_sh); exact rfl; exact rfl; exact rfl; exact (fun _ => rfl); (first | with_reducible assumption))) | ((with_reducible apply d_leaf); exact (by decide +kernel)))); all_goals (refine n_one 9 (by decide +kernel) rfl ?_; (repeat' (first | (with_reducible (first | apply j_nil)) | ((with_reducible apply (v_ap (irow_u8))); exact rfl; exact rfl; exact rfl; exact rfl; exact rfl; exact rfl; exact rfl; (first | exact rfl); exact rfl; exact rfl; exact rfl; (apply src_d; exact rfl; (intro row hrow; obtain ⟨q, _, rfl⟩ := List.mem_map.1 hrow; rfl)); (first | exact rfl); exact rfl; exact rfl; exact rfl; (first | with_reducible assumption)))); all_goals (refine n_quiet none #[false, false, false, false, false, false, false, false, false, false, true] [10] 0 rfl ?_; (repeat' (first | ((with_reducible apply (d_e (some []))); exact rfl; exact rfl; kernel_rfl; kernel_rfl; exact rfl; exact rfl; ((with_reducible apply e_v); exact rfl)) | ((with_reducible apply d_leaf); exact (by decide +kernel)))); all_goals ((with_reducible apply n_doneZ); exact rfl; exact (by decide +kernel))))))))))))))))))))))))
    | ((with_reducible apply v_if); exact rfl; (exact hP); all_goals (clear hP; intro hc hP)))
theorem flush_ica (out b : List Int) : ICa (out.length + 2 * b.length ≤ 900000000) 81 [.one (.sl 0 (List.length out) 1), by_ b] 5 1 (List.map irow_u8 out) (.one (.sl 0 (List.length (out ++ plS b)) 1)) (List.map irow_u8 (out ++ plS b)) := fun hp => (flush_V out b (out ++ plS b)).2 (by
  (delta flush_V; dsimp only [mkV])
  (repeat' (first | with_reducible refine brn_nd (fun h => ?_) (fun h => ?_) | with_reducible refine brn_d (fun h => ?_) (fun h => ?_) | with_reducible refine brn_nn (fun h => ?_) (fun h => ?_) | with_reducible refine brn_nb (fun h => ?_) (fun h => ?_) | with_reducible refine Brn.mk (fun h => ?_) (fun h => ?_) | with_reducible refine Chk.mk ?_ ?_ | with_reducible refine Bth.mk ?_ ?_ | with_reducible refine Fct.mk (fun hf => ?_)))
  refine lp2 (fun o c => o ++ plS c = out ++ plS b ∧ o.length + 2 * c.length ≤ out.length + 2 * b.length) (fun _ c => c.length) ⟨rfl, by omega⟩ ?_
  rintro I μ nx o c ⟨h1, h2⟩
  (repeat' (first | with_reducible refine brn_nd (fun h => ?_) (fun h => ?_) | with_reducible refine brn_d (fun h => ?_) (fun h => ?_) | with_reducible refine brn_nn (fun h => ?_) (fun h => ?_) | with_reducible refine brn_nb (fun h => ?_) (fun h => ?_) | with_reducible refine Brn.mk (fun h => ?_) (fun h => ?_) | with_reducible refine Chk.mk ?_ ?_ | with_reducible refine Bth.mk ?_ ?_ | with_reducible refine Fct.mk (fun hf => ?_)))
  · omega
  · unfold InI; omega
  · simp only [List.length_singleton]; omega
  · simp only [List.length_append, List.length_singleton, List.length_take]; omega
  · have hne : c ≠ [] := fun e => by subst e; simp at *
    have e1 : min 128 (c.length : Int) = ((min 128 c.length : Nat) : Int) := by omega
    rw [e1, Int.toNat_natCast, List.take_eq_take_min.symm]
    have ht : c.take (min 128 c.length) = c.take 128 := by rw [← List.take_eq_take_min]
    have hd : c.drop (min 128 c.length) = c.drop 128 := by
      by_cases hc : 128 ≤ c.length
      · rw [Nat.min_eq_left hc]
      · rw [Nat.min_eq_right (by omega), List.drop_length, List.drop_eq_nil_of_le (by omega)]
    refine nx _ _ _ _ ⟨h1, h2⟩ ⟨?_, ?_⟩ ?_
    · rw [plS_cons hne] at h1
      rw [← h1, hd]
      simp only [List.append_assoc, List.cons_append, List.nil_append, ht]
    · simp only [List.length_append, List.length_singleton, List.length_take, List.length_drop]; omega
    · rw [List.length_drop]; omega
  · have hne : c = [] := List.eq_nil_of_length_eq_zero (by omega)
    subst hne
    rw [plS_nil, List.append_nil] at h1
    exact h1)
noncomputable def pieces_V (b : List Int) (Q : SV → Prop) : Σ' P : Prop, (P → ICt 64 [.one (.d (.list (List.map irow_u8 b)))] Q) := by
  apply mkV; intro hP
  refine ic_wk (K 63) Try.func64 rfl rfl rfl rfl (fun w0 => ?_)
  apply (v_klist (x := 0)); exact rfl; exact hP; clear hP; intro hP
  repeat' (first
    | ((apply (v_fzl (o := ⟨some 30, _, _, _, _, _⟩) 59)); exact rfl; exact rfl; exact rfl; (· repeat' (first | exact True.intro | refine And.intro ?_ ?_ | (show (_ : Nat) = _; (first | exact (List.length_map _).symm)))))
    | ((apply (v_fzl (o := ⟨some 62, _, _, _, _, _⟩) 59)); exact rfl; exact rfl; exact rfl; (· repeat' (first | exact True.intro | refine And.intro ?_ ?_ | (show (_ : Nat) = _; (first | exact (List.length_map _).symm)))))
    | ((fail_if_success (have hTest : Hld False := hP)); (have hq := chk_c hP); (replace hP := chk_p hP))
    | (with_reducible (first | apply c_seq | apply c_rg | apply j_nil | apply q_n | apply c_bl | apply c_ex | apply c_ret | apply c_sk | apply q_e | apply b_e | apply b_n | apply n_n | apply n_e))
    | ((with_reducible apply v_slh); exact rfl; exact rfl; exact rfl; exact rfl; exact rfl; exact (fun _ => rfl); (apply chk_c; exact hP; (first | skip)))
    | ((with_reducible apply (v_conv (t := 3) (t' := 5) .u8)); exact rfl; kernel_rfl; exact rfl; exact wr_u8t)
    | ((with_reducible apply v_min); exact rfl; exact rfl; exact rfl)
    | ((with_reducible apply j_v); exact rfl; exact rfl)
    | ((with_reducible apply (v_bsf (d := 47) (irow_u8))); exact rfl; exact rfl; exact (row_cons (irow_u8_mk _) (row_cons (irow_u8_mk _) row_nil)); exact rfl; exact rfl)
    | ((with_reducible apply v_lenm); exact rfl; exact rfl; exact rfl; (exact hP); clear hP; intro hP)
    | ((with_reducible apply j_add); exact rfl; exact rfl; exact rfl; (with_reducible apply wr_i64; (first | with_reducible assumption | (apply chk_c; exact hP; (first | skip)))))
    | ((with_reducible apply j_sub); exact rfl; exact rfl; exact rfl; (with_reducible apply wr_i64; (apply chk_c; exact hP; (first | skip))))
    | ((with_reducible apply v_ia); exact rfl; exact rfl; exact rfl; exact rfl; (case inst => exact inferInstance); exact rfl; exact rfl; (apply chk_c; exact hP; (first | skip)))
    | ((with_reducible apply (v_ap (irow_u8))); exact rfl; exact rfl; exact rfl; exact rfl; exact rfl; exact rfl; exact rfl; (first | exact rfl); exact rfl; exact rfl; exact rfl; (apply src_d; exact rfl; (intro row hrow; obtain ⟨q, _, rfl⟩ := List.mem_map.1 hrow; rfl)); (first | exact rfl); exact rfl; exact rfl; exact rfl; (apply chk_c; exact hP; (first | skip)))
    | ((with_reducible apply (v_ap0 (irow_u8))); exact rfl; exact rfl; exact rfl; exact rfl; exact rfl; exact rfl; (apply src_d; exact rfl; (intro row hrow; obtain ⟨q, _, rfl⟩ := List.mem_map.1 hrow; rfl)); (first | exact rfl); exact rfl; exact rfl; exact rfl; (apply chk_c; exact hP; (first | skip)))
    | ((with_reducible apply r_g); exact rfl; (· repeat' (first | exact True.intro | refine And.intro ?_ ?_ | (show (_ : Nat) = _; (first | exact (List.length_map _).symm)))); (exact hP.out))
    | ((with_reducible apply v_call (pu := false)); exact rfl; exact ⟨rfl, rfl⟩; (apply (rrow_ic _ _); rotate_left 2); (focus ((repeat' (first | exact .nil _ | refine PsSL.cons ?_ ?_ | exact .one (.d _ _))) <;> fail)); exact .inr rfl; (apply chk_c; exact hP; (first | skip)))
    | ((with_reducible apply (v_calla1 (d := 30) 203)); exact rfl; exact ⟨rfl, rfl⟩; exact rfl; apply (flush_ica _ _); rotate_left 1; (focus ((repeat' (first | exact ArgN.nil | refine ArgN.nm rfl rfl rfl ?_)) <;> fail)); exact rfl; exact rfl; (apply chk_c; exact hP; (first | skip)))
    | ((with_reducible apply (v_calla1 (d := 62) 203)); exact rfl; exact ⟨rfl, rfl⟩; exact rfl; apply (flush_ica _ _); rotate_left 1; (focus ((repeat' (first | exact ArgN.nil | refine ArgN.nm rfl rfl rfl ?_)) <;> fail)); exact rfl; exact rfl; (apply chk_c; exact hP; (first | skip)))
    | ((with_reducible refine v_loopat (c := (.seq (.seq (.region 3 _ _) _) _)) ?_); (apply (v_loop3 [] [] _ [0] [] (fun x1 x2 x3 => [(3, .one (.sl 203 (List.length x2) 1)), (4, .one (.sl 59 (List.length x1) 1)), (5, .one (.d (.int .i64 x3)))]) (fun x1 x2 x3 => [(59, .arr 5 1 (List.map irow_u8 x1)), (203, .arr 5 1 (List.map irow_u8 x2))]) [59, 203])); exact rfl; exact rfl; (focus (refine ⟨?_, ?_⟩; rotate_left 1; (focus (repeat' (first | exact .nil | refine .cons ?_ ?_ | exact .virt rfl))); (focus (repeat' (first | exact .nil | refine .cons ?_ ?_ | exact SVle_pl rfl | refine .one ?_ | exact .nils rfl))))); (exact hP); clear hP; intro I μ x1 x2 x3 hP)
    | ((with_reducible apply (v_nxt3 (a1 := _) (a2 := _) (a3 := _))); rotate_left 1; (focus (repeat' (first | exact .nil | refine .cons ?_ ?_ | exact .arr rfl (by first | rfl | assumption | simp)))); rotate_right 1; (focus (repeat' (first | exact .nil | refine .cons ?_ ?_ | exact SVle_pl rfl | refine .one ?_ | exact .sl rfl (by first | rfl | exact List.length_set.symm | exact (splT_len (by simp only [List.length_take, List.length_drop]; omega)).symm | omega | (rw [List.length_append, List.length_map]; show _ + 1 = _; omega) | simp)))); (exact hP))
    | ((with_reducible refine v_loopat (c := (.seq (.seq (.region 10 _ _) _) _)) ?_); (apply (v_loop2 _ _ [0, 4, 5] [] (fun x1 x2 => [(3, .one (.sl 203 (List.length x1) 1)), (6, .one (.d (.int .i64 x2)))]) (fun x1 x2 => [(203, .arr 5 1 (List.map irow_u8 x1))]) [])); exact rfl; exact rfl; (focus (refine ⟨?_, ?_⟩; rotate_left 1; (focus (repeat' (first | exact .nil | refine .cons ?_ ?_ | exact .arr rfl (by first | rfl | assumption | simp)))); (focus (repeat' (first | exact .nil | refine .cons ?_ ?_ | exact SVle_pl rfl | refine .one ?_ | exact .sl rfl (by first | rfl | exact List.length_set.symm | exact (splT_len (by simp only [List.length_take, List.length_drop]; omega)).symm | omega | (rw [List.length_append, List.length_map]; show _ + 1 = _; omega) | simp)))))); (exact hP); clear hP; intro I μ x1 x2 hP)
    | ((with_reducible apply (v_nxt2 (a1 := _) (a2 := _))); rotate_left 1; (focus (repeat' (first | exact .nil | refine .cons ?_ ?_ | exact .arr rfl (by first | rfl | assumption | simp)))); rotate_right 1; (focus (repeat' (first | exact .nil | refine .cons ?_ ?_ | exact SVle_pl rfl | refine .one ?_ | exact .sl rfl (by first | rfl | exact List.length_set.symm | exact (splT_len (by simp only [List.length_take, List.length_drop]; omega)).symm | omega | (rw [List.length_append, List.length_map]; show _ + 1 = _; omega) | simp)))); (exact hP))
    | ((with_reducible apply v_if); exact rfl; (exact hP); all_goals (clear hP; intro hc hP)))
theorem part_nat (b : List Int) {i n : Nat} {x y : Int} (hx : x = i) (hy : y = ((i + n : Nat) : Int)) : part b x y = (b.drop i).take n := by
  subst hx hy
  unfold part
  rw [Int.toNat_natCast, Int.toNat_natCast, List.drop_take, Nat.add_sub_cancel_left]
theorem rowS_last {c : List Int} (h : 0 < c.length) : gt c ((rowS c - 1 : Nat) : Int) = gt c 0 := by
  have h1 := rowS_take (List.length_pos_iff.1 h)
  obtain ⟨h2, h3⟩ := rowS_le h
  have h4 : (c.take (rowS c))[rowS c - 1]? = (List.replicate (rowS c) (gt c 0))[rowS c - 1]? := by rw [h1]
  rw [List.getElem?_take_of_lt (by omega), List.getElem?_replicate, if_pos (by omega), List.getElem?_eq_getElem (by omega)] at h4
  rw [gt_nat (by omega)]
  injection h4
theorem pieces_ic (b : List Int) : ICp (b.length ≤ 1000000) 64 [by_ b] (fun v => v = by_ (packS b [] [])) := fun hl => (pieces_V b _).2 (by
  (delta pieces_V; dsimp only [mkV])
  (repeat' (first | with_reducible refine brn_nd (fun h => ?_) (fun h => ?_) | with_reducible refine brn_d (fun h => ?_) (fun h => ?_) | with_reducible refine brn_nn (fun h => ?_) (fun h => ?_) | with_reducible refine brn_nb (fun h => ?_) (fun h => ?_) | with_reducible refine Brn.mk (fun h => ?_) (fun h => ?_) | with_reducible refine Chk.mk ?_ ?_ | with_reducible refine Bth.mk ?_ ?_ | with_reducible refine Fct.mk (fun hf => ?_)))
  refine lp3 (fun wait out z => ∃ i : Nat, z = i ∧ i ≤ b.length ∧ packS (b.drop i) out wait = packS b [] [] ∧ out.length + 2 * wait.length + 2 * (b.length - i) ≤ 2 * b.length) (fun _ _ z => ((b.length : Int) - z).toNat) ⟨0, rfl, by omega, rfl, by simp⟩ ?_
  rintro I μ nx wait out z ⟨i, rfl, hi, h1, h2⟩
  rw [show ((i : Int)).toNat = i from rfl]
  have hw := plS_len wait
  have hr : i < b.length → 1 ≤ rowS (b.drop i) ∧ i + rowS (b.drop i) ≤ b.length := fun h => by
    have := rowS_le (b := b.drop i) (by simp; omega)
    rw [List.length_drop] at this; omega
  have hne : i < b.length → b.drop i ≠ [] := fun h e => by have := congrArg List.length e; simp at this; omega
  have hu := packS.eq_def (b.drop i) out wait
  (repeat' (first | with_reducible refine brn_nd (fun h => ?_) (fun h => ?_) | with_reducible refine brn_d (fun h => ?_) (fun h => ?_) | with_reducible refine brn_nn (fun h => ?_) (fun h => ?_) | with_reducible refine brn_nb (fun h => ?_) (fun h => ?_) | with_reducible refine Brn.mk (fun h => ?_) (fun h => ?_) | with_reducible refine Chk.mk ?_ ?_ | with_reducible refine Bth.mk ?_ ?_ | with_reducible refine Fct.mk (fun hf => ?_)))
  · omega
  · have := hr (by omega); unfold InI; omega
  · have := hr (by omega); omega
  · have := hr (by omega)
    rw [part_nat b (i := i) (n := rowS (b.drop i)) rfl (by omega)]
    simp only [List.length_take, List.length_drop]; omega
  · have hr1 := hr (by omega)
    rw [dif_neg (hne (by omega)), if_neg (by omega), List.drop_drop] at hu
    rw [part_nat b (i := i) (n := rowS (b.drop i)) rfl (by omega)]
    refine nx _ _ _ _ _ _ ⟨i, rfl, hi, h1, h2⟩ ⟨i + rowS (b.drop i), by omega, by omega, by rw [← hu, h1], ?_⟩ (by omega)
    simp only [List.length_append, List.length_take, List.length_drop]; omega
  · omega
  · have := hr (by omega); unfold InI; omega
  · have hr1 := hr (by omega)
    rw [dif_neg (hne (by omega)), if_pos (by omega), List.drop_drop, List.drop_drop] at hu
    have hx : gt b ((i : Int) + (rowS (b.drop i) : Int) - 1) = gt (b.drop i) 0 := by
      have h3 := rowS_last (c := b.drop i) (by simp; omega)
      rw [← h3, gt_drop (by omega)]
      congr 1; omega
    rw [hx]
    generalize hR : rowS (b.drop i) = R at *
    refine lp2 (fun o r => ∃ k : Nat, r = k ∧ k ≤ R ∧ o ++ eqB (gt (b.drop i) 0) k = out ++ plS wait ++ eqB (gt (b.drop i) 0) R ∧ eqR k = eqR R ∧ o.length + k ≤ out.length + (plS wait).length + R) (fun _ r => r.toNat) ⟨R, rfl, Nat.le_refl _, rfl, rfl, by simp⟩ ?_
    rintro I2 μ2 nx2 o r ⟨k, rfl, k1, k2, k3, k4⟩
    (repeat' (first | with_reducible refine brn_nd (fun h => ?_) (fun h => ?_) | with_reducible refine brn_d (fun h => ?_) (fun h => ?_) | with_reducible refine brn_nn (fun h => ?_) (fun h => ?_) | with_reducible refine brn_nb (fun h => ?_) (fun h => ?_) | with_reducible refine Brn.mk (fun h => ?_) (fun h => ?_) | with_reducible refine Chk.mk ?_ ?_ | with_reducible refine Bth.mk ?_ ?_ | with_reducible refine Fct.mk (fun hf => ?_)))
    · unfold InI; omega
    · unfold InI; omega
    · omega
    · simp; omega
    · unfold InI; omega
    · have e1 : min (k : Int) 130 = ((min k 130 : Nat) : Int) := by omega
      have e2 : (((min k 130 : Nat) : Int) + 125) % 256 = ((min k 130 : Nat) : Int) + 125 := by omega
      have k3' := k3
      have k2' := k2
      rw [eqB, dif_pos (by omega)] at k2'
      rw [eqR, dif_pos (by omega)] at k3'
      rw [e1, e2]
      refine nx2 _ _ _ _ ⟨k, rfl, k1, k2, k3, k4⟩ ⟨k - min k 130, by omega, by omega, ?_, k3', by simp; omega⟩ (by omega)
      rw [← k2']; simp
    all_goals (have hlt : ¬ 3 ≤ k := by omega)
    all_goals (have e3 : eqR k = k := by rw [eqR, dif_neg hlt])
    all_goals (have e4 : eqB (gt (b.drop i) 0) k = [] := by rw [eqB, dif_neg hlt])
    · unfold InI; omega
    · omega
    · rw [part_nat b (i := i + R - k) (n := k) (by omega) (by omega)]
      simp only [List.length_take, List.length_drop]; omega
    · rw [e4, List.append_nil] at k2
      rw [part_nat b (i := i + R - k) (n := k) (by omega) (by omega)]
      have ep : (b.drop (i + R - k)).take k = (b.drop (i + (R - eqR R))).take (eqR R) := by
        rw [← k3, e3, show i + R - k = i + (R - k) by omega]
      rw [ep]
      have hb := eqB_len (gt (b.drop i) 0) R
      have hol : o.length = out.length + (plS wait).length + (eqB (gt (b.drop i) 0) R).length := by rw [k2]; simp; omega
      refine nx _ _ _ _ _ _ ⟨i, rfl, hi, h1, h2⟩ ⟨i + R, by omega, by omega, by rw [k2, ← hu, h1], ?_⟩ (by omega)
      simp only [List.length_take, List.length_drop]; omega
  · omega
  · have hce : b.drop i = [] := List.drop_eq_nil_of_le (by omega)
    rw [dif_pos hce] at hu
    rw [← h1, hu])
end Go.Proofs.Ytbnmcdnkeipdhaa
