/- Where a rotation starts; the reference's pools. -/
import Derived.Test.YtcbppkfnfbdkhaaPd
set_option linter.all false
set_option maxRecDepth 20000
set_option maxHeartbeats 4000000
namespace Go.Proofs.Ytcbppkfnfbdkhaa
open Go.RowKit Go.Shelf
noncomputable def mul64_V (x : Int) (y : Int) (Q : SV → Prop) : Σ' P : Prop, (P → ICt 189 [.one (.d (.int .u64 x)), .one (.d (.int .u64 y))] Q) := by
  apply mkV; intro hP
  refine ic_wk (K 51) Try.func189 rfl rfl rfl rfl (fun w0 => ?_)
  repeat' (first
    | (with_reducible (first | apply c_seq | apply c_rg | apply j_nil | apply q_n | apply c_ret))
    | ((with_reducible apply v_shr); exact rfl; exact rfl; exact rfl; (first | decide); exact rfl)
    | ((with_reducible apply j_v); exact rfl; exact rfl)
    | ((with_reducible apply j_add); exact rfl; exact rfl; exact rfl; (first | exact rfl))
    | ((with_reducible apply j_mul); exact rfl; exact rfl; exact rfl; (first | exact rfl))
    | ((with_reducible apply r_g); exact rfl; (· repeat' (first | exact True.intro | refine And.intro ?_ ?_)); (exact hP.out)))
theorem mul64_ic (x y : Int) : ICp (x = 1 ∧ 1 ≤ y ∧ y ≤ 24) 189 [.one (.d (.int .u64 x)), .one (.d (.int .u64 y))] (fun v => v = .tup [.one (.d (.int .u64 0)), .one (.d (.int .u64 y))]) := fun h => (mul64_V x y _).2 (by
  obtain ⟨rfl, h⟩ := h
  (delta mul64_V; dsimp only [mkV])
  have : y = 1 ∨ y = 2 ∨ y = 3 ∨ y = 4 ∨ y = 5 ∨ y = 6 ∨ y = 7 ∨ y = 8 ∨ y = 9 ∨ y = 10 ∨ y = 11 ∨ y = 12 ∨ y = 13 ∨ y = 14 ∨ y = 15 ∨ y = 16 ∨ y = 17 ∨ y = 18 ∨ y = 19 ∨ y = 20 ∨ y = 21 ∨ y = 22 ∨ y = 23 ∨ y = 24 := by omega
  rcases this with rfl | rfl | rfl | rfl | rfl | rfl | rfl | rfl | rfl | rfl | rfl | rfl | rfl | rfl | rfl | rfl | rfl | rfl | rfl | rfl | rfl | rfl | rfl | rfl <;> rfl)
noncomputable def mul_V (x y : Int) (Q : SV → Prop) : Σ' P : Prop, (P → ICt 163 [.one (.d (.int .u64 x)), .one (.d (.int .u64 y))] Q) := by
  apply mkV; intro hP
  refine ic_wk (K 30) Try.func163 rfl rfl rfl rfl (fun w0 => ?_)
  repeat' (first
    | ((fail_if_success (have hTest : Hld False := hP)); (have hq := chk_c hP); (replace hP := chk_p hP))
    | (with_reducible (first | apply c_seq | apply c_rg | apply j_nil | apply q_n | apply c_cf | apply c_ret | apply c_sk))
    | ((with_reducible apply j_v); exact rfl; exact rfl)
    | ((with_reducible apply c_c); exact rfl; (first | with_reducible exact Eq.refl false))
    | ((with_reducible apply r_g); exact rfl; (· repeat' (first | exact True.intro | refine And.intro ?_ ?_)); (exact hP.out))
    | ((with_reducible apply v_call (pu := true)); exact rfl; exact ⟨rfl, rfl⟩; (apply (mul64_ic _ _); rotate_left 2); (focus ((repeat' (first | exact .nil _ | refine PsSL.cons ?_ ?_ | exact .one (.d _ _))) <;> fail)); exact .inl rfl; (apply chk_c; exact hP; (first | skip))))
theorem mul_ic (x y : Int) : ICp (x = 1 ∧ 1 ≤ y ∧ y ≤ 24) 163 [.one (.d (.int .u64 x)), .one (.d (.int .u64 y))] (fun v => v = .tup [.one (.d (.int .u64 0)), .one (.d (.int .u64 y))]) := fun h => (mul_V x y _).2 (by
  obtain ⟨rfl, h⟩ := h
  (delta mul_V; dsimp only [mkV])
  (repeat' (first | with_reducible refine brn_nd (fun h => ?_) (fun h => ?_) | with_reducible refine brn_d (fun h => ?_) (fun h => ?_) | with_reducible refine brn_nn (fun h => ?_) (fun h => ?_) | with_reducible refine brn_nb (fun h => ?_) (fun h => ?_) | with_reducible refine Brn.mk (fun h => ?_) (fun h => ?_) | with_reducible refine Chk.mk ?_ ?_ | with_reducible refine Bth.mk ?_ ?_ | with_reducible refine Fct.mk (fun hf => ?_)))
  all_goals first | exact h | exact ⟨rfl, h⟩ | rfl | skip)
theorem splT_get {α : Type} {xs : List α} {off : Nat} {q : List α} (h : off + q.length ≤ xs.length) (i : Nat) : (splT xs off q)[i]? = if off ≤ i ∧ i < off + q.length then q[i - off]? else xs[i]? := by
  unfold splT
  by_cases h1 : i < off
  · rw [if_neg (by omega), List.append_assoc, List.getElem?_append_left (by simp; omega), List.getElem?_take_of_lt h1]
  · by_cases h2 : i < off + q.length
    · rw [if_pos (by omega), List.append_assoc, List.getElem?_append_right (by simp; omega), List.getElem?_append_left (by simp; omega)]
      simp [show min off xs.length = off by omega]
    · rw [if_neg (by omega), List.getElem?_append_right (by simp; omega), List.getElem?_drop]
      congr 1
      simp
      omega
noncomputable def repU_V (l : List Unt) (n : Int) (x0 : List Unt) : Σ' P : Prop, (P → ICl 122 [.one (.d (.list (List.map Unt.row l))), .one (.d (.int .i64 n))] 170 3 (List.map Unt.row x0)) := by
  apply mkV; intro hP
  refine ico_wk (K 48) Try.func122 rfl rfl rfl rfl (fun w0 => ?_)
  apply (v_kint (x := 1)); exact rfl; exact hP; clear hP; intro hP
  repeat' (first
    | ((fail_if_success (have hTest : Hld False := hP)); (have hq := chk_c hP); (replace hP := chk_p hP))
    | (with_reducible (first | apply c_seq | apply c_rg | apply j_nil | apply q_n | apply g_ff | apply c_bl | apply c_ex | apply c_ret | apply c_sk | apply q_e | apply b_e | apply b_n | apply n_n | apply n_e))
    | ((with_reducible apply (v_conv (t := 3) (t' := 239) .u64)); exact rfl; kernel_rfl; exact rfl; (with_reducible apply wr_u64; (apply chk_c; exact hP; (first | skip))))
    | ((with_reducible apply (v_conv (t := 239) (t' := 3) .i64)); exact rfl; kernel_rfl; exact rfl; (with_reducible apply wr_i64; (apply chk_c; exact hP; (first | skip))))
    | ((with_reducible apply v_pan); exact hP.out)
    | ((with_reducible apply (v_make Unt.row ((⟨false, (0 : Int), (0 : Int)⟩ : Unt)))); exact rfl; exact rfl; exact rfl; exact rfl; exact rfl; exact rfl; exact rfl; exact rfl; exact rfl; exact rfl; exact rfl; exact rfl; (apply chk_c; exact hP; (first | skip)))
    | ((with_reducible apply (v_copy Unt.row)); exact rfl; exact rfl; exact rfl; (first | exact .sl _ _); exact rfl; exact (fun _ => rfl); (first | exact .d _); (first | omega))
    | ((with_reducible apply j_v); exact rfl; exact rfl)
    | ((with_reducible apply j_g); exact rfl; exact rfl; (refine dec_f ?_; decide))
    | ((with_reducible apply v_lenm); exact rfl; exact rfl; exact rfl; (exact hP); clear hP; intro hP)
    | ((with_reducible apply v_lens); exact rfl; exact rfl; exact rfl; (exact hP); clear hP; intro hP)
    | ((with_reducible apply j_pk); exact rfl; exact rfl; (refine dec_f ?_; decide); exact rfl)
    | ((with_reducible apply o_sl); exact rfl; exact rfl; exact rfl; (first | exact rfl); (exact hP.out))
    | ((with_reducible apply v_call (pu := true)); exact rfl; exact ⟨rfl, rfl⟩; (apply (mul_ic _ _); rotate_left 2); (focus ((repeat' (first | exact .nil _ | refine PsSL.cons ?_ ?_ | exact .one (.d _ _))) <;> fail)); exact .inl rfl; (apply chk_c; exact hP; (first | skip)))
    | ((with_reducible refine v_loopat (c := (.seq (.seq (.region 8 _ _) _) _)) ?_); (apply (v_loop2 _ _ [] [] (fun x1 x2 => [(7, .one (.sl 30 (List.length x1) 3)), (8, .one (.d (.int .i64 x2)))]) (fun x1 x2 => [(30, .arr 170 3 (List.map Unt.row x1))]) [])); exact rfl; exact rfl; (focus (refine ⟨?_, ?_⟩; rotate_left 1; (focus (repeat' (first | exact .nil | refine .cons ?_ ?_ | exact .arr rfl (by first | rfl | assumption | simp)))); (focus (repeat' (first | exact .nil | refine .cons ?_ ?_ | exact SVle_pl rfl | refine .one ?_ | exact .sl rfl (by first | rfl | exact List.length_set.symm | exact (splT_len (by simp only [List.length_take, List.length_drop]; omega)).symm | omega | (rw [List.length_append, List.length_map]; show _ + 1 = _; omega) | simp)))))); (exact hP); clear hP; intro I μ x1 x2 hP)
    | ((with_reducible apply (v_nxt2 (a1 := _) (a2 := _))); rotate_left 1; (focus (repeat' (first | exact .nil | refine .cons ?_ ?_ | exact .arr rfl (by first | rfl | assumption | simp)))); rotate_right 1; (focus (repeat' (first | exact .nil | refine .cons ?_ ?_ | exact SVle_pl rfl | refine .one ?_ | exact .sl rfl (by first | rfl | exact List.length_set.symm | exact (splT_len (by simp only [List.length_take, List.length_drop]; omega)).symm | omega | (rw [List.length_append, List.length_map]; show _ + 1 = _; omega) | simp)))); (exact hP))
    | ((with_reducible refine v_rgat (i := 9) ?_); (refine n_start (by kernel_rfl) ?_; ((apply (n_pure 0 (by kernel_rfl) rfl rfl (by kernel_rfl) (by kernel_rfl)); (first | exact p_mv (v := .one (.d _)) rfl rfl)); (apply (n_pure 1 (by kernel_rfl) rfl rfl (by kernel_rfl) (by kernel_rfl)); (first | exact p_mv (v := .one _) rfl rfl)); (apply (n_pure 2 (by kernel_rfl) rfl rfl (by kernel_rfl) (by kernel_rfl)); (first | exact p_mv (v := .one (.d _)) rfl rfl)); (apply (n_pure 4 (by kernel_rfl) rfl rfl (by kernel_rfl) (by kernel_rfl)); (first | exact p_mv (v := .one _) rfl rfl)); (apply (n_pure 5 (by kernel_rfl) rfl rfl (by kernel_rfl) (by kernel_rfl)); (first | exact p_mv (v := .one (.d _)) rfl rfl)); (refine n_quiet none #[false, false, false, true, false, false, true, false, false, false] [3, 6] 3 rfl ?_; (repeat' (first | ((fail_if_success (have hTest : Hld False := hP)); (have hq := chk_c hP); (replace hP := chk_p hP)) | ((with_reducible apply (d_e (some []))); exact rfl; exact rfl; kernel_rfl; kernel_rfl; exact rfl; exact rfl; (first | ((with_reducible apply f_slsl); exact rfl; exact rfl; exact rfl; (apply chk_c; exact hP; (first | skip))) | ((with_reducible apply f_slsh); exact rfl; exact rfl; exact rfl; (first | with_reducible assumption)))) | ((with_reducible apply d_leaf); exact (by decide +kernel)))); all_goals (refine n_one 7 (by decide +kernel) rfl ?_; (repeat' (first | (with_reducible (first | apply j_nil)) | ((with_reducible apply (v_copy Unt.row)); exact rfl; exact rfl; exact rfl; (first | exact .slp _ _ _); exact rfl; exact (fun _ => rfl); (refine .slp rfl ?_; (first | omega)); (first | omega)))); all_goals (refine n_quiet none #[false, false, false, false, false, false, false, false, true, true] [8, 9] 0 rfl ?_; (repeat' (first | ((fail_if_success (have hTest : Hld False := hP)); (have hq := chk_c hP); (replace hP := chk_p hP)) | ((with_reducible apply (d_e (some []))); exact rfl; exact rfl; kernel_rfl; kernel_rfl; exact rfl; exact rfl; (first | ((with_reducible apply e_v); exact rfl) | ((with_reducible apply e_add); exact rfl; exact rfl; (with_reducible apply wr_i64; (apply chk_c; exact hP; (first | skip)))))) | ((with_reducible apply d_leaf); exact (by decide +kernel)))); all_goals ((with_reducible apply n_doneZ); exact rfl; exact (by decide +kernel))))))))
    | ((with_reducible apply v_if); exact rfl; (exact hP); all_goals (clear hP; intro hc hP)))
theorem repU_ico (z : Unt) (n : Int) : ICq (1 ≤ n ∧ n ≤ 24) 122 [.one (.d (.list ([z].map Unt.row))), iv n] 170 3 (List.map Unt.row (List.replicate n.toNat z)) := fun hn => (repU_V [z] n (List.replicate n.toNat z)).2 (by
  (delta repU_V; dsimp only [mkV])
  (repeat' (first | with_reducible refine brn_nd (fun h => ?_) (fun h => ?_) | with_reducible refine brn_d (fun h => ?_) (fun h => ?_) | with_reducible refine brn_nn (fun h => ?_) (fun h => ?_) | with_reducible refine brn_nb (fun h => ?_) (fun h => ?_) | with_reducible refine Brn.mk (fun h => ?_) (fun h => ?_) | with_reducible refine Chk.mk ?_ ?_ | with_reducible refine Bth.mk ?_ ?_ | with_reducible refine Fct.mk (fun hf => ?_)))
  · omega
  · simp
  · omega
  · exact ⟨by simp, hn⟩
  · omega
  · unfold InI; omega
  · omega
  · refine ⟨fun x1 x2 => x1.length = n.toNat ∧ 1 ≤ x2 ∧ x2 ≤ n ∧ ∀ i : Nat, (i : Int) < x2 → x1[i]? = some z, fun _ x2 => (n - x2).toNat, ⟨?_, ?_, ?_, fun i hi => ?_⟩, fun x1 x2 hI => ?_⟩
    · rw [splT_len (by simp; omega)]; simp
    · simp; omega
    · simp; omega
    · have hi0 : i = 0 := by simp at hi; omega
      subst hi0
      rw [splT_get (by simp; omega), if_pos (by simp; omega)]
      rw [List.getElem?_take, if_pos (by simp; omega)]
      rfl
    · obtain ⟨h1, h2, h3, h4⟩ := hI
      (repeat' (first | with_reducible refine brn_nd (fun h => ?_) (fun h => ?_) | with_reducible refine brn_d (fun h => ?_) (fun h => ?_) | with_reducible refine brn_nn (fun h => ?_) (fun h => ?_) | with_reducible refine brn_nb (fun h => ?_) (fun h => ?_) | with_reducible refine Brn.mk (fun h => ?_) (fun h => ?_) | with_reducible refine Chk.mk ?_ ?_ | with_reducible refine Bth.mk ?_ ?_ | with_reducible refine Fct.mk (fun hf => ?_)))
      · omega
      · unfold InI; simp; omega
      · have hlen : (List.take (x1.length - x2.toNat) (List.take x2.toNat (List.drop 0 x1))).length = min x2.toNat (x1.length - x2.toNat) := by simp; omega
        refine ⟨⟨?_, ?_, ?_, fun i hi => ?_⟩, ?_⟩
        · rw [splT_len (by rw [hlen]; omega)]; exact h1
        · simp; omega
        · simp; omega
        · rw [splT_get (by rw [hlen]; omega)]
          split
          · rename_i hc
            rw [hlen] at hc
            rw [List.getElem?_take, if_pos (by omega), List.getElem?_take, if_pos (by omega), List.drop_zero]
            exact h4 _ (by omega)
          · rename_i hc
            rw [hlen] at hc
            refine h4 _ ?_
            simp at hi
            omega
        · simp; omega
      · have : x1 = List.replicate n.toNat z := by
          apply List.ext_getElem?
          intro i
          by_cases hi : i < n.toNat
          · rw [h4 i (by omega), List.getElem?_replicate, if_pos hi]
          · rw [List.getElem?_eq_none (by omega), List.getElem?_eq_none (by simp; omega)]
        rw [this])
def startS (f : Flt) : Rot := if fltB f = true then ⟨1, 1, List.replicate f.cons.length ⟨true, 1, 1⟩⟩ else ⟨0, 0, []⟩
noncomputable def fstart_V (f : Flt) (Q : SV → Prop) : Σ' P : Prop, (P → ICt 68 [.agg (List.map .d (Flt.row f))] Q) := by
  apply mkV; intro hP
  refine ic_wk (K 20) Try.func68 rfl rfl rfl rfl (fun w0 => ?_)
  repeat' (first
    | ((fail_if_success (have hTest : Hld False := hP)); (have hq := chk_c hP); (replace hP := chk_p hP))
    | (with_reducible (first | apply c_seq | apply c_rg | apply j_nil | apply q_n | apply c_ret | apply c_sk | apply q_r))
    | ((with_reducible apply j_v); exact rfl; exact rfl)
    | ((with_reducible apply (v_bsf (d := 13) (Unt.row))); exact rfl; exact rfl; exact (row_cons (Unt.row_mk _ _ _) row_nil); exact rfl; exact rfl)
    | ((with_reducible apply j_h); exact rfl; exact rfl)
    | ((with_reducible apply j_s); exact rfl)
    | ((with_reducible apply v_lenm); exact rfl; exact rfl; exact rfl; (exact hP); clear hP; intro hP)
    | ((with_reducible apply r_g); exact rfl; (· repeat' (first | exact True.intro | refine And.intro ?_ ?_ | (show (_ : Nat) = _; (first | exact (List.length_map _).symm)))); (exact hP.out))
    | ((with_reducible apply j_call (pu := false)); exact rfl; (apply (fcheck_ic _); rotate_left 1); (focus ((repeat' (first | exact .nil _ | refine PsL.cons ?_ ?_ | refine PsSL.cons ?_ ?_ | refine .agg ?_ | exact .d _ _)) <;> fail)); exact .inr rfl)
    | ((with_reducible apply v_colp); exact rfl; exact ⟨rfl, rfl⟩; (apply (repU_ico _ _); rotate_left 2); (focus ((repeat' (first | exact .nil _ | refine PsSL.cons ?_ ?_ | exact .one (.d _ _))) <;> fail)); exact (fun _ => rfl); exact rfl; (apply chk_c; exact hP; (first | skip)))
    | ((with_reducible apply v_if); exact rfl; (exact hP); all_goals (clear hP; intro hc hP)))
theorem fstart_ic (f : Flt) : ICt 68 [f.v] (fun v => v = .tup [(startS f).v, iv (fltE f)]) := (fstart_V f _).2 (by
  (delta fstart_V; dsimp only [mkV])
  (repeat' (first | with_reducible refine brn_nd (fun h => ?_) (fun h => ?_) | with_reducible refine brn_d (fun h => ?_) (fun h => ?_) | with_reducible refine brn_nn (fun h => ?_) (fun h => ?_) | with_reducible refine brn_nb (fun h => ?_) (fun h => ?_) | with_reducible refine Brn.mk (fun h => ?_) (fun h => ?_) | with_reducible refine Chk.mk ?_ ?_ | with_reducible refine Bth.mk ?_ ?_ | with_reducible refine Fct.mk (fun hf => ?_)))
  · have e : fltB f = false := by rw [Bool.eq_false_iff]; exact fun e => h (fltE0.2 e)
    unfold startS; rw [e]; rfl
  · have := flt_len (fltE0.1 h); omega
  · have e := fltE0.1 h
    rw [show fltE f = 0 from h, Int.toNat_natCast]; unfold startS; rw [if_pos e]; rfl)
noncomputable def rstart_V (f : Flt) (Q : SV → Prop) : Σ' P : Prop, (P → ICt 72 [.agg (List.map .d (Flt.row f))] Q) := by
  apply mkV; intro hP
  refine ic_wk (K 23) Try.func72 rfl rfl rfl rfl (fun w0 => ?_)
  repeat' (first
    | ((fail_if_success (have hTest : Hld False := hP)); (have hq := chk_c hP); (replace hP := chk_p hP))
    | (with_reducible (first | apply c_seq | apply c_rg | apply j_nil | apply q_n | apply c_bl | apply c_ex | apply c_ret | apply c_sk | apply q_r | apply q_e | apply b_e | apply b_n | apply n_n | apply n_e))
    | ((with_reducible apply c_l1); exact rfl; exact rfl)
    | ((with_reducible apply j_v); exact rfl; exact rfl)
    | ((with_reducible apply (v_bsf (d := 18) (Unt.row))); exact rfl; exact rfl; exact (row_cons (Unt.row_mk _ _ _) row_nil); exact rfl; exact rfl)
    | ((with_reducible apply j_h); exact rfl; exact rfl)
    | ((with_reducible apply j_s); exact rfl)
    | ((with_reducible apply v_lenm); exact rfl; exact rfl; exact rfl; (exact hP); clear hP; intro hP)
    | ((with_reducible apply j_add); exact rfl; exact rfl; exact rfl; (with_reducible apply wr_i64; (apply chk_c; exact hP; (first | skip))))
    | ((with_reducible apply (v_ap (Unt.row))); exact rfl; exact rfl; exact rfl; exact rfl; exact rfl; exact rfl; exact rfl; (first | exact rfl); exact rfl; exact rfl; exact rfl; (apply src_d; exact rfl; (intro row hrow; obtain ⟨q, _, rfl⟩ := List.mem_map.1 hrow; rfl)); (first | exact rfl); exact rfl; exact rfl; exact rfl; (apply chk_c; exact hP; (first | skip)))
    | ((with_reducible apply r_g); exact rfl; (· repeat' (first | exact True.intro | refine And.intro ?_ ?_ | (show (_ : Nat) = _; (first | exact (List.length_map _).symm)))); (exact hP.out))
    | ((with_reducible apply j_call (pu := false)); exact rfl; (apply (rValid_ic _); rotate_left 1); (focus ((repeat' (first | exact .nil _ | refine PsL.cons ?_ ?_ | refine PsSL.cons ?_ ?_ | refine .agg ?_ | exact .d _ _)) <;> fail)); exact .inr rfl)
    | ((with_reducible refine v_loopat (c := (.seq (.region 5 _ _) _)) ?_); (apply (v_loop4 [] _ _ _ [2, 4, 12] [2] (fun x1 x3 x4 x2 => [(13, .one (.d (.int .i64 x2)))]) (fun x1 x3 x4 x2 => [(4, .blk 96 [.d (.int .i64 x3), .d (.int .i64 x4), .sl 342 (List.length x1) 3]), (342, .arr 170 3 (List.map Unt.row x1))]) [342])); exact rfl; exact rfl; (focus (refine ⟨?_, ?_⟩; rotate_left 1; (focus (repeat' (first | exact .nil | refine .cons ?_ ?_ | exact .d rfl | exact .nils rfl | exact .virt rfl | refine .blk rfl ?_))); (focus (repeat' (first | exact .nil | refine .cons ?_ ?_ | exact SVle_pl rfl | refine .one ?_ | exact .ref rfl rfl))))); (exact hP); clear hP; intro I μ x1 x3 x4 x2 hP)
    | ((with_reducible apply (v_nxt4 (a1 := _) (a2 := _) (a3 := _) (a4 := _))); rotate_left 1; (focus (repeat' (first | exact .nil | refine .cons ?_ ?_ | exact .d rfl | exact .sl rfl (by first | rfl | exact List.length_set.symm | exact (splT_len (by simp only [List.length_take, List.length_drop]; omega)).symm | omega | (rw [List.length_append, List.length_map]; show _ + 1 = _; omega) | simp) | refine .blk rfl ?_ | exact .arr rfl (by first | rfl | assumption | simp)))); rotate_right 1; (focus (repeat' (first | exact .nil | refine .cons ?_ ?_ | exact SVle_pl rfl | refine .one ?_ | exact .ref rfl rfl))); (exact hP))
    | ((with_reducible apply v_if); exact rfl; (exact hP); all_goals (clear hP; intro hc hP)))
theorem rstart_ic (f : Flt) : ICt 72 [f.v] (fun v => v = .tup [(startS f).v, iv (fltE f)]) := (rstart_V f _).2 (by
  (delta rstart_V; dsimp only [mkV])
  (repeat' (first | with_reducible refine brn_nd (fun h => ?_) (fun h => ?_) | with_reducible refine brn_d (fun h => ?_) (fun h => ?_) | with_reducible refine brn_nn (fun h => ?_) (fun h => ?_) | with_reducible refine brn_nb (fun h => ?_) (fun h => ?_) | with_reducible refine Brn.mk (fun h => ?_) (fun h => ?_) | with_reducible refine Chk.mk ?_ ?_ | with_reducible refine Bth.mk ?_ ?_ | with_reducible refine Fct.mk (fun hf => ?_)))
  · unfold startS fltE; rw [h]; rfl
  · have e : fltB f = true := by assumption
    have hl := flt_len e
    refine up4 (fun x1 x2 x3 z => x2 = 1 ∧ x3 = 1 ∧ x1 = List.replicate z.toNat (⟨true, 1, 1⟩ : Unt)) (by omega) ⟨rfl, rfl, rfl⟩ ?_ ?_
    · rintro I μ x1 x2 x3 z h0 h1 ⟨rfl, rfl, rfl⟩ nx
      (repeat' (first | with_reducible refine brn_nd (fun h => ?_) (fun h => ?_) | with_reducible refine brn_d (fun h => ?_) (fun h => ?_) | with_reducible refine brn_nn (fun h => ?_) (fun h => ?_) | with_reducible refine brn_nb (fun h => ?_) (fun h => ?_) | with_reducible refine Brn.mk (fun h => ?_) (fun h => ?_) | with_reducible refine Chk.mk ?_ ?_ | with_reducible refine Bth.mk ?_ ?_ | with_reducible refine Fct.mk (fun hf => ?_)))
      · simp; omega
      · unfold InI; omega
      · refine nx _ _ _ ⟨rfl, rfl, ?_⟩
        rw [show (z + 1).toNat = z.toNat + 1 by omega, List.replicate_succ']
    · rintro I μ x1 x2 x3 ⟨rfl, rfl, rfl⟩
      unfold startS fltE; rw [if_pos e, if_pos e, Int.toNat_natCast]; rfl)
def rservB (f : Flt) (s : Rot) (i : Int) : Bool := rightB f s && btw i 0 ((s.units.length : Int) - 1) && (gt s.units i).up && serves s (gt s.units i)
noncomputable def rserves_V (f : Flt) (s : Rot) (i : Int) (Q : SV → Prop) : Σ' P : Prop, (P → ICt 208 [.agg (List.map .d (Flt.row f)), .agg (List.map .d (Rot.row s)), .one (.d (.int .i64 i))] Q) := by
  apply mkV; intro hP
  refine ic_wk (K 38) Try.func208 rfl rfl rfl rfl (fun w0 => ?_)
  apply (v_kint (x := 2)); exact rfl; exact hP; clear hP; intro hP
  repeat' (first
    | (with_reducible (first | apply c_seq | apply c_rg | apply j_nil | apply q_n | apply c_ret))
    | ((with_reducible apply j_v); exact rfl; exact rfl)
    | ((with_reducible apply j_h); exact rfl; exact rfl)
    | ((with_reducible apply r_g); exact rfl; (· repeat' (first | exact True.intro | refine And.intro ?_ ?_)); (exact hP.out))
    | ((with_reducible refine v_rgat (i := 1) ?_); (refine n_start (by kernel_rfl) ?_; (refine n_quiet none #[true, true, true, true, true, true, true, true, true, true, true, true, true, true, true, true, true, true, true, true, true, true, true, true, true, true, true, true, true, true, true, true] [0, 1, 2, 3, 4, 5, 6, 7, 8, 9, 10, 11, 12, 13, 14, 15, 16, 17, 18, 19, 20, 21, 22, 23, 24, 25, 26, 27, 28, 29, 30, 31] 0 rfl ?_; (repeat' (first | ((fail_if_success (have hTest : Hld False := hP)); (have hq := chk_c hP); (replace hP := chk_p hP)) | ((with_reducible apply (d_e (some []))); exact rfl; exact rfl; kernel_rfl; kernel_rfl; exact rfl; exact rfl; (first | ((with_reducible apply e_v); exact rfl) | ((with_reducible apply e_pk); exact rfl; (first | with_reducible assumption | with_reducible exact Eq.refl false); exact rfl) | ((with_reducible apply e_call (pu := false)); exact rfl; apply (rRight_ic _ _); rotate_left 2; (focus ((repeat' (first | exact .nil _ | refine PsL.cons ?_ ?_ | refine PsSL.cons ?_ ?_ | refine .agg ?_ | exact .d _ _)) <;> fail)); exact .inr rfl))) | ((with_reducible apply (d_ey (some []))); exact rfl; exact rfl; exact rfl; (first | with_reducible assumption); exact rfl; kernel_rfl; kernel_rfl; exact rfl; exact rfl; (first | ((with_reducible apply e_v); exact rfl) | ((with_reducible apply e_lenm); exact rfl; exact rfl) | ((with_reducible apply e_sub); exact rfl; exact rfl; (with_reducible apply wr_i64; (apply chk_c; exact hP; (first | skip)))) | ((with_reducible apply f_ia); exact rfl; exact rfl; exact rfl; (case inst => exact inferInstance); exact rfl; exact rfl; (first | with_reducible assumption | (apply chk_c; exact hP; (first | skip)))) | ((with_reducible apply e_call (pu := false)); exact rfl; apply (rin_ic _ _ _); rotate_left 3; (focus ((repeat' (first | exact .nil _ | refine PsSL.cons ?_ ?_ | exact .one (.d _ _))) <;> fail)); exact .inr rfl))) | ((with_reducible apply d_gn); exact rfl; exact rfl; exact rfl; (first | with_reducible assumption | with_reducible rfl); exact rfl; kernel_rfl; kernel_rfl; exact rfl; exact rfl) | ((with_reducible apply v_dgs); exact rfl; exact rfl; exact rfl; ((repeat ((fail_if_success (have hTest : Hld False := hP)); (have hq := chk_c hP); (replace hP := chk_p hP))); exact hP); all_goals (clear hP; intro hg hP)) | ((with_reducible apply d_leaf); exact (by decide +kernel)))); all_goals ((with_reducible apply n_doneZ); exact rfl; exact (by decide +kernel))))))
theorem rserves_ic (f : Flt) (s : Rot) (i : Int) : ICt 208 [f.v, s.v, iv i] (fun v => v = bv (rservB f s i)) := (rserves_V f s i _).2 (by
  (delta rserves_V; dsimp only [mkV])
  (repeat' (first | with_reducible refine brn_nd (fun h => ?_) (fun h => ?_) | with_reducible refine brn_d (fun h => ?_) (fun h => ?_) | with_reducible refine brn_nn (fun h => ?_) (fun h => ?_) | with_reducible refine brn_nb (fun h => ?_) (fun h => ?_) | with_reducible refine Brn.mk (fun h => ?_) (fun h => ?_) | with_reducible refine Chk.mk ?_ ?_ | with_reducible refine Bth.mk ?_ ?_ | with_reducible refine Fct.mk (fun hf => ?_)))
  · have hu := (right_iff.1 h).2.2.2.1
    have := flt_len (right_iff.1 h).1
    unfold InI; omega
  · simp [btw] at h; omega
  all_goals
    refine congrArg bv ?_
    unfold rservB serves
    simp [*])
def rpoolsS (f : Flt) : List Int := ((List.range 8).map fun i : Nat => (i : Int)).filter fun p => decide (0 < (unitsS f p).length)
noncomputable def rpools_V (f : Flt) (Q : SV → Prop) : Σ' P : Prop, (P → ICt 207 [.agg (List.map .d (Flt.row f))] Q) := by
  apply mkV; intro hP
  refine ic_wk (K 19) Try.func207 rfl rfl rfl rfl (fun w0 => ?_)
  repeat' (first
    | ((fail_if_success (have hTest : Hld False := hP)); (have hq := chk_c hP); (replace hP := chk_p hP))
    | (with_reducible (first | apply c_seq | apply c_rg | apply j_nil | apply q_n | apply c_bl | apply c_ex | apply c_ret | apply c_sk | apply q_e | apply b_e | apply b_n | apply n_n | apply n_e))
    | ((with_reducible apply j_v); exact rfl; exact rfl)
    | ((with_reducible apply (v_bsf (d := 16) (irow))); exact rfl; exact rfl; exact (row_cons (irow_mk _) row_nil); exact rfl; exact rfl)
    | ((with_reducible apply j_h); exact rfl; exact rfl)
    | ((with_reducible apply v_lenm); exact rfl; exact rfl; exact rfl; (exact hP); clear hP; intro hP)
    | ((with_reducible apply j_add); exact rfl; exact rfl; exact rfl; (with_reducible apply wr_i64; (apply chk_c; exact hP; (first | skip))))
    | ((with_reducible apply (v_ap (irow))); exact rfl; exact rfl; exact rfl; exact rfl; exact rfl; exact rfl; exact rfl; (first | exact rfl); exact rfl; exact rfl; exact rfl; (apply src_d; exact rfl; (intro row hrow; obtain ⟨q, _, rfl⟩ := List.mem_map.1 hrow; rfl)); (first | exact rfl); exact rfl; exact rfl; exact rfl; (apply chk_c; exact hP; (first | skip)))
    | ((with_reducible apply r_g); exact rfl; (· repeat' (first | exact True.intro | refine And.intro ?_ ?_ | (show (_ : Nat) = _; (first | exact (List.length_map _).symm)))); (exact hP.out))
    | ((with_reducible apply j_call (pu := true)); exact rfl; (apply (rUnits_ic _ _); rotate_left 2); (focus ((repeat' (first | exact .nil _ | refine PsL.cons ?_ ?_ | refine PsSL.cons ?_ ?_ | exact .one (.d _ _) | refine .agg ?_ | exact .d _ _)) <;> fail)); exact .inl rfl)
    | ((with_reducible refine v_loopat (c := (.seq (.seq (.region 3 _ _) _) _)) ?_); (apply (v_loop2 [] _ [1] [1] (fun x1 x2 => [(3, .one (.sl 203 (List.length x1) 1)), (4, .one (.d (.int .i64 x2)))]) (fun x1 x2 => [(203, .arr 3 1 (List.map irow x1))]) [203])); exact rfl; exact rfl; (focus (refine ⟨?_, ?_⟩; rotate_left 1; (focus (repeat' (first | exact .nil | refine .cons ?_ ?_ | exact .d rfl | exact .virt rfl | refine .blk rfl ?_))); (focus (repeat' (first | exact .nil | refine .cons ?_ ?_ | exact SVle_pl rfl | refine .one ?_ | exact .ref rfl rfl | exact .nils rfl))))); (exact hP); clear hP; intro I μ x1 x2 hP)
    | ((with_reducible apply (v_nxt2 (a1 := _) (a2 := _))); rotate_left 1; (focus (repeat' (first | exact .nil | refine .cons ?_ ?_ | exact .d rfl | refine .blk rfl ?_ | exact .arr rfl (by first | rfl | assumption | simp)))); rotate_right 1; (focus (repeat' (first | exact .nil | refine .cons ?_ ?_ | exact SVle_pl rfl | refine .one ?_ | exact .ref rfl rfl | exact .sl rfl (by first | rfl | exact List.length_set.symm | exact (splT_len (by simp only [List.length_take, List.length_drop]; omega)).symm | omega | (rw [List.length_append, List.length_map]; show _ + 1 = _; omega) | simp)))); (exact hP))
    | ((with_reducible apply v_if); exact rfl; (exact hP); all_goals (clear hP; intro hc hP)))
theorem rpools_ic (f : Flt) : ICt 207 [f.v] (fun v => v = lv (rpoolsS f)) := (rpools_V f _).2 (by
  (delta rpools_V; dsimp only [mkV])
  (repeat' (first | with_reducible refine brn_nd (fun h => ?_) (fun h => ?_) | with_reducible refine brn_d (fun h => ?_) (fun h => ?_) | with_reducible refine brn_nn (fun h => ?_) (fun h => ?_) | with_reducible refine brn_nb (fun h => ?_) (fun h => ?_) | with_reducible refine Brn.mk (fun h => ?_) (fun h => ?_) | with_reducible refine Chk.mk ?_ ?_ | with_reducible refine Bth.mk ?_ ?_ | with_reducible refine Fct.mk (fun hf => ?_)))
  refine lp2 (fun x1 x2 => 0 ≤ x2 ∧ x2 ≤ 8 ∧ x1 = ((List.range x2.toNat).map fun i : Nat => (i : Int)).filter fun p => decide (0 < (unitsS f p).length)) (fun _ x2 => (8 - x2).toNat) ⟨by omega, by omega, rfl⟩ ?_
  rintro I μ nx x1 x2 ⟨h0, h1, rfl⟩
  have hlen : (((List.range x2.toNat).map fun i : Nat => (i : Int)).filter fun p => decide (0 < (unitsS f p).length)).length ≤ x2.toNat := Nat.le_trans (List.length_filter_le _ _) (by simp)
  have e1 : (x2 + 1).toNat = x2.toNat + 1 := by omega
  (repeat' (first | with_reducible refine brn_nd (fun h => ?_) (fun h => ?_) | with_reducible refine brn_d (fun h => ?_) (fun h => ?_) | with_reducible refine brn_nn (fun h => ?_) (fun h => ?_) | with_reducible refine brn_nb (fun h => ?_) (fun h => ?_) | with_reducible refine Brn.mk (fun h => ?_) (fun h => ?_) | with_reducible refine Chk.mk ?_ ?_ | with_reducible refine Bth.mk ?_ ?_ | with_reducible refine Fct.mk (fun hf => ?_)))
  · simp only [List.length_singleton]; omega
  · unfold InI; omega
  · refine nx _ _ _ _ ⟨h0, h1, rfl⟩ ⟨by omega, by omega, ?_⟩ (by omega)
    rw [e1, List.range_succ, List.map_append, List.filter_append]
    have h9 : 0 < (unitsS f x2).length := by omega
    simp [Int.toNat_of_nonneg h0, h9]
  · unfold InI; omega
  · refine nx _ _ _ _ ⟨h0, h1, rfl⟩ ⟨by omega, by omega, ?_⟩ (by omega)
    rw [e1, List.range_succ, List.map_append, List.filter_append]
    have h9 : ¬ 0 < (unitsS f x2).length := by omega
    simp [Int.toNat_of_nonneg h0, h9]
  · rw [show x2 = 8 by omega]; rfl)
theorem rpools_len (f : Flt) : (rpoolsS f).length ≤ 8 := Nat.le_trans (List.length_filter_le _ _) (by simp)
def rservS (f : Flt) (s : Rot) : List Int := (rpoolsS f).filter fun p => (unitsS f p).any fun i => rservB f s i
noncomputable def rserved_V (f : Flt) (s : Rot) (Q : SV → Prop) : Σ' P : Prop, (P → ICt 190 [.agg (List.map .d (Flt.row f)), .agg (List.map .d (Rot.row s))] Q) := by
  apply mkV; intro hP
  refine ic_wk (K 36) Try.func190 rfl rfl rfl rfl (fun w0 => ?_)
  repeat' (first
    | ((fail_if_success (have hTest : Hld False := hP)); (have hq := chk_c hP); (replace hP := chk_p hP))
    | (with_reducible (first | apply c_seq | apply c_rg | apply j_nil | apply q_n | apply c_bl | apply c_ex | apply c_ret | apply c_sk | apply q_e | apply b_e | apply b_n | apply n_n | apply n_e))
    | ((with_reducible apply c_l1); exact rfl; exact rfl)
    | ((with_reducible apply j_v); exact rfl; exact rfl)
    | ((with_reducible apply (v_bsf (d := 31) (irow))); exact rfl; exact rfl; exact (row_cons (irow_mk _) row_nil); exact rfl; exact rfl)
    | ((with_reducible apply j_h); exact rfl; exact rfl)
    | ((with_reducible apply v_lenm); exact rfl; exact rfl; exact rfl; (exact hP); clear hP; intro hP)
    | ((with_reducible apply j_add); exact rfl; exact rfl; exact rfl; (with_reducible apply wr_i64; (apply chk_c; exact hP; (first | skip))))
    | ((with_reducible apply v_ia); exact rfl; exact rfl; exact rfl; exact rfl; (case inst => exact inferInstance); exact rfl; exact rfl; (apply chk_c; exact hP; (first | skip)))
    | ((with_reducible apply (v_ap (irow))); exact rfl; exact rfl; exact rfl; exact rfl; exact rfl; exact rfl; exact rfl; (first | exact rfl); exact rfl; exact rfl; exact rfl; (apply src_d; exact rfl; (intro row hrow; obtain ⟨q, _, rfl⟩ := List.mem_map.1 hrow; rfl)); (first | exact rfl); exact rfl; exact rfl; exact rfl; (apply chk_c; exact hP; (first | skip)))
    | ((with_reducible apply b_o); exact rfl)
    | ((with_reducible apply r_g); exact rfl; (· repeat' (first | exact True.intro | refine And.intro ?_ ?_ | (show (_ : Nat) = _; (first | exact (List.length_map _).symm)))); (exact hP.out))
    | ((with_reducible apply j_call (pu := true)); exact rfl; (first | (apply (rUnits_ic _ _); rotate_left 2) | (apply (rpools_ic _); rotate_left 1)); (focus ((repeat' (first | exact .nil _ | refine PsL.cons ?_ ?_ | refine PsSL.cons ?_ ?_ | exact .one (.d _ _) | refine .agg ?_ | exact .d _ _)) <;> fail)); exact .inl rfl)
    | ((with_reducible apply j_call (pu := false)); exact rfl; (apply (rserves_ic _ _ _); rotate_left 3); (focus ((repeat' (first | exact .nil _ | refine PsL.cons ?_ ?_ | refine PsSL.cons ?_ ?_ | exact .one (.d _ _) | refine .agg ?_ | exact .d _ _)) <;> fail)); exact .inr rfl)
    | ((with_reducible refine v_loopat (c := (.seq (.region 3 _ _) _)) ?_); (apply (v_loop2 [] _ [2, 3, 11, 12] [2, 3] (fun x1 x2 => [(5, .one (.sl 205 (List.length x1) 1)), (13, .one (.d (.int .i64 x2)))]) (fun x1 x2 => [(205, .arr 3 1 (List.map irow x1))]) [205])); exact rfl; exact rfl; (focus (refine ⟨?_, ?_⟩; rotate_left 1; (focus (repeat' (first | exact .nil | refine .cons ?_ ?_ | exact .d rfl | exact .virt rfl | refine .blk rfl ?_))); (focus (repeat' (first | exact .nil | refine .cons ?_ ?_ | exact SVle_pl rfl | refine .one ?_ | exact .ref rfl rfl | exact .nils rfl))))); (exact hP); clear hP; intro I μ x1 x2 hP)
    | ((with_reducible apply (v_nxt2 (a1 := _) (a2 := _))); rotate_left 1; (focus (repeat' (first | exact .nil | refine .cons ?_ ?_ | exact .d rfl | refine .blk rfl ?_ | exact .arr rfl (by first | rfl | assumption | simp)))); rotate_right 1; (focus (repeat' (first | exact .nil | refine .cons ?_ ?_ | exact SVle_pl rfl | refine .one ?_ | exact .ref rfl rfl | exact .sl rfl (by first | rfl | exact List.length_set.symm | exact (splT_len (by simp only [List.length_take, List.length_drop]; omega)).symm | omega | (rw [List.length_append, List.length_map]; show _ + 1 = _; omega) | simp)))); (exact hP))
    | ((with_reducible refine v_loopat (c := (.seq (.region 6 _ _) _)) ?_); (apply (v_loop1 _ [2, 3, 5, 7, 11, 12, 13, 19, 20] [2, 3, 205] (fun x1 => [(21, .one (.d (.int .i64 x1)))]) (fun x1 => []) [])); exact rfl; exact rfl; exact ⟨(by repeat' (first | exact .nil | refine .cons ?_ ?_ | exact SVle_pl rfl | refine .one ?_ | exact .ref rfl rfl | exact .sl rfl (by first | rfl | omega | (rw [List.length_append, List.length_map]; show _ + 1 = _; omega) | simp))), (by repeat' (first | exact .nil | refine .cons ?_ ?_ | exact .d rfl | refine .blk rfl ?_ | exact .arr rfl (by first | rfl | assumption | simp)))⟩; (exact hP); clear hP; intro I μ x1 hP)
    | ((with_reducible apply (v_nxt1 (a1 := _))); (repeat' (first | exact .nil | refine .cons ?_ ?_ | exact SVle_pl rfl | refine .one ?_ | exact .d rfl | exact .ref rfl rfl | exact .sl rfl (by first | rfl | exact List.length_set.symm | exact (splT_len (by simp only [List.length_take, List.length_drop]; omega)).symm | omega | (rw [List.length_append, List.length_map]; show _ + 1 = _; omega) | simp) | refine .blk rfl ?_ | exact .arr rfl (by first | rfl | assumption | simp))); (repeat' (first | exact .nil | exact .nil _ | refine .cons ?_ ?_ | exact .u _ | exact SVle_pl rfl | refine .one ?_ | refine .agg ?_ | exact .d rfl | exact .ref rfl rfl | exact .sl rfl (by first | rfl | exact List.length_set.symm | exact (splT_len (by simp only [List.length_take, List.length_drop]; omega)).symm | omega | (rw [List.length_append, List.length_map]; show _ + 1 = _; omega) | simp) | exact .fn _ | exact .tape | exact .nils rfl | exact .nild | exact .nildm | exact .nil | exact .rp (by simp) | exact .clo (by simp) | exact .el rfl rfl rfl | exact .d (by first | rfl | (congr 1; omega) | (congr 1; assumption) | simp) | exact .virt rfl | exact .gone _ | refine .blk rfl ?_ | exact .arr rfl (by first | rfl | assumption | simp))); (exact hP))
    | ((with_reducible apply v_if); exact rfl; (exact hP); all_goals (clear hP; intro hc hP)))
theorem rserved_ic (f : Flt) (s : Rot) : ICt 190 [f.v, s.v] (fun v => v = lv (rservS f s)) := (rserved_V f s _).2 (by
  (delta rserved_V; dsimp only [mkV])
  (repeat' (first | with_reducible refine brn_nd (fun h => ?_) (fun h => ?_) | with_reducible refine brn_d (fun h => ?_) (fun h => ?_) | with_reducible refine brn_nn (fun h => ?_) (fun h => ?_) | with_reducible refine brn_nb (fun h => ?_) (fun h => ?_) | with_reducible refine Brn.mk (fun h => ?_) (fun h => ?_) | with_reducible refine Chk.mk ?_ ?_ | with_reducible refine Bth.mk ?_ ?_ | with_reducible refine Fct.mk (fun hf => ?_)))
  have hpl := rpools_len f
  refine up2 (fun o z => o = ((rpoolsS f).take z.toNat).filter fun p => (unitsS f p).any fun i => rservB f s i) (by omega) rfl ?_ ?_
  · rintro I μ o z h0 h1 rfl nx
    obtain ⟨i, rfl, hi⟩ := natz h0 h1
    have e1 : ((i : Int) + 1).toNat = i + 1 := by omega
    have hn : (((rpoolsS f).take i).filter fun p => (unitsS f p).any fun i => rservB f s i).length ≤ i := Nat.le_trans (List.length_filter_le _ _) (by simp; omega)
    simp only [e1, Int.toNat_natCast] at nx ⊢
    rw [take_snoc (by omega), List.filter_append] at nx
    (repeat' (first | with_reducible refine brn_nd (fun h => ?_) (fun h => ?_) | with_reducible refine brn_d (fun h => ?_) (fun h => ?_) | with_reducible refine brn_nn (fun h => ?_) (fun h => ?_) | with_reducible refine brn_nb (fun h => ?_) (fun h => ?_) | with_reducible refine Brn.mk (fun h => ?_) (fun h => ?_) | with_reducible refine Chk.mk ?_ ?_ | with_reducible refine Bth.mk ?_ ?_ | with_reducible refine Fct.mk (fun hf => ?_)))
    · omega
    refine up1 (fun y => ∀ j : Nat, (j : Int) < y → rservB f s (gt (unitsS f (gt (rpoolsS f) (i : Int))) (j : Int)) = false) (by omega) (fun j hj => by omega) ?_ ?_
    · rintro I2 μ2 y hy0 hy1 hj nx2
      obtain ⟨k, rfl, hk⟩ := natz hy0 hy1
      (repeat' (first | with_reducible refine brn_nd (fun h => ?_) (fun h => ?_) | with_reducible refine brn_d (fun h => ?_) (fun h => ?_) | with_reducible refine brn_nn (fun h => ?_) (fun h => ?_) | with_reducible refine brn_nb (fun h => ?_) (fun h => ?_) | with_reducible refine Brn.mk (fun h => ?_) (fun h => ?_) | with_reducible refine Chk.mk ?_ ?_ | with_reducible refine Bth.mk ?_ ?_ | with_reducible refine Fct.mk (fun hf => ?_)))
      · omega
      · simp only [List.length_singleton]; omega
      · unfold InI; omega
      · refine nx _ ?_
        have : ((unitsS f (gt (rpoolsS f) (i : Int))).any fun i => rservB f s i) = true := List.any_eq_true.2 ⟨_, gt_mem hy0 hy1, h⟩
        simp [this]
      · unfold InI; omega
      · refine nx2 fun j hj' => ?_
        by_cases e : j < k
        · exact hj j (by omega)
        · rw [show j = k by omega]; exact h
    · intro I2 μ2 hj
      have : ((unitsS f (gt (rpoolsS f) (i : Int))).any fun i => rservB f s i) = false := List.any_eq_false.2 fun x hx => by
        obtain ⟨j, hj2, rfl⟩ := List.getElem_of_mem hx
        have := hj j (by omega)
        rw [gt_nat hj2] at this
        simp [this]
      (repeat' (first | with_reducible refine brn_nd (fun h => ?_) (fun h => ?_) | with_reducible refine brn_d (fun h => ?_) (fun h => ?_) | with_reducible refine brn_nn (fun h => ?_) (fun h => ?_) | with_reducible refine brn_nb (fun h => ?_) (fun h => ?_) | with_reducible refine Brn.mk (fun h => ?_) (fun h => ?_) | with_reducible refine Chk.mk ?_ ?_ | with_reducible refine Bth.mk ?_ ?_ | with_reducible refine Fct.mk (fun hf => ?_)))
      · unfold InI; omega
      · refine nx _ ?_
        simp [this]
  · rintro I μ o rfl
    rw [Int.toNat_natCast, List.take_length]; rfl)
end Go.Proofs.Ytcbppkfnfbdkhaa
