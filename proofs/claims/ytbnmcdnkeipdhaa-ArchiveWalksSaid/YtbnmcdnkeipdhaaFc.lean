/- Archives: pieces are read. -/
import Derived.Test.YtbnmcdnkeipdhaaFb
set_option linter.all false
set_option maxRecDepth 20000
set_option maxHeartbeats 4000000
namespace Go.Proofs.Ytbnmcdnkeipdhaa
open Go.RowKit Go.Shelf
theorem splT_get {α : Type} {xs : List α} {off : Nat} {q : List α} (h : off + q.length ≤ xs.length) (i : Nat) : (splT xs off q)[i]? = if off ≤ i ∧ i < off + q.length then q[i - off]? else xs[i]? := by
  unfold splT
  by_cases h1 : i < off
  · rw [if_neg (by omega), List.append_assoc, List.getElem?_append_left (by simp; omega), List.getElem?_take_of_lt h1]
  · by_cases h2 : i < off + q.length
    · rw [if_pos (by omega), List.append_assoc, List.getElem?_append_right (by simp; omega), List.getElem?_append_left (by simp; omega)]
      simp [show min off xs.length = off by omega]
    · rw [if_neg (by omega), List.getElem?_append_right (by simp; omega), List.getElem?_drop]
      congr 1
      simp
      omega
theorem tup2 {a b c d : Int} (h1 : a = c) (h2 : b = d) : SV.tup [SV.one (CV.d (Cell.int IntKind.u64 a)), SV.one (CV.d (Cell.int IntKind.u64 b))] = SV.tup [SV.one (CV.d (Cell.int IntKind.u64 c)), SV.one (CV.d (Cell.int IntKind.u64 d))] := by rw [h1, h2]
noncomputable def mul64_V (x : Int) (y : Int) (Q : SV → Prop) : Σ' P : Prop, (P → ICt 102 [.one (.d (.int .u64 x)), .one (.d (.int .u64 y))] Q) := by
  apply mkV; intro hP
  refine ic_wk (K 51) Try.func102 rfl rfl rfl rfl (fun w0 => ?_)
  repeat' (first
    | (with_reducible (first | apply c_seq | apply c_rg | apply j_nil | apply q_n | apply c_ret))
    | ((with_reducible apply v_shr); exact rfl; exact rfl; exact rfl; (first | decide); exact rfl)
    | ((with_reducible apply j_v); exact rfl; exact rfl)
    | ((with_reducible apply j_add); exact rfl; exact rfl; exact rfl; (first | exact rfl))
    | ((with_reducible apply j_mul); exact rfl; exact rfl; exact rfl; (first | exact rfl))
    | ((with_reducible apply r_g); exact rfl; (· repeat' (first | exact True.intro | refine And.intro ?_ ?_)); (exact hP.out)))
theorem mul64_ic (x y : Int) : ICp (x = 1 ∧ 1 ≤ y ∧ y ≤ 130) 102 [.one (.d (.int .u64 x)), .one (.d (.int .u64 y))] (fun v => v = .tup [.one (.d (.int .u64 0)), .one (.d (.int .u64 y))]) := fun h => (mul64_V x y _).2 (by
  obtain ⟨rfl, h⟩ := h
  (delta mul64_V; dsimp only [mkV])
  obtain ⟨n, rfl⟩ : ∃ n : Nat, y = n := ⟨y.toNat, by omega⟩
  have hn : n < 131 := by omega
  clear h
  refine tup2 ?_ ?_
  · revert n; decide +kernel
  · revert n; decide +kernel)
noncomputable def mul_V (x y : Int) (Q : SV → Prop) : Σ' P : Prop, (P → ICt 98 [.one (.d (.int .u64 x)), .one (.d (.int .u64 y))] Q) := by
  apply mkV; intro hP
  refine ic_wk (K 30) Try.func98 rfl rfl rfl rfl (fun w0 => ?_)
  repeat' (first
    | ((fail_if_success (have hTest : Hld False := hP)); (have hq := chk_c hP); (replace hP := chk_p hP))
    | (with_reducible (first | apply c_seq | apply c_rg | apply j_nil | apply q_n | apply c_cf | apply c_ret | apply c_sk))
    | ((with_reducible apply j_v); exact rfl; exact rfl)
    | ((with_reducible apply c_c); exact rfl; (first | with_reducible exact Eq.refl false))
    | ((with_reducible apply r_g); exact rfl; (· repeat' (first | exact True.intro | refine And.intro ?_ ?_)); (exact hP.out))
    | ((with_reducible apply v_call (pu := true)); exact rfl; exact ⟨rfl, rfl⟩; (apply (mul64_ic _ _); rotate_left 2); (focus ((repeat' (first | exact .nil _ | refine PsSL.cons ?_ ?_ | exact .one (.d _ _))) <;> fail)); exact .inl rfl; (apply chk_c; exact hP; (first | skip))))
theorem mul_ic (x y : Int) : ICp (x = 1 ∧ 1 ≤ y ∧ y ≤ 130) 98 [.one (.d (.int .u64 x)), .one (.d (.int .u64 y))] (fun v => v = .tup [.one (.d (.int .u64 0)), .one (.d (.int .u64 y))]) := fun h => (mul_V x y _).2 (by
  obtain ⟨rfl, h⟩ := h
  (delta mul_V; dsimp only [mkV])
  (repeat' (first | with_reducible refine brn_nd (fun h => ?_) (fun h => ?_) | with_reducible refine brn_d (fun h => ?_) (fun h => ?_) | with_reducible refine brn_nn (fun h => ?_) (fun h => ?_) | with_reducible refine brn_nb (fun h => ?_) (fun h => ?_) | with_reducible refine Brn.mk (fun h => ?_) (fun h => ?_) | with_reducible refine Chk.mk ?_ ?_ | with_reducible refine Bth.mk ?_ ?_ | with_reducible refine Fct.mk (fun hf => ?_)))
  all_goals first | exact h | exact ⟨rfl, h⟩ | rfl | skip)
noncomputable def rep_V (l : List Int) (n : Int) (Q : SV → Prop) : Σ' P : Prop, (P → ICt 95 [.one (.d (.list (List.map irow_u8 l))), .one (.d (.int .i64 n))] Q) := by
  apply mkV; intro hP
  refine ic_wk (K 48) Try.func95 rfl rfl rfl rfl (fun w0 => ?_)
  apply (v_kint (x := 1)); exact rfl; exact hP; clear hP; intro hP
  repeat' (first
    | ((fail_if_success (have hTest : Hld False := hP)); (have hq := chk_c hP); (replace hP := chk_p hP))
    | (with_reducible (first | apply c_seq | apply c_rg | apply j_nil | apply q_n | apply g_ff | apply c_bl | apply c_ex | apply c_ret | apply c_sk | apply q_e | apply b_e | apply b_n | apply n_n | apply n_e))
    | ((with_reducible apply (v_conv (t := 3) (t' := 80) .u64)); exact rfl; kernel_rfl; exact rfl; (with_reducible apply wr_u64; (apply chk_c; exact hP; (first | skip))))
    | ((with_reducible apply (v_conv (t := 80) (t' := 3) .i64)); exact rfl; kernel_rfl; exact rfl; (with_reducible apply wr_i64; (apply chk_c; exact hP; (first | skip))))
    | ((with_reducible apply v_pan); exact hP.out)
    | ((with_reducible apply (v_make irow_u8 ((0 : Int)))); exact rfl; exact rfl; exact rfl; exact rfl; exact rfl; exact rfl; exact rfl; exact rfl; exact rfl; exact rfl; exact rfl; exact rfl; (apply chk_c; exact hP; (first | skip)))
    | ((with_reducible apply (v_copy irow_u8)); exact rfl; exact rfl; exact rfl; (first | exact .sl _ _); exact rfl; exact (fun _ => rfl); (first | exact .d _); (first | omega))
    | ((with_reducible apply j_v); exact rfl; exact rfl)
    | ((with_reducible apply j_g); exact rfl; exact rfl; (refine dec_f ?_; decide))
    | ((with_reducible apply v_lenm); exact rfl; exact rfl; exact rfl; (exact hP); clear hP; intro hP)
    | ((with_reducible apply v_lens); exact rfl; exact rfl; exact rfl; (exact hP); clear hP; intro hP)
    | ((with_reducible apply j_pk); exact rfl; exact rfl; (refine dec_f ?_; decide); exact rfl)
    | ((with_reducible apply r_g); exact rfl; (· repeat' (first | exact True.intro | refine And.intro ?_ ?_ | (show (_ : Nat) = _; (first | exact (List.length_map _).symm)))); (exact hP.out))
    | ((with_reducible apply v_call (pu := true)); exact rfl; exact ⟨rfl, rfl⟩; (apply (mul_ic _ _); rotate_left 2); (focus ((repeat' (first | exact .nil _ | refine PsSL.cons ?_ ?_ | exact .one (.d _ _))) <;> fail)); exact .inl rfl; (apply chk_c; exact hP; (first | skip)))
    | ((with_reducible refine v_loopat (c := (.seq (.seq (.region 8 _ _) _) _)) ?_); (apply (v_loop2 _ _ [] [] (fun x1 x2 => [(7, .one (.sl 30 (List.length x1) 1)), (8, .one (.d (.int .i64 x2)))]) (fun x1 x2 => [(30, .arr 5 1 (List.map irow_u8 x1))]) [])); exact rfl; exact rfl; (focus (refine ⟨?_, ?_⟩; rotate_left 1; (focus (repeat' (first | exact .nil | refine .cons ?_ ?_ | exact .arr rfl (by first | rfl | assumption | simp)))); (focus (repeat' (first | exact .nil | refine .cons ?_ ?_ | exact SVle_pl rfl | refine .one ?_ | exact .sl rfl (by first | rfl | exact List.length_set.symm | exact (splT_len (by simp only [List.length_take, List.length_drop]; omega)).symm | omega | (rw [List.length_append, List.length_map]; show _ + 1 = _; omega) | simp)))))); (exact hP); clear hP; intro I μ x1 x2 hP)
    | ((with_reducible apply (v_nxt2 (a1 := _) (a2 := _))); rotate_left 1; (focus (repeat' (first | exact .nil | refine .cons ?_ ?_ | exact .arr rfl (by first | rfl | assumption | simp)))); rotate_right 1; (focus (repeat' (first | exact .nil | refine .cons ?_ ?_ | exact SVle_pl rfl | refine .one ?_ | exact .sl rfl (by first | rfl | exact List.length_set.symm | exact (splT_len (by simp only [List.length_take, List.length_drop]; omega)).symm | omega | (rw [List.length_append, List.length_map]; show _ + 1 = _; omega) | simp)))); (exact hP))
    | ((with_reducible refine v_rgat (i := 9) ?_); (refine n_start (by kernel_rfl) ?_; ((apply (n_pure 0 (by kernel_rfl) rfl rfl (by kernel_rfl) (by kernel_rfl)); (first | exact p_mv (v := .one (.d _)) rfl rfl)); (apply (n_pure 1 (by kernel_rfl) rfl rfl (by kernel_rfl) (by kernel_rfl)); (first | exact p_mv (v := .one _) rfl rfl)); (apply (n_pure 2 (by kernel_rfl) rfl rfl (by kernel_rfl) (by kernel_rfl)); (first | exact p_mv (v := .one (.d _)) rfl rfl)); (apply (n_pure 4 (by kernel_rfl) rfl rfl (by kernel_rfl) (by kernel_rfl)); (first | exact p_mv (v := .one _) rfl rfl)); (apply (n_pure 5 (by kernel_rfl) rfl rfl (by kernel_rfl) (by kernel_rfl)); (first | exact p_mv (v := .one (.d _)) rfl rfl)); (refine n_quiet none #[false, false, false, true, false, false, true, false, false, false] [3, 6] 3 rfl ?_; (repeat' (first | ((fail_if_success (have hTest : Hld False := hP)); (have hq := chk_c hP); (replace hP := chk_p hP)) | ((with_reducible apply (d_e (some []))); exact rfl; exact rfl; kernel_rfl; kernel_rfl; exact rfl; exact rfl; (first | ((with_reducible apply f_slsl); exact rfl; exact rfl; exact rfl; (apply chk_c; exact hP; (first | skip))) | ((with_reducible apply f_slsh); exact rfl; exact rfl; exact rfl; (first | with_reducible assumption)))) | ((with_reducible apply d_leaf); exact (by decide +kernel)))); all_goals (refine n_one 7 (by decide +kernel) rfl ?_; (repeat' (first | (with_reducible (first | apply j_nil)) | ((with_reducible apply (v_copy irow_u8)); exact rfl; exact rfl; exact rfl; (first | exact .slp _ _ _); exact rfl; exact (fun _ => rfl); (refine .slp rfl ?_; (first | omega)); (first | omega)))); all_goals (refine n_quiet none #[false, false, false, false, false, false, false, false, true, true] [8, 9] 0 rfl ?_; (repeat' (first | ((fail_if_success (have hTest : Hld False := hP)); (have hq := chk_c hP); (replace hP := chk_p hP)) | ((with_reducible apply (d_e (some []))); exact rfl; exact rfl; kernel_rfl; kernel_rfl; exact rfl; exact rfl; (first | ((with_reducible apply e_v); exact rfl) | ((with_reducible apply e_add); exact rfl; exact rfl; (with_reducible apply wr_i64; (apply chk_c; exact hP; (first | skip)))))) | ((with_reducible apply d_leaf); exact (by decide +kernel)))); all_goals ((with_reducible apply n_doneZ); exact rfl; exact (by decide +kernel))))))))
    | ((with_reducible apply v_if); exact rfl; (exact hP); all_goals (clear hP; intro hc hP)))
theorem rep_ic (z n : Int) (hn : 1 ≤ n ∧ n ≤ 130) : ICt 95 [by_ [z], iv n] (fun v => v = by_ (List.replicate n.toNat z)) := (rep_V [z] n _).2 (by
  (delta rep_V; dsimp only [mkV])
  (repeat' (first | with_reducible refine brn_nd (fun h => ?_) (fun h => ?_) | with_reducible refine brn_d (fun h => ?_) (fun h => ?_) | with_reducible refine brn_nn (fun h => ?_) (fun h => ?_) | with_reducible refine brn_nb (fun h => ?_) (fun h => ?_) | with_reducible refine Brn.mk (fun h => ?_) (fun h => ?_) | with_reducible refine Chk.mk ?_ ?_ | with_reducible refine Bth.mk ?_ ?_ | with_reducible refine Fct.mk (fun hf => ?_)))
  · omega
  · simp
  · omega
  · exact ⟨by simp, hn⟩
  · omega
  · unfold InI; omega
  · omega
  · refine ⟨fun x1 x2 => x1.length = n.toNat ∧ 1 ≤ x2 ∧ x2 ≤ n ∧ ∀ i : Nat, (i : Int) < x2 → x1[i]? = some z, fun _ x2 => (n - x2).toNat, ⟨?_, ?_, ?_, fun i hi => ?_⟩, fun x1 x2 hI => ?_⟩
    · rw [splT_len (by simp; omega)]; simp
    · simp; omega
    · simp; omega
    · have hi0 : i = 0 := by simp at hi; omega
      subst hi0
      rw [splT_get (by simp; omega), if_pos (by simp; omega)]
      rw [List.getElem?_take, if_pos (by simp; omega)]
      rfl
    · obtain ⟨h1, h2, h3, h4⟩ := hI
      (repeat' (first | with_reducible refine brn_nd (fun h => ?_) (fun h => ?_) | with_reducible refine brn_d (fun h => ?_) (fun h => ?_) | with_reducible refine brn_nn (fun h => ?_) (fun h => ?_) | with_reducible refine brn_nb (fun h => ?_) (fun h => ?_) | with_reducible refine Brn.mk (fun h => ?_) (fun h => ?_) | with_reducible refine Chk.mk ?_ ?_ | with_reducible refine Bth.mk ?_ ?_ | with_reducible refine Fct.mk (fun hf => ?_)))
      · omega
      · unfold InI; simp; omega
      · have hlen : (List.take (x1.length - x2.toNat) (List.take x2.toNat (List.drop 0 x1))).length = min x2.toNat (x1.length - x2.toNat) := by simp; omega
        refine ⟨⟨?_, ?_, ?_, fun i hi => ?_⟩, ?_⟩
        · rw [splT_len (by rw [hlen]; omega)]; exact h1
        · simp; omega
        · simp; omega
        · rw [splT_get (by rw [hlen]; omega)]
          split
          · rename_i hc
            rw [hlen] at hc
            rw [List.getElem?_take, if_pos (by omega), List.getElem?_take, if_pos (by omega), List.drop_zero]
            exact h4 _ (by omega)
          · rename_i hc
            rw [hlen] at hc
            refine h4 _ ?_
            simp at hi
            omega
        · simp; omega
      · have : x1 = List.replicate n.toNat z := by
          apply List.ext_getElem?
          intro i
          by_cases hi : i < n.toNat
          · rw [h4 i (by omega), List.getElem?_replicate, if_pos hi]
          · rw [List.getElem?_eq_none (by omega), List.getElem?_eq_none (by simp; omega)]
        rw [this])
theorem repl_ic (l : List Int) (n : Int) : ICp (l.length = 1 ∧ 1 ≤ n ∧ n ≤ 130) 95 [by_ l, iv n] (fun v => v = by_ (List.replicate n.toNat (gt l 0))) := fun h => by
  obtain ⟨h1, h2⟩ := h
  match l, h1 with
  | [z], _ => exact rep_ic z n h2
end Go.Proofs.Ytbnmcdnkeipdhaa
