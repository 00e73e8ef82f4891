/- Archives: the example; rows of equal bytes. -/
import Derived.Test.YtbnmcdnkeipdhaaFw
set_option linter.all false
set_option maxRecDepth 20000
set_option maxHeartbeats 4000000
namespace Go.Proofs.Ytbnmcdnkeipdhaa
open Go.RowKit Go.Shelf
theorem rowF_rep (x : Int) (n : Nat) : rowF x (List.replicate n x) = n := by
  induction n with
  | zero => rfl
  | succ n ih => rw [List.replicate_succ, rowF, if_pos rfl, ih, Nat.add_comm]
theorem rowS_rep (x : Int) {n : Nat} (h : 0 < n) : rowS (List.replicate n x) = n := by
  obtain ⟨m, rfl⟩ : ∃ m, n = m + 1 := ⟨n - 1, by omega⟩
  rw [rowS, List.replicate_succ, gt_hd, List.drop_succ_cons, List.drop_zero, rowF_rep, Nat.add_comm]
theorem packS_rep (x : Int) {n : Nat} (h : 3 ≤ n) : packS (List.replicate n x) [] [] = eqB x n ++ plS (List.replicate (eqR n) x) := by
  have hq := eqR_le n
  have hg : gt (List.replicate n x) 0 = x := by
    obtain ⟨m, rfl⟩ : ∃ m, n = m + 1 := ⟨n - 1, by omega⟩
    rw [List.replicate_succ, gt_hd]
  rw [packS, dif_neg (by intro e; have := congrArg List.length e; simp at this; omega), rowS_rep x (by omega), if_pos h, hg, List.drop_replicate, List.drop_replicate, List.take_replicate, Nat.sub_self, List.replicate_zero, packS, dif_pos rfl, plS_nil, List.nil_append, List.nil_append, Nat.min_eq_left (by omega)]
theorem valS_one (x : Ent) (h1 : nmB x.nm = true) (h2 : x.dat.length ≤ 65536) : valS [x] = 0 := by
  unfold valS
  rw [if_neg (by simp [sumE]; omega), if_neg (by simp [h1]), if_neg (by simp)]
theorem pack_x : packS (List.replicate 10 120) [] [] = [135, 120] := by
  rw [packS_rep 120 (by omega), show eqR 10 = 0 by rw [eqR, dif_pos (by omega), eqR, dif_neg (by omega)]; rfl, List.replicate_zero, plS_nil, eqB, dif_pos (by omega), eqB, dif_neg (by omega)]; rfl
def awE : List Ent := [⟨⟨#[97]⟩, [120, 120, 120, 120, 120, 120, 120, 120, 120, 120]⟩]
theorem awE_ok : valS awE = 0 := valS_one _ (by decide) (by decide)
theorem awE_fmt : fmtS awE = [65, 82, 67, 49, 1, 1, 97, 0, 0, 10, 1, 135, 120] := by
  rw [fmtS, if_pos awE_ok]
  have e : packS [120, 120, 120, 120, 120, 120, 120, 120, 120, 120] [] [] = [135, 120] := pack_x
  unfold fmtB awE
  rw [List.flatMap_singleton, encE]
  simp only [e]
  rfl
theorem awE_par : (parS (fmtS awE)).2 = true := by rw [fmtS, if_pos awE_ok, parS_fmt awE_ok]
noncomputable def awk_V  (Q : SV → Prop) : Σ' P : Prop, (P → ICt 36 [] Q) := by
  apply mkV; intro hP
  refine ic_wk (K 34) Try.func36 rfl rfl rfl rfl (fun w0 => ?_)
  repeat' (first
    | ((apply (v_fzl (o := ⟨some 8, _, _, _, _, _⟩) 7)); exact rfl; exact rfl; exact rfl; (· repeat' (first | exact True.intro | refine And.intro ?_ ?_ | (show (_ : Nat) = _; (first | exact rfl | exact (List.length_map _).symm | omega | (simp only [List.length_set, List.length_map, List.length_append] <;> omega) | (simp; done))))))
    | ((fail_if_success (have hTest : Hld False := hP)); (have hq := chk_c hP); (replace hP := chk_p hP))
    | ((with_reducible apply j_lst); exact rfl)
    | (with_reducible (first | apply c_seq | apply c_rg | apply j_nil | apply q_n | apply g_tt | apply g_ff | apply c_bl | apply c_ex | apply c_ret | apply c_sk | apply q_r | apply q_e | apply b_r | apply b_e | apply b_n | apply n_n | apply n_r | apply n_e))
    | ((with_reducible apply (v_cby (t := 23))); exact rfl; exact rfl; exact rfl; kernel_rfl; exact rfl; exact rfl; exact Nat.zero_lt_succ _; exact rfl; exact rfl; (· repeat' (first | exact True.intro | refine And.intro ?_ ?_ | (show (_ : Nat) = _; (first | exact rfl | exact (List.length_map _).symm | omega | (simp only [List.length_set, List.length_map, List.length_append] <;> omega) | (simp; done))))))
    | ((with_reducible apply v_lenstr); exact rfl; exact rfl; kernel_rfl)
    | ((with_reducible apply c_l1); exact rfl; exact rfl)
    | ((with_reducible apply c_l2); exact rfl; exact rfl)
    | ((with_reducible apply c_l3); exact rfl)
    | ((with_reducible apply j_v); exact rfl; exact rfl)
    | ((with_reducible apply (v_bsf (d := 7) (Ent.row))); exact rfl; exact rfl; (focus (repeat' (first | exact row_nil | apply row_cons | exact Ent.row_mk _ _ | exact Ent.row_mk _ []))); exact rfl; exact rfl)
    | ((with_reducible apply (v_bs (irow_u8))); exact rfl; exact rfl; exact (row_cons (irow_u8_mk _) (row_cons (irow_u8_mk _) (row_cons (irow_u8_mk _) (row_cons (irow_u8_mk _) (row_cons (irow_u8_mk _) (row_cons (irow_u8_mk _) (row_cons (irow_u8_mk _) (row_cons (irow_u8_mk _) (row_cons (irow_u8_mk _) (row_cons (irow_u8_mk _) row_nil)))))))))); exact rfl)
    | ((with_reducible apply (v_bs (Ent.row))); exact rfl; exact rfl; (focus (repeat' (first | exact row_nil | apply row_cons | exact Ent.row_mk _ _ | exact Ent.row_mk _ []))); exact rfl)
    | ((with_reducible apply j_h); exact rfl; exact rfl)
    | ((with_reducible apply j_g); exact rfl; exact rfl; (first | with_reducible assumption | with_reducible exact Eq.refl true | with_reducible exact Eq.refl false | (with_reducible refine not_t ?_; with_reducible assumption) | (with_reducible refine not_f ?_; with_reducible assumption) | (refine dec_t ?_; decide) | (refine dec_f ?_; decide)))
    | ((with_reducible apply g_tf); exact rfl)
    | ((with_reducible apply g_ft); exact rfl)
    | ((with_reducible apply j_gz); exact rfl; exact rfl; exact rfl)
    | ((with_reducible apply v_lenm); exact rfl; exact rfl; exact rfl; (exact hP); clear hP; intro hP)
    | ((with_reducible apply v_lens); exact rfl; exact rfl; exact rfl; (exact hP); clear hP; intro hP)
    | ((with_reducible apply j_len); exact rfl; exact rfl; exact rfl)
    | ((with_reducible apply j_len0); exact rfl; exact rfl; exact rfl)
    | ((with_reducible apply j_pk); exact rfl; exact rfl; (first | with_reducible assumption | with_reducible exact Eq.refl true | with_reducible exact Eq.refl false | (with_reducible refine not_t ?_; with_reducible assumption) | (with_reducible refine not_f ?_; with_reducible assumption) | (refine dec_t ?_; decide) | (refine dec_f ?_; decide)); exact rfl)
    | ((with_reducible apply j_ld_el1); exact rfl; exact rfl; exact rfl; exact rfl; (first | with_reducible assumption | exact gt_row (by omega) (by omega) | exact rfl); exact rfl)
    | ((with_reducible apply v_ia); exact rfl; exact rfl; exact rfl; exact rfl; (case inst => exact inferInstance); exact rfl; exact rfl; (first | with_reducible assumption | (apply chk_c; exact hP; (first | (guard_target = Prop; rotate_left 1) | skip))))
    | ((with_reducible apply v_iasl); exact rfl; exact rfl; exact rfl; exact rfl; (first | with_reducible assumption | (apply chk_c; exact hP; (first | (guard_target = Prop; rotate_left 1) | skip))))
    | ((with_reducible apply j_ia_ar); exact rfl; exact rfl; exact rfl; exact rfl; ((repeat ((fail_if_success (have hTest : Hld False := hP)); (have hq := chk_c hP); (replace hP := chk_p hP))); first | with_reducible assumption | (apply chk_c; exact hP; (first | (guard_target = Prop; rotate_left 1) | skip))); ((repeat ((fail_if_success (have hTest : Hld False := hP)); (have hq := chk_c hP); (replace hP := chk_p hP))); first | with_reducible assumption | (apply chk_c; exact hP; (first | (guard_target = Prop; rotate_left 1) | skip))); (first | with_reducible exact Int.toNat_natCast _ | exact rfl))
    | ((with_reducible apply b_o); exact rfl)
    | ((with_reducible apply r_g); exact rfl; (· repeat' (first | exact True.intro | refine And.intro ?_ ?_ | (show (_ : Nat) = _; (first | exact rfl | exact (List.length_map _).symm | omega | (simp only [List.length_set, List.length_map, List.length_append] <;> omega) | (simp; done))))); (exact hP.out))
    | ((with_reducible apply v_call (pu := true)); exact rfl; exact ⟨rfl, rfl⟩; (first | (apply (fmt_ic _); rotate_left 1)); (focus ((repeat' (first | exact .nil _ | refine PsL.cons ?_ ?_ | refine PsSL.cons ?_ ?_ | exact .one (.d _ _) | exact .one psc_nilm | exact psc_nilm | exact .one (.nil _) | exact .one (.nn _) | exact .one (.tape _) | exact .one (.fn _ _) | exact .agg (.same _ _) | refine .agg ?_ | exact .d _ _ | exact .one (.sl rfl rfl) | exact .one (.sl rfl (List.length_map _).symm) | exact .sl rfl rfl | exact .sl rfl (List.length_map _).symm | exact .same _ _)) <;> fail)); exact .inl rfl; (first | with_reducible assumption | (apply chk_c; exact hP; (first | (guard_target = Prop; rotate_left 1) | skip))))
    | ((with_reducible apply v_call (pu := false)); exact rfl; exact ⟨rfl, rfl⟩; (first | (apply (arIs_ic _); rotate_left 1)); (focus ((repeat' (first | exact .nil _ | refine PsL.cons ?_ ?_ | refine PsSL.cons ?_ ?_ | exact .one (.d _ _) | exact .one psc_nilm | exact psc_nilm | exact .one (.nil _) | exact .one (.nn _) | exact .one (.tape _) | exact .one (.fn _ _) | exact .agg (.same _ _) | refine .agg ?_ | exact .d _ _ | exact .one (.sl rfl rfl) | exact .one (.sl rfl (List.length_map _).symm) | exact .sl rfl rfl | exact .sl rfl (List.length_map _).symm | exact .same _ _)) <;> fail)); exact .inr rfl; (first | with_reducible assumption | (apply chk_c; exact hP; (first | (guard_target = Prop; rotate_left 1) | skip))))
    | ((with_reducible apply v_gs); exact rfl; exact rfl; (exact hP); all_goals (clear hP; intro hg hP))
    | ((with_reducible apply v_if); exact rfl; (exact hP); all_goals (clear hP; intro hc hP)))
theorem awk_ic : ICt 36 [] (fun v => v = bv true) := (awk_V _).2 (by
  have h1 := awE_fmt
  have h2 := awE_par
  have h3 := awE_ok
  unfold awE at h1 h2 h3
  (delta awk_V; dsimp only [mkV])
  (repeat' (first | with_reducible refine brn_nd (fun h => ?_) (fun h => ?_) | with_reducible refine brn_d (fun h => ?_) (fun h => ?_) | with_reducible refine brn_nn (fun h => ?_) (fun h => ?_) | with_reducible refine brn_nb (fun h => ?_) (fun h => ?_) | with_reducible refine Brn.mk (fun h => ?_) (fun h => ?_) | with_reducible refine Chk.mk ?_ ?_ | with_reducible refine Bth.mk ?_ ?_ | with_reducible refine Fct.mk (fun hf => ?_)))
  · exact ⟨by simp, fun x hx => by rw [List.mem_singleton] at hx; subst hx; exact ⟨by decide, by decide⟩⟩
  all_goals (try rw [h1] at *)
  all_goals first | exact ⟨by decide, by decide⟩ | exact Nat.le_of_ble_eq_true rfl | exact absurd rfl (by assumption) | rw [h2])
end Go.Proofs.Ytbnmcdnkeipdhaa
