/- Regress: the check that the laws are awake. -/
import Derived.Test.YtcbppkfnfbdkhaaJq
set_option linter.all false
set_option maxRecDepth 20000
set_option maxHeartbeats 4000000
namespace Go.Proofs.Ytcbppkfnfbdkhaa
open Go.RowKit Go.Shelf
noncomputable def awk_V  (Q : SV → Prop) : Σ' P : Prop, (P → ICt 15 [] Q) := by
  apply mkV; intro hP
  refine ic_wk (K 32) Try.func15 rfl rfl rfl rfl (fun w0 => ?_)
  repeat' (first
    | ((apply (v_fzl (o := ⟨some 15, _, _, _, _, _⟩) 7)); exact rfl; exact rfl; exact rfl; (· repeat' (first | exact True.intro | refine And.intro ?_ ?_ | (show (_ : Nat) = _; (first | exact rfl | exact (List.length_map _).symm | omega | (simp only [List.length_set, List.length_map, List.length_append] <;> omega) | (simp; done))))))
    | ((apply (v_fzl (o := ⟨some 15, _, _, _, _, _⟩) 11)); exact rfl; exact rfl; exact rfl; (· repeat' (first | exact True.intro | refine And.intro ?_ ?_ | (show (_ : Nat) = _; (first | exact rfl | exact (List.length_map _).symm | omega | (simp only [List.length_set, List.length_map, List.length_append] <;> omega) | (simp; done))))))
    | ((fail_if_success (have hTest : Hld False := hP)); (have hq := chk_c hP); (replace hP := chk_p hP))
    | ((with_reducible apply j_lst); exact rfl)
    | (with_reducible (first | apply c_seq | apply c_rg | apply j_nil | apply q_n | apply g_tt | apply g_ff | apply c_bl | apply c_ex | apply c_ret | apply c_sk | apply q_r | apply q_e | apply b_r | apply b_e | apply b_n | apply n_n | apply n_r | apply n_e))
    | ((with_reducible apply v_lenstr); exact rfl; exact rfl; kernel_rfl)
    | ((with_reducible apply c_l1); exact rfl; exact rfl)
    | ((with_reducible apply c_l2); exact rfl; exact rfl)
    | ((with_reducible apply c_l3); exact rfl)
    | ((with_reducible apply j_v); exact rfl; exact rfl)
    | ((with_reducible apply (v_bsf (d := 7) (Rul.row))); exact rfl; exact rfl; (focus (repeat' (first | exact row_nil | apply row_cons | exact Rul.row_mk _ _ _ _ _ _ _ | exact Rul.row_mk _ _ _ _ _ [] _ | exact Rul.row_mkr _ _ _ _ _ _ _))); exact rfl; exact rfl)
    | ((with_reducible apply (v_bsf (d := 9) (Spt.row))); exact rfl; exact rfl; (focus (repeat' (first | exact row_nil | apply row_cons | exact Spt.row_mk _ _ _ _ _ _ | exact Spt.row_mk _ _ _ [] _ _))); exact rfl; exact rfl)
    | ((with_reducible apply (v_bsf (d := 11) (Fnd.row))); exact rfl; exact rfl; (focus (repeat' (first | exact row_nil | apply row_cons | exact Fnd.row_mk _ _ _ | exact Fnd.row_mk _ _ []))); exact rfl; exact rfl)
    | ((with_reducible apply (v_bs (Fnd.row))); exact rfl; exact rfl; (focus (repeat' (first | exact row_nil | apply row_cons | exact Fnd.row_mk _ _ _ | exact Fnd.row_mk _ _ []))); exact rfl)
    | ((with_reducible apply (v_bs (Rul.row))); exact rfl; exact rfl; (focus (repeat' (first | exact row_nil | apply row_cons | exact Rul.row_mk _ _ _ _ _ _ _ | exact Rul.row_mk _ _ _ _ _ [] _ | exact Rul.row_mkr _ _ _ _ _ _ _))); exact rfl)
    | ((with_reducible apply (v_bs (Spt.row))); exact rfl; exact rfl; (focus (repeat' (first | exact row_nil | apply row_cons | exact Spt.row_mk _ _ _ _ _ _ | exact Spt.row_mk _ _ _ [] _ _))); exact rfl)
    | ((with_reducible apply j_h); exact rfl; exact rfl)
    | ((with_reducible apply j_g); exact rfl; exact rfl; (first | with_reducible assumption | with_reducible exact Eq.refl true | with_reducible exact Eq.refl false | (with_reducible refine not_t ?_; with_reducible assumption) | (with_reducible refine not_f ?_; with_reducible assumption) | (refine dec_t ?_; decide) | (refine dec_f ?_; decide)))
    | ((with_reducible apply g_tf); exact rfl)
    | ((with_reducible apply g_ft); exact rfl)
    | ((with_reducible apply j_gz); exact rfl; exact rfl; exact rfl)
    | ((with_reducible apply v_lenm); exact rfl; exact rfl; exact rfl; (exact hP); clear hP; intro hP)
    | ((with_reducible apply v_lens); exact rfl; exact rfl; exact rfl; (exact hP); clear hP; intro hP)
    | ((with_reducible apply j_len); exact rfl; exact rfl; exact rfl)
    | ((with_reducible apply j_len0); exact rfl; exact rfl; exact rfl)
    | ((with_reducible apply j_pk); exact rfl; exact rfl; (first | with_reducible assumption | with_reducible exact Eq.refl true | with_reducible exact Eq.refl false | (with_reducible refine not_t ?_; with_reducible assumption) | (with_reducible refine not_f ?_; with_reducible assumption) | (refine dec_t ?_; decide) | (refine dec_f ?_; decide)); exact rfl)
    | ((with_reducible apply j_ld_el1); exact rfl; exact rfl; exact rfl; exact rfl; (first | with_reducible assumption | exact gt_row (by omega) (by omega) | exact rfl); exact rfl)
    | ((with_reducible apply v_ia); exact rfl; exact rfl; exact rfl; exact rfl; (case inst => exact inferInstance); exact rfl; exact rfl; (first | with_reducible assumption | (apply chk_c; exact hP; (first | (guard_target = Prop; rotate_left 1) | skip))))
    | ((with_reducible apply v_iasl); exact rfl; exact rfl; exact rfl; exact rfl; (first | with_reducible assumption | (apply chk_c; exact hP; (first | (guard_target = Prop; rotate_left 1) | skip))))
    | ((with_reducible apply j_ia_ar); exact rfl; exact rfl; exact rfl; exact rfl; ((repeat ((fail_if_success (have hTest : Hld False := hP)); (have hq := chk_c hP); (replace hP := chk_p hP))); first | with_reducible assumption | (apply chk_c; exact hP; (first | (guard_target = Prop; rotate_left 1) | skip))); ((repeat ((fail_if_success (have hTest : Hld False := hP)); (have hq := chk_c hP); (replace hP := chk_p hP))); first | with_reducible assumption | (apply chk_c; exact hP; (first | (guard_target = Prop; rotate_left 1) | skip))); (first | with_reducible exact Int.toNat_natCast _ | exact rfl))
    | ((with_reducible apply b_o); exact rfl)
    | ((with_reducible apply (j_seq Chg_eqT)); exact rfl; exact rfl; exact rfl; exact Chg_cells _ _ _ _ _ _ _ _ _ _ _ _)
    | ((with_reducible apply r_g); exact rfl; (· repeat' (first | exact True.intro | refine And.intro ?_ ?_ | (show (_ : Nat) = _; (first | exact rfl | exact (List.length_map _).symm | omega | (simp only [List.length_set, List.length_map, List.length_append] <;> omega) | (simp; done))))); (exact hP.out))
    | ((with_reducible apply v_call (pu := true)); exact rfl; exact ⟨rfl, rfl⟩; (first | (apply (chg_ic _ _ _ _); rotate_left 4)); (focus ((repeat' (first | exact .nil _ | refine PsL.cons ?_ ?_ | refine PsSL.cons ?_ ?_ | exact .one (.d _ _) | exact .one psc_nilm | exact psc_nilm | exact .one (.nil _) | exact .one (.nn _) | exact .one (.tape _) | exact .one (.fn _ _) | exact .agg (.same _ _) | refine .agg ?_ | exact .d _ _ | exact .one (.sl rfl rfl) | exact .one (.sl rfl (List.length_map _).symm) | exact .sl rfl rfl | exact .sl rfl (List.length_map _).symm | exact .same _ _)) <;> fail)); exact .inl rfl; (first | with_reducible assumption | (apply chk_c; exact hP; (first | (guard_target = Prop; rotate_left 1) | skip))))
    | ((with_reducible apply v_gs); exact rfl; exact rfl; (exact hP); all_goals (clear hP; intro hg hP))
    | ((with_reducible apply v_if); exact rfl; (exact hP); all_goals (clear hP; intro hc hP)))
def rAll (v : Int) : Rul := ⟨⟨#[97, 108, 108]⟩, ⟨5, ⟨#[]⟩, 0, 0, []⟩, v⟩
theorem rAll_m (v : Int) : TrmM 3 (rAll v).wh := trm_leaf (by omega) (by show 0 ≤ 1000000000; omega) (by decide)
theorem rAll_ck (v : Int) (hv : v = 1 ∨ v = 2) : (rAll v).nm.size ≤ 1000000000 ∧ (rAll v).wh.ok ∧ ckS (rAll v) = 0 := by
  refine ⟨by show 3 ≤ 1000000000; omega, (rAll_m v).1, ?_⟩
  unfold ckS
  rw [if_pos (by show nmB ⟨#[97, 108, 108]⟩ = true; decide), if_pos (rAll_m v).te, if_pos (show (rAll v).vd = 1 ∨ (rAll v).vd = 2 from hv)]
theorem rAll_ok : RulOk [rAll 2] := ⟨by simp, fun r hr => by rw [List.mem_singleton] at hr; subst hr; exact rAll_ck 2 (.inr rfl), by simp⟩
theorem hoS_all (kinds : List Knd) (f : Fnd) (s : Spt) (v : Int) : rho kinds f s (rAll v) = true := by
  show hoS kinds f s (Trm.mk 5 ⟨#[]⟩ 0 0 (([] : List Trm).map Trm.row)) = true
  rw [hoS_mk kinds f s (fun k hk => by cases hk)]
  unfold hoF
  simp
def fAwk : Fnd := ⟨0, 0, [⟨⟨0, ⟨#[]⟩, 0⟩, [], 1, 2⟩]⟩
theorem fAwk_ok : FndOk [fAwk] ∧ FndA [fAwk] := by
  have hs : ∀ s ∈ fAwk.wh, s.ly = [] ∧ SpOk s := fun s hs => by
    have : s = ⟨⟨0, ⟨#[]⟩, 0⟩, [], 1, 2⟩ := List.mem_singleton.1 hs
    subst this
    exact ⟨rfl, by show 0 ≤ 1000000000; omega, by show (0 : Int) ≤ 1; omega, by show (1 : Int) ≤ _; omega, by show (0 : Int) ≤ 2; omega, by show (2 : Int) ≤ _; omega⟩
  refine ⟨⟨fun f hf => ?_, fun z z1 z2 => ?_⟩, by simp, fun f hf => ?_⟩
  · rw [List.mem_singleton] at hf; subst hf
    exact ⟨by show 0 < 1; omega, fun s h => (hs s h).1, fun z z1 z2 => by exfalso; have : (fAwk.wh.length : Int) = 1 := rfl; omega⟩
  · simp at z2; omega
  · rw [List.mem_singleton] at hf; subst hf
    exact ⟨by show 1 ≤ 1000; omega, fun s h => (hs s h).2⟩
theorem chgS_awk : chgS [] [rAll 2] [] [fAwk] = [⟨0, 0, 1, 2, -1, 0⟩] := by
  have n1 : ∀ s, decN [] [] fAwk s = -1 := fun s => rfl
  have v1 : ∀ s, decV [] [] fAwk s = 1 := fun s => rfl
  have n2 : ∀ s, decN [rAll 2] [] fAwk s = 0 := fun s => by
    unfold decN
    exact idxOf_at (i := 0) (by simp) (hoS_all [] fAwk s 2) (fun j hj => by omega)
  have v2 : ∀ s, decV [rAll 2] [] fAwk s = 2 := fun s => by unfold decV; rw [n2]; rfl
  have g : gt [fAwk] 0 = fAwk := rfl
  have u1 : ∀ (α : Type) (h : Int → List α), upto h 1 = h 0 := fun α h => by unfold upto; simp
  show upto (cgRow [] [rAll 2] [] [fAwk]) 1 = _
  rw [u1]
  unfold cgRow
  rw [g, show ((fAwk.wh.length : Nat) : Int) = 1 from rfl, u1]
  unfold cgOne
  rw [g, n1, v1, n2, v2, if_neg (by decide)]
theorem awk_ic : ICt 15 [] (fun v => v = bv true) := (awk_V _).2 (by
  (delta awk_V; dsimp only [mkV])
  have e : chgS [] [⟨⟨#[97, 108, 108]⟩, ⟨5, ⟨#[]⟩, 0, 0, List.map Trm.row []⟩, 2⟩] [] [⟨0, 0, [⟨⟨0, ⟨#[]⟩, 0⟩, [], 1, 2⟩]⟩] = [⟨0, 0, 1, 2, -1, 0⟩] := chgS_awk
  rw [e]
  (repeat' (first | with_reducible refine brn_nd (fun h => ?_) (fun h => ?_) | with_reducible refine brn_d (fun h => ?_) (fun h => ?_) | with_reducible refine brn_nn (fun h => ?_) (fun h => ?_) | with_reducible refine brn_nb (fun h => ?_) (fun h => ?_) | with_reducible refine Brn.mk (fun h => ?_) (fun h => ?_) | with_reducible refine Chk.mk ?_ ?_ | with_reducible refine Bth.mk ?_ ?_ | with_reducible refine Fct.mk (fun hf => ?_)))
  · exact ⟨⟨by simp, fun r hr => (by cases hr), by simp⟩, rAll_ok, fAwk_ok.1, fAwk_ok.2⟩
  all_goals first | omega | rfl | (exfalso; simp_all; done) | (refine bl ?_; rfl) | trace_state)
end Go.Proofs.Ytcbppkfnfbdkhaa
