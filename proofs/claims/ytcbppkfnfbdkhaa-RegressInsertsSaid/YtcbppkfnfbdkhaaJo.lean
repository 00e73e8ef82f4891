/- Makers: rules, findings. -/
import Derived.Test.YtcbppkfnfbdkhaaJn
set_option linter.all false
set_option maxRecDepth 20000
set_option maxHeartbeats 4000000
namespace Go.Proofs.Ytcbppkfnfbdkhaa
open Go.RowKit Go.Shelf
def rnm (i : Int) : ByteArray := ⟨#[114]⟩ ++ bsI [48 + i]
def RulM (l : List Rul) : Prop := (∀ i : Nat, i < l.length → (gt l (i : Int)).nm = rnm i) ∧ ∀ r ∈ l, TrmM 3 r.wh ∧ (r.vd = 1 ∨ r.vd = 2)
theorem RulM_snoc {l : List Rul} (h : RulM l) (r : Rul) (hn : r.nm = rnm l.length) (ht : TrmM 3 r.wh) (hv : r.vd = 1 ∨ r.vd = 2) : RulM (l ++ [r]) := by
  refine ⟨fun i hi => ?_, fun x hx => ?_⟩
  · rw [List.length_append, List.length_singleton] at hi
    by_cases e : i < l.length
    · rw [gt_nat (by simp; omega), List.getElem_append_left e, ← gt_nat e]; exact h.1 i e
    · have : i = l.length := by omega
      subst this
      rw [gt_nat (by simp), List.getElem_append_right (by omega)]
      simpa using hn
  · rcases List.mem_append.1 hx with hx | hx
    · exact h.2 x hx
    · rw [List.mem_singleton] at hx; subst hx; exact ⟨ht, hv⟩
noncomputable def mrules_V (n : Int) (Q : SV → Prop) : Σ' P : Prop, (P → ICt 10 [.one .tape, .one (.d (.int .i64 n))] Q) := by
  apply mkV; intro hP
  refine ic_wk (K 24) Try.func10 rfl rfl rfl rfl (fun w0 => ?_)
  apply (v_kint (x := 1)); exact rfl; exact hP; clear hP; intro hP
  repeat' (first
    | ((fail_if_success (have hTest : Hld False := hP)); (have hq := chk_c hP); (replace hP := chk_p hP))
    | ((with_reducible apply j_lst); exact rfl)
    | (with_reducible (first | apply c_seq | apply c_rg | apply j_nil | apply q_n | apply c_ct | apply c_cf | apply c_bl | apply c_ex | apply c_ret | apply c_sk | apply q_r | apply q_e | apply b_r | apply b_e | apply b_n | apply n_n | apply n_r | apply n_e))
    | ((with_reducible apply v_cat); exact rfl; kernel_rfl; exact rfl; exact rfl; (first | with_reducible assumption | (apply chk_c; exact hP; (first | (guard_target = Prop; rotate_left 1) | skip))))
    | ((with_reducible apply c_l1); exact rfl; exact rfl)
    | ((with_reducible apply c_l2); exact rfl; exact rfl)
    | ((with_reducible apply c_l3); exact rfl)
    | ((with_reducible apply j_v); exact rfl; exact rfl)
    | ((with_reducible apply (v_bsf (d := 21) (Rul.row))); exact rfl; exact rfl; (focus (repeat' (first | exact row_nil | apply row_cons | exact Rul.row_mk _ _ _ _ _ _ _ | exact Rul.row_mk _ _ _ _ _ [] _ | exact Rul.row_mkr _ _ _ _ _ _ _))); exact rfl; exact rfl)
    | ((with_reducible apply (v_bs (Rul.row))); exact rfl; exact rfl; (focus (repeat' (first | exact row_nil | apply row_cons | exact Rul.row_mk _ _ _ _ _ _ _ | exact Rul.row_mk _ _ _ _ _ [] _ | exact Rul.row_mkr _ _ _ _ _ _ _))); exact rfl)
    | ((with_reducible apply j_h); exact rfl; exact rfl)
    | ((with_reducible apply j_add); exact rfl; exact rfl; exact rfl; (first | (with_reducible apply wr_i64; (first | with_reducible assumption | (apply chk_c; exact hP; (first | (guard_target = Prop; rotate_left 1) | skip)))) | exact rfl))
    | ((with_reducible apply (v_ap (Rul.row))); exact rfl; exact rfl; exact rfl; exact rfl; exact rfl; exact rfl; exact rfl; (first | exact rfl | exact row_one (Rul.row_mk _ _ _ _ _ _ _) | exact row_one (Rul.row_mk _ _ _ _ _ [] _) | exact row_one (Rul.row_mkr _ _ _ _ _ _ _) | exact row_nil); exact rfl; exact rfl; exact rfl; (first | (apply src_sl; exact rfl; exact rfl; exact rfl) | (apply src_sl; exact rfl; exact rfl; rw [List.length_map]; omega) | (apply src_sl; exact rfl; exact rfl; exact List.length_map _) | (apply src_nil; exact rfl) | (apply src_d; exact rfl; (intro row hrow; obtain ⟨q, _, rfl⟩ := List.mem_map.1 hrow; rfl))); (first | exact rfl | exact row_one (Rul.row_mk _ _ _ _ _ _ _) | exact row_one (Rul.row_mk _ _ _ _ _ [] _) | exact row_one (Rul.row_mkr _ _ _ _ _ _ _) | exact row_nil); exact rfl; exact rfl; exact rfl; (first | with_reducible assumption | (apply chk_c; exact hP; (first | (guard_target = Prop; rotate_left 1) | skip))))
    | ((with_reducible apply (v_ap0 (Rul.row))); exact rfl; exact rfl; exact rfl; exact rfl; exact rfl; exact rfl; (first | (apply src_sl; exact rfl; exact rfl; exact rfl) | (apply src_sl; exact rfl; exact rfl; rw [List.length_map]; omega) | (apply src_sl; exact rfl; exact rfl; exact List.length_map _) | (apply src_nil; exact rfl) | (apply src_d; exact rfl; (intro row hrow; obtain ⟨q, _, rfl⟩ := List.mem_map.1 hrow; rfl))); (first | exact rfl | exact row_one (Rul.row_mk _ _ _ _ _ _ _) | exact row_one (Rul.row_mk _ _ _ _ _ [] _) | exact row_one (Rul.row_mkr _ _ _ _ _ _ _) | exact row_nil); exact rfl; exact rfl; exact rfl; (first | with_reducible assumption | (apply chk_c; exact hP; (first | (guard_target = Prop; rotate_left 1) | skip))))
    | ((with_reducible apply c_c); exact rfl; (first | with_reducible assumption | with_reducible exact Eq.refl true | with_reducible exact Eq.refl false | (with_reducible refine not_t ?_; with_reducible assumption) | (with_reducible refine not_f ?_; with_reducible assumption) | (refine dec_t ?_; decide) | (refine dec_f ?_; decide)))
    | ((with_reducible apply b_o); exact rfl)
    | ((with_reducible apply r_g); exact rfl; (· repeat' (first | exact True.intro | refine And.intro ?_ ?_ | (show (_ : Nat) = _; (first | exact rfl | exact (List.length_map _).symm | omega | (simp only [List.length_set, List.length_map, List.length_append] <;> omega) | (simp; done))))); (exact hP.out))
    | ((with_reducible apply v_ndp (pu := false)); exact rfl; exact ⟨rfl, rfl⟩; (first | (apply (mterm_nd _); rotate_left 1) | (apply (between_nd _ _); rotate_left 2)); (focus ((repeat' (first | exact .nil _ | refine PsL.cons ?_ ?_ | refine PsSL.cons ?_ ?_ | exact .one (.d _ _) | exact .one psc_nilm | exact psc_nilm | exact .one (.nil _) | exact .one (.nn _) | exact .one (.tape _) | exact .one (.fn _ _) | exact .agg (.same _ _) | refine .agg ?_ | exact .d _ _ | exact .one (.sl rfl rfl) | exact .one (.sl rfl (List.length_map _).symm) | exact .sl rfl rfl | exact .sl rfl (List.length_map _).symm | exact .same _ _)) <;> fail)); exact .inr (fun _ => rfl); (exact hP); clear hP; intro x hx hP)
    | ((with_reducible apply v_ndq (pu := false)); exact rfl; exact ⟨rfl, rfl⟩; (first | (apply (mterm_nd _); rotate_left 1) | (apply (between_nd _ _); rotate_left 2)); (focus ((repeat' (first | exact .nil _ | refine PsL.cons ?_ ?_ | refine PsSL.cons ?_ ?_ | exact .one (.d _ _) | exact .one psc_nilm | exact psc_nilm | exact .one (.nil _) | exact .one (.nn _) | exact .one (.tape _) | exact .one (.fn _ _) | exact .agg (.same _ _) | refine .agg ?_ | exact .d _ _ | exact .one (.sl rfl rfl) | exact .one (.sl rfl (List.length_map _).symm) | exact .sl rfl rfl | exact .sl rfl (List.length_map _).symm | exact .same _ _)) <;> fail)); exact .inr (fun _ => rfl); with_reducible assumption; (fail_if_success (have hTest : Hld False := hP)); exact hP; clear hP; intro x hx hP)
    | ((with_reducible apply v_ndp (pu := true)); exact rfl; exact ⟨rfl, rfl⟩; (first | (apply (mterm_nd _); rotate_left 1) | (apply (between_nd _ _); rotate_left 2)); (focus ((repeat' (first | exact .nil _ | refine PsL.cons ?_ ?_ | refine PsSL.cons ?_ ?_ | exact .one (.d _ _) | exact .one psc_nilm | exact psc_nilm | exact .one (.nil _) | exact .one (.nn _) | exact .one (.tape _) | exact .one (.fn _ _) | exact .agg (.same _ _) | refine .agg ?_ | exact .d _ _ | exact .one (.sl rfl rfl) | exact .one (.sl rfl (List.length_map _).symm) | exact .sl rfl rfl | exact .sl rfl (List.length_map _).symm | exact .same _ _)) <;> fail)); exact .inl rfl; (exact hP); clear hP; intro x hx hP)
    | ((with_reducible apply v_ndq (pu := true)); exact rfl; exact ⟨rfl, rfl⟩; (first | (apply (mterm_nd _); rotate_left 1) | (apply (between_nd _ _); rotate_left 2)); (focus ((repeat' (first | exact .nil _ | refine PsL.cons ?_ ?_ | refine PsSL.cons ?_ ?_ | exact .one (.d _ _) | exact .one psc_nilm | exact psc_nilm | exact .one (.nil _) | exact .one (.nn _) | exact .one (.tape _) | exact .one (.fn _ _) | exact .agg (.same _ _) | refine .agg ?_ | exact .d _ _ | exact .one (.sl rfl rfl) | exact .one (.sl rfl (List.length_map _).symm) | exact .sl rfl rfl | exact .sl rfl (List.length_map _).symm | exact .same _ _)) <;> fail)); exact .inl rfl; with_reducible assumption; (fail_if_success (have hTest : Hld False := hP)); exact hP; clear hP; intro x hx hP)
    | ((with_reducible apply v_call (pu := true)); exact rfl; exact ⟨rfl, rfl⟩; (first | (apply (numb_ic _); rotate_left 1)); (focus ((repeat' (first | exact .nil _ | refine PsL.cons ?_ ?_ | refine PsSL.cons ?_ ?_ | exact .one (.d _ _) | exact .one psc_nilm | exact psc_nilm | exact .one (.nil _) | exact .one (.nn _) | exact .one (.tape _) | exact .one (.fn _ _) | exact .agg (.same _ _) | refine .agg ?_ | exact .d _ _ | exact .one (.sl rfl rfl) | exact .one (.sl rfl (List.length_map _).symm) | exact .sl rfl rfl | exact .sl rfl (List.length_map _).symm | exact .same _ _)) <;> fail)); exact .inl rfl; (first | with_reducible assumption | (apply chk_c; exact hP; (first | (guard_target = Prop; rotate_left 1) | skip))))
    | ((with_reducible refine v_loopat (c := (.seq (.seq (.region 3 _ _) _) _)) ?_); (apply (v_loop2 [] _ [0, 1] [] (fun x1 x2 => [(5, .one (.sl 205 (List.length x1) 7)), (6, .one (.d (.int .i64 x2)))]) (fun x1 x2 => [(205, .arr 56 7 (List.map Rul.row x1))]) [205])); exact rfl; exact rfl; (focus (refine ⟨?_, ?_⟩; rotate_left 1; (focus (repeat' (first | exact .nil | exact .nil _ | refine .cons ?_ ?_ | exact .u _ | exact SVle_pl rfl | refine .one ?_ | refine .agg ?_ | exact .d rfl | exact .ref rfl rfl | exact .sl rfl (by first | rfl | exact List.length_set.symm | exact (splT_len (by simp only [List.length_take, List.length_drop]; omega)).symm | omega | (rw [List.length_append, List.length_map]; show _ + 1 = _; omega) | simp) | exact .fn _ | exact .tape | exact .nils rfl | exact .nild | exact .nildm | exact .nil | exact .rp (by simp) | exact .clo (by simp) | exact .el rfl rfl rfl | exact .d (by first | rfl | (congr 1; omega) | (congr 1; assumption) | simp) | exact .virt rfl | exact .gone _ | refine .blk rfl ?_ | exact .arr rfl (by first | rfl | assumption | simp)))); (focus (repeat' (first | exact .nil | exact .nil _ | refine .cons ?_ ?_ | exact .u _ | exact SVle_pl rfl | refine .one ?_ | refine .agg ?_ | exact .d rfl | exact .ref rfl rfl | exact .sl rfl (by first | rfl | exact List.length_set.symm | exact (splT_len (by simp only [List.length_take, List.length_drop]; omega)).symm | omega | (rw [List.length_append, List.length_map]; show _ + 1 = _; omega) | simp) | exact .fn _ | exact .tape | exact .nils rfl | exact .nild | exact .nildm | exact .nil | exact .rp (by simp) | exact .clo (by simp) | exact .el rfl rfl rfl | exact .d (by first | rfl | (congr 1; omega) | (congr 1; assumption) | simp) | exact .virt rfl | exact .gone _ | refine .blk rfl ?_ | exact .arr rfl (by first | rfl | assumption | simp)))))); (exact hP); clear hP; intro I μ x1 x2 hP)
    | ((with_reducible apply (v_nxt2 (a1 := _) (a2 := _))); rotate_left 1; (focus (repeat' (first | exact .nil | exact .nil _ | refine .cons ?_ ?_ | exact .u _ | exact SVle_pl rfl | refine .one ?_ | refine .agg ?_ | exact .d rfl | exact .ref rfl rfl | exact .sl rfl (by first | rfl | exact List.length_set.symm | exact (splT_len (by simp only [List.length_take, List.length_drop]; omega)).symm | omega | (rw [List.length_append, List.length_map]; show _ + 1 = _; omega) | simp) | exact .fn _ | exact .tape | exact .nils rfl | exact .nild | exact .nildm | exact .nil | exact .rp (by simp) | exact .clo (by simp) | exact .el rfl rfl rfl | exact .d (by first | rfl | (congr 1; omega) | (congr 1; assumption) | simp) | exact .virt rfl | exact .gone _ | refine .blk rfl ?_ | exact .arr rfl (by first | rfl | assumption | simp)))); rotate_right 1; (focus (repeat' (first | exact .nil | exact .nil _ | refine .cons ?_ ?_ | exact .u _ | exact SVle_pl rfl | refine .one ?_ | refine .agg ?_ | exact .d rfl | exact .ref rfl rfl | exact .sl rfl (by first | rfl | exact List.length_set.symm | exact (splT_len (by simp only [List.length_take, List.length_drop]; omega)).symm | omega | (rw [List.length_append, List.length_map]; show _ + 1 = _; omega) | simp) | exact .fn _ | exact .tape | exact .nils rfl | exact .nild | exact .nildm | exact .nil | exact .rp (by simp) | exact .clo (by simp) | exact .el rfl rfl rfl | exact .d (by first | rfl | (congr 1; omega) | (congr 1; assumption) | simp) | exact .virt rfl | exact .gone _ | refine .blk rfl ?_ | exact .arr rfl (by first | rfl | assumption | simp)))); (exact hP))
    | ((with_reducible apply v_gs); exact rfl; exact rfl; (exact hP); all_goals (clear hP; intro hg hP))
    | ((with_reducible apply v_if); exact rfl; (exact hP); all_goals (clear hP; intro hc hP)))
theorem mrules_nd (n : Int) : ICp (0 ≤ n ∧ n ≤ 9) 10 [.one .tape, iv n] (ND (fun l : List Rul => (l.length : Int) = n ∧ RulM l) rlv) := fun hn => (mrules_V n _).2 (by
  (delta mrules_V; dsimp only [mkV])
  (repeat' (first | with_reducible refine brn_nd (fun h => ?_) (fun h => ?_) | with_reducible refine brn_d (fun h => ?_) (fun h => ?_) | with_reducible refine brn_nn (fun h => ?_) (fun h => ?_) | with_reducible refine brn_nb (fun h => ?_) (fun h => ?_) | with_reducible refine Brn.mk (fun h => ?_) (fun h => ?_) | with_reducible refine Chk.mk ?_ ?_ | with_reducible refine Bth.mk ?_ ?_ | with_reducible refine Fct.mk (fun hf => ?_)))
  refine up2 (fun (l : List Rul) z => (l.length : Int) = z ∧ RulM l) (by omega) ⟨rfl, fun i hi => absurd hi (by simp), fun x hx => by cases hx⟩ (fun I μ l z h0 h1 hJ nx => ?_) (fun I μ l hj => ⟨l, hj, rfl⟩)
  have hs : ∀ m : Int, (⟨#[114]⟩ : ByteArray).size + (bsI [m]).size ≤ 1000000000 := fun m => by rw [bsI_size]; show 1 + 1 ≤ 1000000000; omega
  repeat' (first | with_reducible refine brn_d (fun h => ?_) (fun h => ?_) | with_reducible refine Chk.mk ?_ ?_ | intro _)
  all_goals first
    | omega
    | exact hs _
    | (unfold InI; omega)
    | (simp; omega)
    | skip
  refine nx _ ⟨by simp; omega, RulM_snoc hJ.2 _ ?_ ‹TrmM 3 _› ?_⟩
  · rw [hJ.1]; rfl
  · dsimp only; omega)
theorem rnm_ok : ∀ i : Nat, i < 9 → nmB (rnm i) = true ∧ (rnm i).size = 2 := by decide
theorem rnm_inj : ∀ i : Nat, i < 9 → ∀ j : Nat, j < 9 → rnm i = rnm j → i = j := by decide
theorem TrmM.te {c : Trm} (h : TrmM 3 c) : teS c = 0 := by
  obtain ⟨h1, h2, h3, h4⟩ := h
  have e3 : szD (3 : Int).toNat = 13 := rfl
  have e4 : (3 : Int).toNat = 3 := rfl
  rw [e3] at h3; rw [e4] at h4
  have d : dpS c 20 = min (c.tre.deep : Int) (20 + 1) := rfl
  have t : tmS c = (min 61 c.tre.size : Nat) := rfl
  unfold teS
  rw [if_neg (by omega), if_neg (by omega), if_pos h2]
theorem RulM.ok {l : List Rul} (h : RulM l) (hl : l.length ≤ 9) : RulOk l := by
  refine ⟨by omega, fun r hr => ?_, ?_⟩
  · obtain ⟨h1, h2⟩ := h.2 r hr
    obtain ⟨i, hi, rfl⟩ := mem_gt hr
    have hn := h.1 i hi
    have hq := rnm_ok i (by omega)
    refine ⟨by rw [hn]; omega, h1.1, ?_⟩
    unfold ckS
    rw [hn, if_pos hq.1, if_pos h1.te, if_pos h2]
  · refine List.pairwise_iff_getElem.2 fun i j hi hj hij => ?_
    simp only [List.length_map] at hi hj
    simp only [List.getElem_map]
    have e1 := h.1 i hi; rw [gt_nat hi] at e1
    have e2 := h.1 j hj; rw [gt_nat hj] at e2
    rw [e1, e2]
    intro e
    have := rnm_inj i (by omega) j (by omega) e
    omega
end Go.Proofs.Ytcbppkfnfbdkhaa
