/- Archives: Is, Size, Parse, Same. -/
import Derived.Test.YtbnmcdnkeipdhaaFj
set_option linter.all false
set_option maxRecDepth 20000
set_option maxHeartbeats 4000000
namespace Go.Proofs.Ytbnmcdnkeipdhaa
open Go.RowKit Go.Shelf
noncomputable def arIs_V (b : List Int) (Q : SV → Prop) : Σ' P : Prop, (P → ICt 39 [.one (.d (.list (List.map irow_u8 b)))] Q) := by
  apply mkV; intro hP
  refine ic_wk (K 11) Try.func39 rfl rfl rfl rfl (fun w0 => ?_)
  apply (v_klist (x := 0)); exact rfl; exact hP; clear hP; intro hP
  repeat' (first
    | ((fail_if_success (have hTest : Hld False := hP)); (have hq := chk_c hP); (replace hP := chk_p hP))
    | (with_reducible (first | apply c_seq | apply c_rg | apply j_nil | apply q_n | apply c_ret))
    | ((with_reducible apply j_v); exact rfl; exact rfl)
    | ((with_reducible apply r_g); exact rfl; (· repeat' (first | exact True.intro | refine And.intro ?_ ?_)); (exact hP.out))
    | ((with_reducible apply v_call (pu := true)); exact rfl; exact ⟨rfl, rfl⟩; (apply (prs_ic _); rotate_left 1); (focus ((repeat' (first | exact .nil _ | refine PsSL.cons ?_ ?_ | exact .one (.d _ _))) <;> fail)); exact .inl rfl; (apply chk_c; exact hP; (first | skip))))
theorem arIs_ic (b : List Int) : ICp (b.length ≤ 1000000000) 39 [by_ b] (fun v => v = bv (parS b).2) := fun hl => (arIs_V b _).2 (by
  (delta arIs_V; dsimp only [mkV])
  (repeat' (first | with_reducible refine brn_nd (fun h => ?_) (fun h => ?_) | with_reducible refine brn_d (fun h => ?_) (fun h => ?_) | with_reducible refine brn_nn (fun h => ?_) (fun h => ?_) | with_reducible refine brn_nb (fun h => ?_) (fun h => ?_) | with_reducible refine Brn.mk (fun h => ?_) (fun h => ?_) | with_reducible refine Chk.mk ?_ ?_ | with_reducible refine Bth.mk ?_ ?_ | with_reducible refine Fct.mk (fun hf => ?_)))
  · exact hl
  · rfl)
theorem prsL_facts {k : Nat} {bs : List Int} {w : Bool} {left : Int} {out : List Ent} {r : List Ent × List Int × Bool} (hb : InB bs) (h0 : 0 ≤ left) (h : prsL k bs w left out = some r) : r.1.length = out.length + k ∧ sumE r.1 ≤ sumE out + left := by
  induction k generalizing bs w left out with
  | zero => simp only [prsL] at h; cases h; exact ⟨rfl, by simp; omega⟩
  | succ k ih =>
    simp only [prsL] at h
    split at h
    · cases h
    rename_i hw
    obtain ⟨d1, d2, d3, d4⟩ := dtR_facts (tkW (tkB bs w 1) (tkW bs w 1) (rdK bs w)) left (tkB_in (tkW bs w 1) (rdK bs w) (tkB_in w 1 hb))
    have d5 := d4 (by rw [Bool.not_eq_true] at hw; exact hw)
    have e : ((rdD bs w left).1.length : Int) ≤ left := by unfold rdD; omega
    obtain ⟨h1, h2⟩ := ih (by exact d2) (by omega) h
    refine ⟨by rw [h1]; simp; omega, ?_⟩
    rw [sumE_app] at h2
    have e2 : sumE [⟨bsI (rdN bs w), (rdD bs w left).1⟩] = (rdD bs w left).1.length := by simp [sumE]
    omega
theorem parS_facts {b : List Int} (hb : InB b) : (parS b).1.length ≤ 255 ∧ sumE (parS b).1 ≤ 65536 := by
  unfold parS
  split
  · split
    · exact ⟨by simp, by simp [sumE]⟩
    · rename_i r h
      have hN := InB_gt (tkO_in (tkW b false 4) 1 (tkB_in false 4 hb)) (i := 0) (by omega) (by have := tkO_len (tkB b false 4) (tkW b false 4) (n := 1) (by omega); omega)
      obtain ⟨h1, h2⟩ := prsL_facts (tkB_in (tkW b false 4) 1 (tkB_in false 4 hb)) (by omega) h
      have e : sumE [] = 0 := rfl
      refine ⟨?_, by simp only; omega⟩
      show r.1.length ≤ 255
      rw [h1]; unfold prsN; simp; omega
  · exact ⟨by simp, by simp [sumE]⟩
theorem sumE_mem {l : List Ent} {x : Ent} (h : x ∈ l) : (x.dat.length : Int) ≤ sumE l := by
  induction l with
  | nil => cases h
  | cons a l ih =>
    have hp := sumE_pos l
    have e : sumE (a :: l) = a.dat.length + sumE l := by simp [sumE]
    rcases List.mem_cons.1 h with h | h
    · subst h; omega
    · have := ih h; omega
noncomputable def szS (b : List Int) : Int := if (parS b).2 then sumE (parS b).1 else 0
noncomputable def arSize_V (b : List Int) (Q : SV → Prop) : Σ' P : Prop, (P → ICt 40 [.one (.d (.list (List.map irow_u8 b)))] Q) := by
  apply mkV; intro hP
  refine ic_wk (K 28) Try.func40 rfl rfl rfl rfl (fun w0 => ?_)
  apply (v_klist (x := 0)); exact rfl; exact hP; clear hP; intro hP
  repeat' (first
    | ((fail_if_success (have hTest : Hld False := hP)); (have hq := chk_c hP); (replace hP := chk_p hP))
    | (with_reducible (first | apply c_seq | apply c_rg | apply j_nil | apply q_n | apply c_bl | apply c_ex | apply c_ret | apply c_sk | apply q_r | apply q_e | apply b_e | apply b_n | apply n_n | apply n_e))
    | ((with_reducible apply c_l1); exact rfl; exact rfl)
    | ((with_reducible apply j_v); exact rfl; exact rfl)
    | ((with_reducible apply j_h); exact rfl; exact rfl)
    | ((with_reducible apply j_s); exact rfl)
    | ((with_reducible apply v_lenm); exact rfl; exact rfl; exact rfl; (exact hP); clear hP; intro hP)
    | ((with_reducible apply j_add); exact rfl; exact rfl; exact rfl; (with_reducible apply wr_i64; (apply chk_c; exact hP; (first | skip))))
    | ((with_reducible apply v_ia); exact rfl; exact rfl; exact rfl; exact rfl; (case inst => exact inferInstance); exact rfl; exact rfl; (apply chk_c; exact hP; (first | skip)))
    | ((with_reducible apply r_g); exact rfl; (· repeat' (first | exact True.intro | refine And.intro ?_ ?_)); (exact hP.out))
    | ((with_reducible apply v_call (pu := true)); exact rfl; exact ⟨rfl, rfl⟩; (apply (prs_ic _); rotate_left 1); (focus ((repeat' (first | exact .nil _ | refine PsSL.cons ?_ ?_ | exact .one (.d _ _))) <;> fail)); exact .inl rfl; (apply chk_c; exact hP; (first | skip)))
    | ((with_reducible refine v_loopat (c := (.seq (.region 4 _ _) _)) ?_); (apply (v_loop2 _ _ [4, 13, 14] [] (fun x1 x2 => [(5, .one (.d (.int .i64 x1))), (15, .one (.d (.int .i64 x2)))]) (fun x1 x2 => []) [])); exact rfl; exact rfl; exact ⟨(by repeat' (first | exact .nil | refine .cons ?_ ?_ | exact SVle_pl rfl)), (by repeat' (first | exact .nil))⟩; (exact hP); clear hP; intro I μ x1 x2 hP)
    | ((with_reducible apply (v_nxt2 (a1 := _) (a2 := _))); (repeat' (first | exact .nil | refine .cons ?_ ?_ | exact SVle_pl rfl)); (repeat' (first | exact .nil | exact .nil _ | refine .cons ?_ ?_ | exact .u _ | exact SVle_pl rfl | refine .one ?_ | refine .agg ?_ | exact .d rfl | exact .ref rfl rfl | exact .sl rfl (by first | rfl | exact List.length_set.symm | exact (splT_len (by simp only [List.length_take, List.length_drop]; omega)).symm | omega | (rw [List.length_append, List.length_map]; show _ + 1 = _; omega) | simp) | exact .fn _ | exact .tape | exact .nils rfl | exact .nild | exact .nildm | exact .nil | exact .rp (by simp) | exact .clo (by simp) | exact .el rfl rfl rfl | exact .d (by first | rfl | (congr 1; omega) | (congr 1; assumption) | simp) | exact .virt rfl | exact .gone _ | refine .blk rfl ?_ | exact .arr rfl (by first | rfl | assumption | simp))); (exact hP))
    | ((with_reducible apply v_if); exact rfl; (exact hP); all_goals (clear hP; intro hc hP)))
theorem arSize_ic (b : List Int) : ICp (b.length ≤ 1000000000) 40 [by_ b] (fun v => v = iv (szS b)) := fun hl => (arSize_V b _).2 (by
  (delta arSize_V; dsimp only [mkV])
  (repeat' (first | with_reducible refine brn_nd (fun h => ?_) (fun h => ?_) | with_reducible refine brn_d (fun h => ?_) (fun h => ?_) | with_reducible refine brn_nn (fun h => ?_) (fun h => ?_) | with_reducible refine brn_nb (fun h => ?_) (fun h => ?_) | with_reducible refine Brn.mk (fun h => ?_) (fun h => ?_) | with_reducible refine Chk.mk ?_ ?_ | with_reducible refine Bth.mk ?_ ?_ | with_reducible refine Fct.mk (fun hf => ?_)))
  · exact hl
  have hb : InB b := InB_ok (by assumption : b.length ≤ _ ∧ _).2
  obtain ⟨f1, f2⟩ := parS_facts hb
  have ets : ∀ z : Int, 0 ≤ z → z < (parS b).1.length → (parS b).1.take (z + 1).toNat = (parS b).1.take z.toNat ++ [gt (parS b).1 z] := fun z h0 h1 => by
    rw [show (z + 1).toNat = z.toNat + 1 by omega, take_snoc (by omega), show ((z.toNat : Nat) : Int) = z by omega]
  refine up2 (fun x z => x = sumE ((parS b).1.take z.toNat)) (by omega) rfl (fun I μ x z h0 h1 hx nx => ?_) (fun I μ x hx => ?_)
  · have h2 := sumE_pos ((parS b).1.take z.toNat)
    have h3 : sumE ((parS b).1.take z.toNat) + sumE ((parS b).1.drop z.toNat) = sumE (parS b).1 := by rw [← sumE_app, List.take_append_drop]
    have h4 := sumE_pos ((parS b).1.drop z.toNat)
    have h5 := sumE_mem (gt_mem h0 h1)
    (repeat' (first | with_reducible refine brn_nd (fun h => ?_) (fun h => ?_) | with_reducible refine brn_d (fun h => ?_) (fun h => ?_) | with_reducible refine brn_nn (fun h => ?_) (fun h => ?_) | with_reducible refine brn_nb (fun h => ?_) (fun h => ?_) | with_reducible refine Brn.mk (fun h => ?_) (fun h => ?_) | with_reducible refine Chk.mk ?_ ?_ | with_reducible refine Bth.mk ?_ ?_ | with_reducible refine Fct.mk (fun hf => ?_)))
    · omega
    · unfold InI; omega
    · unfold InI; omega
    · refine nx _ ?_
      rw [ets z h0 h1, sumE_app, ← hx]
      simp [sumE]
  · rw [List.take_of_length_le (by omega)] at hx
    (repeat' (first | with_reducible refine brn_nd (fun h => ?_) (fun h => ?_) | with_reducible refine brn_d (fun h => ?_) (fun h => ?_) | with_reducible refine brn_nn (fun h => ?_) (fun h => ?_) | with_reducible refine brn_nb (fun h => ?_) (fun h => ?_) | with_reducible refine Brn.mk (fun h => ?_) (fun h => ?_) | with_reducible refine Chk.mk ?_ ?_ | with_reducible refine Bth.mk ?_ ?_ | with_reducible refine Fct.mk (fun hf => ?_)))
    · rw [szS, if_neg (by rw [Bool.not_eq_true]; assumption)]
    · rw [szS, if_pos (by assumption), hx])
noncomputable def arParse_V (b : List Int) (Q : SV → Prop) : Σ' P : Prop, (P → ICt 37 [.one (.d (.list (List.map irow_u8 b)))] Q) := by
  apply mkV; intro hP
  refine ic_wk (K 17) Try.func37 rfl rfl rfl rfl (fun w0 => ?_)
  apply (v_klist (x := 0)); exact rfl; exact hP; clear hP; intro hP
  repeat' (first
    | ((fail_if_success (have hTest : Hld False := hP)); (have hq := chk_c hP); (replace hP := chk_p hP))
    | (with_reducible (first | apply c_seq | apply c_rg | apply j_nil | apply q_n | apply c_ret | apply c_sk | apply q_r))
    | ((with_reducible apply j_v); exact rfl; exact rfl)
    | ((with_reducible apply v_lenm); exact rfl; exact rfl; exact rfl; (exact hP); clear hP; intro hP)
    | ((with_reducible apply r_g); exact rfl; (· repeat' (first | exact True.intro | refine And.intro ?_ ?_)); (exact hP.out))
    | ((with_reducible apply v_call (pu := true)); exact rfl; exact ⟨rfl, rfl⟩; (apply (prs_ic _); rotate_left 1); (focus ((repeat' (first | exact .nil _ | refine PsSL.cons ?_ ?_ | exact .one (.d _ _))) <;> fail)); exact .inl rfl; (apply chk_c; exact hP; (first | skip)))
    | ((with_reducible apply v_if); exact rfl; (exact hP); all_goals (clear hP; intro hc hP)))
theorem arParse_ic (b : List Int) : ICp (b.length ≤ 1000000000) 37 [by_ b] (fun v => v = .tup [ev (if 131072 < b.length then [] else if (parS b).2 then (parS b).1 else []), iv (if 131072 < b.length then 3 else if (parS b).2 then 0 else 10)]) := fun hl => (arParse_V b _).2 (by
  (delta arParse_V; dsimp only [mkV])
  (repeat' (first | with_reducible refine brn_nd (fun h => ?_) (fun h => ?_) | with_reducible refine brn_d (fun h => ?_) (fun h => ?_) | with_reducible refine brn_nn (fun h => ?_) (fun h => ?_) | with_reducible refine brn_nb (fun h => ?_) (fun h => ?_) | with_reducible refine Brn.mk (fun h => ?_) (fun h => ?_) | with_reducible refine Chk.mk ?_ ?_ | with_reducible refine Bth.mk ?_ ?_ | with_reducible refine Fct.mk (fun hf => ?_)))
  · rw [if_pos (by omega), if_pos (by omega)]; rfl
  · exact hl
  · have h : (parS b).2 = false := by assumption
    have h9 : ¬ 131072 < b.length := by omega
    simp only [if_neg h9, h]; rfl
  · have h : (parS b).2 = true := by assumption
    have h9 : ¬ 131072 < b.length := by omega
    simp only [if_neg h9, h]; rfl)
theorem gt_eq' {α : Type} [Inhabited α] (l : List α) {z : Int} (h0 : 0 ≤ z) (h1 : z < l.length) : l[z.toNat]'(by omega) = gt l z := by
  have := gt_nat (xs := l) (i := z.toNat) (by omega)
  rw [← this, show ((z.toNat : Nat) : Int) = z by omega]
def sameS (a b : List Ent) : Bool := decide (a.map (fun x => (x.nm, bsI x.dat)) = b.map (fun x => (x.nm, bsI x.dat)))
noncomputable def same11_V (a : List Ent) (b : List Ent) (Q : SV → Prop) : Σ' P : Prop, (P → ICt 38 [.one (.d (.list (List.map Ent.row a))), .one (.d (.list (List.map Ent.row b)))] Q) := by
  apply mkV; intro hP
  refine ic_wk (K 43) Try.func38 rfl rfl rfl rfl (fun w0 => ?_)
  apply (v_klist (x := 0)); exact rfl; exact hP; clear hP; intro hP
  repeat' (first
    | ((fail_if_success (have hTest : Hld False := hP)); (have hq := chk_c hP); (replace hP := chk_p hP))
    | (with_reducible (first | apply c_seq | apply c_rg | apply j_nil | apply q_n | apply c_ct | apply c_bl | apply c_ex | apply c_ret | apply c_sk | apply q_r | apply q_e | apply b_r | apply b_e | apply b_n | apply n_n | apply n_r | apply n_e))
    | ((with_reducible apply j_v); exact rfl; exact rfl)
    | ((with_reducible apply v_lenm); exact rfl; exact rfl; exact rfl; (exact hP); clear hP; intro hP)
    | ((with_reducible apply j_add); exact rfl; exact rfl; exact rfl; (with_reducible apply wr_i64; (apply chk_c; exact hP; (first | skip))))
    | ((with_reducible apply c_c); exact rfl; (first | with_reducible exact Eq.refl true))
    | ((with_reducible apply r_g); exact rfl; (· repeat' (first | exact True.intro | refine And.intro ?_ ?_)); (exact hP.out))
    | ((with_reducible refine v_loopat (c := (.seq (.seq (.region 4 _ _) _) _)) ?_); (apply (v_loop1 _ [0, 1] [] (fun x1 => [(5, .one (.d (.int .i64 x1)))]) (fun x1 => []) [])); exact rfl; exact rfl; exact ⟨(by repeat' (first | exact .nil | refine .cons ?_ ?_ | exact SVle_pl rfl)), (by repeat' (first | exact .nil))⟩; (exact hP); clear hP; intro I μ x1 hP)
    | ((with_reducible apply (v_nxt1 (a1 := _))); (repeat' (first | exact .nil | refine .cons ?_ ?_ | exact SVle_pl rfl)); (repeat' (first | exact .nil | exact .nil _ | refine .cons ?_ ?_ | exact .u _ | exact SVle_pl rfl | refine .one ?_ | refine .agg ?_ | exact .d rfl | exact .ref rfl rfl | exact .sl rfl (by first | rfl | exact List.length_set.symm | exact (splT_len (by simp only [List.length_take, List.length_drop]; omega)).symm | omega | (rw [List.length_append, List.length_map]; show _ + 1 = _; omega) | simp) | exact .fn _ | exact .tape | exact .nils rfl | exact .nild | exact .nildm | exact .nil | exact .rp (by simp) | exact .clo (by simp) | exact .el rfl rfl rfl | exact .d (by first | rfl | (congr 1; omega) | (congr 1; assumption) | simp) | exact .virt rfl | exact .gone _ | refine .blk rfl ?_ | exact .arr rfl (by first | rfl | assumption | simp))); (exact hP))
    | ((with_reducible refine v_rgat (i := 6) ?_); (refine n_start (by kernel_rfl) ?_; (refine n_quiet none #[true, true, true, true, true, true, true, true, true, true, true, true, true, true, true, true, true, true, true, true, true, true, true, true, true, true] [0, 1, 2, 3, 4, 5, 6, 7, 8, 9, 10, 11, 12, 13, 14, 15, 16, 17, 18, 19, 20, 21, 22, 23, 24, 25] 0 rfl ?_; (repeat' (first | ((fail_if_success (have hTest : Hld False := hP)); (have hq := chk_c hP); (replace hP := chk_p hP)) | ((with_reducible apply (d_e (some []))); exact rfl; exact rfl; kernel_rfl; kernel_rfl; exact rfl; exact rfl; (first | ((with_reducible apply e_v); exact rfl) | ((with_reducible apply e_pk); exact rfl; (first | with_reducible assumption); exact rfl) | ((with_reducible apply f_ia); exact rfl; exact rfl; exact rfl; (case inst => exact inferInstance); exact rfl; exact rfl; (apply chk_c; exact hP; (first | skip))) | ((with_reducible apply f_strne); kernel_rfl; exact rfl; exact rfl))) | ((with_reducible apply (d_ey (some []))); exact rfl; exact rfl; exact rfl; (first | with_reducible assumption); exact rfl; kernel_rfl; kernel_rfl; exact rfl; exact rfl; (first | ((with_reducible apply e_v); exact rfl) | ((with_reducible apply f_ia); exact rfl; exact rfl; exact rfl; (case inst => exact inferInstance); exact rfl; exact rfl; (first | with_reducible assumption)) | ((with_reducible apply f_strne); kernel_rfl; exact rfl; exact rfl) | ((with_reducible apply (f_bstr (t := 23) (t' := 9))); kernel_rfl; (first | exact .d _)))) | ((with_reducible apply d_gm); exact rfl; exact rfl; exact rfl; (first | with_reducible assumption); exact rfl; kernel_rfl; kernel_rfl; exact rfl; exact rfl) | ((with_reducible apply v_dgs); exact rfl; exact rfl; exact rfl; ((repeat ((fail_if_success (have hTest : Hld False := hP)); (have hq := chk_c hP); (replace hP := chk_p hP))); exact hP); all_goals (clear hP; intro hg hP)) | ((with_reducible apply d_leaf); exact (by decide +kernel)))); all_goals ((with_reducible apply n_doneZ); exact rfl; exact (by decide +kernel)))))
    | ((with_reducible apply v_if); exact rfl; (exact hP); all_goals (clear hP; intro hc hP)))
theorem same11_ic (a b : List Ent) : ICt 38 [ev a, ev b] (fun v => v = bv (sameS a b)) := (same11_V a b _).2 (by
  (delta same11_V; dsimp only [mkV])
  (repeat' (first | with_reducible refine brn_nd (fun h => ?_) (fun h => ?_) | with_reducible refine brn_d (fun h => ?_) (fun h => ?_) | with_reducible refine brn_nn (fun h => ?_) (fun h => ?_) | with_reducible refine brn_nb (fun h => ?_) (fun h => ?_) | with_reducible refine Brn.mk (fun h => ?_) (fun h => ?_) | with_reducible refine Chk.mk ?_ ?_ | with_reducible refine Bth.mk ?_ ?_ | with_reducible refine Fct.mk (fun hf => ?_)))
  · have h : ¬ sameS a b = true := fun h => by
      have := congrArg List.length (of_decide_eq_true h)
      simp at this
      omega
    rw [Bool.not_eq_true] at h
    rw [h]
  have no : ∀ z : Int, 0 ≤ z → z < a.length → ¬ ((gt a z).nm = (gt b z).nm ∧ bsI (gt a z).dat = bsI (gt b z).dat) → sameS a b = false := fun z h0 h1 hz => by
    rw [← Bool.not_eq_true]
    intro h
    have h2 := congrArg (·[z.toNat]?) (of_decide_eq_true h)
    simp only [List.getElem?_map] at h2
    rw [List.getElem?_eq_getElem (show z.toNat < a.length by omega), List.getElem?_eq_getElem (show z.toNat < b.length by omega), gt_eq' a h0 h1, gt_eq' b h0 (by omega)] at h2
    simp at h2
    exact hz h2
  refine lp1 (fun z => 0 ≤ z ∧ z ≤ a.length ∧ ∀ i : Nat, (i : Int) < z → (gt a (i : Int)).nm = (gt b (i : Int)).nm ∧ bsI (gt a (i : Int)).dat = bsI (gt b (i : Int)).dat) (fun z => (a.length - z).toNat) ⟨by omega, by omega, fun i hi => by omega⟩ ?_
  rintro I μ nx z ⟨j0, j1, j2⟩
  (repeat' (first | with_reducible refine brn_nd (fun h => ?_) (fun h => ?_) | with_reducible refine brn_d (fun h => ?_) (fun h => ?_) | with_reducible refine brn_nn (fun h => ?_) (fun h => ?_) | with_reducible refine brn_nb (fun h => ?_) (fun h => ?_) | with_reducible refine Brn.mk (fun h => ?_) (fun h => ?_) | with_reducible refine Chk.mk ?_ ?_ | with_reducible refine Bth.mk ?_ ?_ | with_reducible refine Fct.mk (fun hf => ?_)))
  · omega
  · omega
  · rw [no z j0 (by omega) (fun h => absurd h.1 (by assumption))]
  · rw [no z j0 (by omega) (fun h => absurd h.2 (by assumption))]
  · unfold InI; omega
  · refine nx _ _ ⟨j0, j1, j2⟩ ⟨by omega, by omega, fun i hi => ?_⟩ (by omega)
    by_cases e : (i : Int) < z
    · exact j2 i e
    · rw [show (i : Int) = z by omega]; constructor <;> assumption
  · have h : sameS a b = true := decide_eq_true (List.ext_getElem (by simp; omega) fun i h1 h2 => by
      simp at h1 h2
      have := j2 i (by omega)
      rw [gt_nat h1, gt_nat h2] at this
      simp [this.1, this.2])
    rw [h])
end Go.Proofs.Ytbnmcdnkeipdhaa
