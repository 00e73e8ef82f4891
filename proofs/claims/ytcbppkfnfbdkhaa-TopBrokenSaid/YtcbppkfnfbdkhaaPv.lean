/- Makers: fleets. -/
import Derived.Test.YtcbppkfnfbdkhaaPu
import Derived.Test.YtcbppkfnfbdkhaaQTp
set_option linter.all false
set_option maxRecDepth 20000
set_option maxHeartbeats 4000000
namespace Go.Proofs.Ytcbppkfnfbdkhaa
open Go.RowKit Go.Shelf
noncomputable def mfleet_V (most : Int) (φ : Flt → Prop) : Σ' P : Prop, (P → ICo Try.prog 25 70 [.one .tape, .one (.d (.int .i64 most))] (OwnS φ (fun a => .agg [.d (.int .i64 a.slots), .sl 351 a.cons.length 3]) (fun a => [(351, .arr 150 3 (a.cons.map Csm.row))]))) := by
  apply mkV; intro hP
  refine ico_wk (K 32) Try.func70 rfl rfl rfl rfl (fun w0 => ?_)
  apply (v_kint (x := 1)); exact rfl; exact hP; clear hP; intro hP
  repeat' (first
    | ((fail_if_success (have hTest : Hld False := hP)); (have hq := chk_c hP); (replace hP := chk_p hP))
    | (with_reducible (first | apply c_seq | apply c_rg | apply j_nil | apply q_n | apply c_bl | apply c_ex | apply c_ret | apply c_sk | apply q_e | apply b_e | apply b_n | apply n_n | apply n_e))
    | ((with_reducible apply j_v); exact rfl; exact rfl)
    | ((with_reducible apply j_h); exact rfl; exact rfl)
    | ((with_reducible apply j_s); exact rfl)
    | ((with_reducible apply j_sub); exact rfl; exact rfl; exact rfl; (with_reducible apply wr_i64; (apply chk_c; exact hP; (first | skip))))
    | ((with_reducible apply (o_as (mk := Flt.mk) (row := Csm.row))); exact rfl; exact rfl; exact rfl; exact rfl; exact Nat.le_of_ble_eq_true rfl; exact rfl; exact rfl; (first | exact rfl); exact rfl; exact rfl; (exact hP.out))
    | ((with_reducible apply v_ndp (pu := false)); exact rfl; exact ⟨rfl, rfl⟩; (apply (between_nd _ _); rotate_left 2); (focus ((repeat' (first | exact .nil _ | refine PsSL.cons ?_ ?_ | exact .one (.d _ _) | exact .one (.tape _))) <;> fail)); exact .inr (fun _ => rfl); (exact hP); clear hP; intro x hx hP)
    | ((with_reducible refine v_loopat (c := (.seq (.seq (.region 3 _ _) _) _)) ?_); (apply (v_loop3 [] _ _ [0, 4, 5] [4] (fun x1 x2 x3 => [(6, .one (.d (.int .i64 x2)))]) (fun x1 x2 x3 => [(5, .blk 92 [.d (.int .i64 x3), .sl 351 (List.length x1) 3]), (351, .arr 150 3 (List.map Csm.row x1))]) [351])); exact rfl; exact rfl; (focus (refine ⟨?_, ?_⟩; rotate_left 1; (focus (repeat' (first | exact .nil | refine .cons ?_ ?_ | exact .d rfl | exact .nils rfl | exact .virt rfl | refine .blk rfl ?_))); (focus (repeat' (first | exact .nil | refine .cons ?_ ?_ | exact SVle_pl rfl | refine .one ?_ | exact .ref rfl rfl | exact .tape))))); (exact hP); clear hP; intro I μ x1 x2 x3 hP)
    | ((with_reducible apply (v_nxt3 (a1 := _) (a2 := _) (a3 := _))); rotate_left 1; (focus (repeat' (first | exact .nil | refine .cons ?_ ?_ | exact .d rfl | exact .sl rfl (by first | rfl | exact List.length_set.symm | exact (splT_len (by simp only [List.length_take, List.length_drop]; omega)).symm | omega | (rw [List.length_append, List.length_map]; show _ + 1 = _; omega) | simp) | refine .blk rfl ?_ | exact .arr rfl (by first | rfl | assumption | simp)))); rotate_right 1; (focus (repeat' (first | exact .nil | refine .cons ?_ ?_ | exact SVle_pl rfl | refine .one ?_ | exact .ref rfl rfl | exact .tape))); (exact hP))
    | ((with_reducible refine v_rgat (i := 5) ?_); (refine n_start (by kernel_rfl) ?_; (refine n_quiet (some [5]) #[true, true, true, true, true, true, true, true, true, true, true, true, false, false, false] [0, 1, 2, 4, 7, 3, 5, 6, 8, 9, 10, 11] 3 rfl ?_; (repeat' (first | ((with_reducible apply (d_e (some []))); exact rfl; exact rfl; kernel_rfl; kernel_rfl; exact rfl; exact rfl; ((with_reducible apply e_v); exact rfl)) | ((with_reducible apply (v_dbsf (d := 28) (Csm.row))); exact rfl; exact rfl; exact (by decide +kernel); exact rfl; exact rfl; exact rfl; exact rfl; exact rfl; exact rfl; exact rfl; exact rfl; exact rfl; exact (row_cons (Csm.row_mk _ _ _) row_nil); exact rfl) | ((with_reducible apply d_nd); exact rfl; exact rfl; exact (by decide +kernel); ((with_reducible apply f_ndp (pu := false)); exact rfl; exact ⟨rfl, rfl⟩; apply (next_nd _); rotate_left 1; (focus ((repeat' (first | exact .nil _ | refine PsSL.cons ?_ ?_ | exact .one (.d _ _) | exact .one (.tape _))) <;> fail)); exact .inr (fun _ => rfl); ((repeat ((fail_if_success (have hTest : Hld False := hP)); (have hq := chk_c hP); (replace hP := chk_p hP))); first | with_reducible assumption | (apply chk_c; exact hP; (first | skip)))); (with_reducible apply nd_intro); ((repeat ((fail_if_success (have hTest : Hld False := hP)); (have hq := chk_c hP); (replace hP := chk_p hP))); exact hP); clear hP; intro x hx hP) | ((with_reducible apply d_leaf); exact (by decide +kernel)))); all_goals (refine n_one 12 (by decide +kernel) rfl ?_; (repeat' (first | ((fail_if_success (have hTest : Hld False := hP)); (have hq := chk_c hP); (replace hP := chk_p hP)) | (with_reducible (first | apply j_nil)) | ((with_reducible apply (v_ap (Csm.row))); exact rfl; exact rfl; exact rfl; exact rfl; exact rfl; exact rfl; exact rfl; (first | exact rfl); exact rfl; exact rfl; exact rfl; (apply src_d; exact rfl; (intro row hrow; obtain ⟨q, _, rfl⟩ := List.mem_map.1 hrow; rfl)); (first | exact rfl); exact rfl; exact rfl; exact rfl; (apply chk_c; exact hP; (first | skip))))); all_goals (refine n_quiet (some [5]) #[false, false, false, false, false, false, false, false, false, false, false, false, false, true, true] [13, 14] 0 rfl ?_; (repeat' (first | ((with_reducible apply (d_e (some []))); exact rfl; exact rfl; kernel_rfl; exact (by decide +kernel); exact rfl; exact rfl; ((with_reducible apply e_v); exact rfl)) | ((with_reducible apply d_st); exact rfl; exact (by decide +kernel); exact rfl; exact rfl; exact rfl; exact rfl; exact rfl; exact rfl; exact rfl) | ((with_reducible apply d_leaf); exact (by decide +kernel)))); all_goals ((with_reducible apply n_doneZ); exact rfl; exact (by decide +kernel)))))))
    | ((with_reducible apply v_if); exact rfl; (exact hP); all_goals (clear hP; intro hc hP)))
theorem mfleet_sn (most : Int) : ICsn (1 ≤ most ∧ most ≤ 8) 70 [.one .tape, iv most] (fun f : Flt => (f.slots = 1 ∨ f.slots = 2) ∧ 1 ≤ f.cons.length ∧ (f.cons.length : Int) ≤ most ∧ ∀ c ∈ f.cons, c.pool = 0 ∨ c.pool = 1) (fun a => .agg [.d (.int .i64 a.slots), .sl 351 a.cons.length 3]) (fun a => [(351, .arr 150 3 (a.cons.map Csm.row))]) := fun hm => (mfleet_V most _).2 (by
  (delta mfleet_V; dsimp only [mkV])
  (repeat' (first | with_reducible refine brn_nd (fun h => ?_) (fun h => ?_) | with_reducible refine brn_d (fun h => ?_) (fun h => ?_) | with_reducible refine brn_nn (fun h => ?_) (fun h => ?_) | with_reducible refine brn_nb (fun h => ?_) (fun h => ?_) | with_reducible refine Brn.mk (fun h => ?_) (fun h => ?_) | with_reducible refine Chk.mk ?_ ?_ | with_reducible refine Bth.mk ?_ ?_ | with_reducible refine Fct.mk (fun hf => ?_)))
  · omega
  intro sl hsl
  (repeat' (first | with_reducible refine brn_nd (fun h => ?_) (fun h => ?_) | with_reducible refine brn_d (fun h => ?_) (fun h => ?_) | with_reducible refine brn_nn (fun h => ?_) (fun h => ?_) | with_reducible refine brn_nb (fun h => ?_) (fun h => ?_) | with_reducible refine Brn.mk (fun h => ?_) (fun h => ?_) | with_reducible refine Chk.mk ?_ ?_ | with_reducible refine Bth.mk ?_ ?_ | with_reducible refine Fct.mk (fun hf => ?_)))
  · omega
  intro n hn
  refine lp3 (fun o k z => 0 ≤ k ∧ k ≤ n ∧ (o.length : Int) = n - k ∧ z = sl ∧ ∀ c ∈ o, c.pool = 0 ∨ c.pool = 1) (fun _ k _ => k.toNat) ⟨by omega, by omega, by simp, rfl, fun c hc => by cases hc⟩ ?_
  rintro I μ nx o k z ⟨h0, h1, h2, rfl, h3⟩
  (repeat' (first | with_reducible refine brn_nd (fun h => ?_) (fun h => ?_) | with_reducible refine brn_d (fun h => ?_) (fun h => ?_) | with_reducible refine brn_nn (fun h => ?_) (fun h => ?_) | with_reducible refine brn_nb (fun h => ?_) (fun h => ?_) | with_reducible refine Brn.mk (fun h => ?_) (fun h => ?_) | with_reducible refine Chk.mk ?_ ?_ | with_reducible refine Bth.mk ?_ ?_ | with_reducible refine Fct.mk (fun hf => ?_)))
  · omega
  · intro a ha
    (repeat' (first | with_reducible refine brn_nd (fun h => ?_) (fun h => ?_) | with_reducible refine brn_d (fun h => ?_) (fun h => ?_) | with_reducible refine brn_nn (fun h => ?_) (fun h => ?_) | with_reducible refine brn_nb (fun h => ?_) (fun h => ?_) | with_reducible refine Brn.mk (fun h => ?_) (fun h => ?_) | with_reducible refine Chk.mk ?_ ?_ | with_reducible refine Bth.mk ?_ ?_ | with_reducible refine Fct.mk (fun hf => ?_)))
    · omega
    · intro b hb
      (repeat' (first | with_reducible refine brn_nd (fun h => ?_) (fun h => ?_) | with_reducible refine brn_d (fun h => ?_) (fun h => ?_) | with_reducible refine brn_nn (fun h => ?_) (fun h => ?_) | with_reducible refine brn_nb (fun h => ?_) (fun h => ?_) | with_reducible refine Brn.mk (fun h => ?_) (fun h => ?_) | with_reducible refine Chk.mk ?_ ?_ | with_reducible refine Bth.mk ?_ ?_ | with_reducible refine Fct.mk (fun hf => ?_)))
      · omega
      · intro c hc
        (repeat' (first | with_reducible refine brn_nd (fun h => ?_) (fun h => ?_) | with_reducible refine brn_d (fun h => ?_) (fun h => ?_) | with_reducible refine brn_nn (fun h => ?_) (fun h => ?_) | with_reducible refine brn_nb (fun h => ?_) (fun h => ?_) | with_reducible refine Brn.mk (fun h => ?_) (fun h => ?_) | with_reducible refine Chk.mk ?_ ?_ | with_reducible refine Bth.mk ?_ ?_ | with_reducible refine Fct.mk (fun hf => ?_)))
        · simp; omega
        · unfold InI; omega
        · refine nx _ _ _ _ _ _ ⟨h0, h1, h2, rfl, h3⟩ ⟨by omega, by omega, by simp; omega, rfl, fun c hc => ?_⟩ (by omega)
          rcases List.mem_append.1 hc with hc | hc
          · exact h3 c hc
          · rw [List.mem_singleton] at hc
            subst hc
            show a = 0 ∨ a = 1
            omega
  · exact ⟨by omega, by omega, by omega, h3⟩)
noncomputable def rUnitsO_V (f : Flt) (p : Int) (x0 : List Int) : Σ' P : Prop, (P → ICl 71 [.agg (List.map .d (Flt.row f)), .one (.d (.int .i64 p))] 3 1 (List.map irow x0)) := by
  apply mkV; intro hP
  refine ico_wk (K 29) Try.func71 rfl rfl rfl rfl (fun w0 => ?_)
  apply (v_kint (x := 1)); exact rfl; exact hP; clear hP; intro hP
  repeat' (first
    | ((fail_if_success (have hTest : Hld False := hP)); (have hq := chk_c hP); (replace hP := chk_p hP))
    | (with_reducible (first | apply c_seq | apply c_rg | apply j_nil | apply q_n | apply c_bl | apply c_ex | apply c_ret | apply c_sk | apply q_r | apply q_e | apply b_e | apply b_n | apply n_n | apply n_e))
    | ((with_reducible apply c_l1); exact rfl; exact rfl)
    | ((with_reducible apply j_v); exact rfl; exact rfl)
    | ((with_reducible apply (v_bsf (d := 25) (irow))); exact rfl; exact rfl; exact (row_cons (irow_mk _) row_nil); exact rfl; exact rfl)
    | ((with_reducible apply j_h); exact rfl; exact rfl)
    | ((with_reducible apply j_s); exact rfl)
    | ((with_reducible apply v_lenm); exact rfl; exact rfl; exact rfl; (exact hP); clear hP; intro hP)
    | ((with_reducible apply j_add); exact rfl; exact rfl; exact rfl; (with_reducible apply wr_i64; (apply chk_c; exact hP; (first | skip))))
    | ((with_reducible apply v_ia); exact rfl; exact rfl; exact rfl; exact rfl; (case inst => exact inferInstance); exact rfl; exact rfl; (apply chk_c; exact hP; (first | skip)))
    | ((with_reducible apply (v_ap (irow))); exact rfl; exact rfl; exact rfl; exact rfl; exact rfl; exact rfl; exact rfl; (first | exact rfl); exact rfl; exact rfl; exact rfl; (apply src_d; exact rfl; (intro row hrow; obtain ⟨q, _, rfl⟩ := List.mem_map.1 hrow; rfl)); (first | exact rfl); exact rfl; exact rfl; exact rfl; (apply chk_c; exact hP; (first | skip)))
    | ((with_reducible apply o_sl); exact rfl; exact rfl; exact rfl; (first | exact rfl); (exact hP.out))
    | ((with_reducible apply o_nl); exact rfl; exact rfl; (exact hP.out))
    | ((with_reducible apply j_call (pu := false)); exact rfl; (apply (rValid_ic _); rotate_left 1); (focus ((repeat' (first | exact .nil _ | refine PsL.cons ?_ ?_ | refine PsSL.cons ?_ ?_ | refine .agg ?_ | exact .d _ _)) <;> fail)); exact .inr rfl)
    | ((with_reducible refine v_loopat (c := (.seq (.region 5 _ _) _)) ?_); (apply (v_loop2 [] _ [1, 12, 13] [] (fun x1 x2 => [(5, .one (.sl 205 (List.length x1) 1)), (14, .one (.d (.int .i64 x2)))]) (fun x1 x2 => [(205, .arr 3 1 (List.map irow x1))]) [205])); exact rfl; exact rfl; (focus (refine ⟨?_, ?_⟩; rotate_left 1; (focus (repeat' (first | exact .nil | refine .cons ?_ ?_ | exact .virt rfl))); (focus (repeat' (first | exact .nil | refine .cons ?_ ?_ | exact SVle_pl rfl | refine .one ?_ | exact .nils rfl))))); (exact hP); clear hP; intro I μ x1 x2 hP)
    | ((with_reducible apply (v_nxt2 (a1 := _) (a2 := _))); rotate_left 1; (focus (repeat' (first | exact .nil | refine .cons ?_ ?_ | exact .arr rfl (by first | rfl | assumption | simp)))); rotate_right 1; (focus (repeat' (first | exact .nil | refine .cons ?_ ?_ | exact SVle_pl rfl | refine .one ?_ | exact .sl rfl (by first | rfl | exact List.length_set.symm | exact (splT_len (by simp only [List.length_take, List.length_drop]; omega)).symm | omega | (rw [List.length_append, List.length_map]; show _ + 1 = _; omega) | simp)))); (exact hP))
    | ((with_reducible apply v_if); exact rfl; (exact hP); all_goals (clear hP; intro hc hP)))
theorem rUnits_q : ∀ (f : Flt) (p : Int), ICq True 71 [f.v, iv p] 3 1 ((unitsS f p).map irow) := fun f p _ => (rUnitsO_V f p _).2 (by
  (delta rUnitsO_V; dsimp only [mkV])
  (repeat' (first | with_reducible refine brn_nd (fun h => ?_) (fun h => ?_) | with_reducible refine brn_d (fun h => ?_) (fun h => ?_) | with_reducible refine brn_nn (fun h => ?_) (fun h => ?_) | with_reducible refine brn_nb (fun h => ?_) (fun h => ?_) | with_reducible refine Brn.mk (fun h => ?_) (fun h => ?_) | with_reducible refine Chk.mk ?_ ?_ | with_reducible refine Bth.mk ?_ ?_ | with_reducible refine Fct.mk (fun hf => ?_)))
  · have e : fltB f = false := by assumption
    unfold unitsS; rw [e]; rfl
  have e : fltB f = true := by assumption
  have hl := flt_len e
  refine up2 (fun o z => o = nums (inPool p) (f.cons.take z.toNat)) (by omega) rfl ?_ ?_
  · rintro I μ o z h0 h1 rfl nx
    obtain ⟨i, rfl, hi⟩ := natz h0 h1
    have e1 : ((i : Int) + 1).toNat = i + 1 := by omega
    have hn := nums_len (inPool p) (f.cons.take i)
    rw [List.length_take] at hn
    simp only [e1, Int.toNat_natCast] at nx ⊢
    rw [nums_snoc _ (by omega)] at nx
    (repeat' (first | with_reducible refine brn_nd (fun h => ?_) (fun h => ?_) | with_reducible refine brn_d (fun h => ?_) (fun h => ?_) | with_reducible refine brn_nn (fun h => ?_) (fun h => ?_) | with_reducible refine brn_nb (fun h => ?_) (fun h => ?_) | with_reducible refine Brn.mk (fun h => ?_) (fun h => ?_) | with_reducible refine Chk.mk ?_ ?_ | with_reducible refine Bth.mk ?_ ?_ | with_reducible refine Fct.mk (fun hf => ?_)))
    · omega
    · simp; omega
    · unfold InI; omega
    · rw [if_pos (by simp [inPool, *])] at nx; exact nx _ rfl
    · unfold InI; omega
    · rw [if_neg (by simp [inPool, *])] at nx; exact nx _ rfl
  · rintro I μ o rfl
    simp only [Int.toNat_natCast, List.take_length]
    unfold unitsS; rw [if_pos e])
theorem gt_map {α β : Type} [Inhabited α] [Inhabited β] (g : α → β) {l : List α} {i : Int} (h0 : 0 ≤ i) (h1 : i < l.length) : gt (l.map g) i = g (gt l i) := by
  rw [gt_eq (by simp; omega), gt_eq (by omega), List.getElem_map]
theorem flt_map {sl : Int} {a b : List Csm} (h : a.map Csm.pool = b.map Csm.pool) : fltB ⟨sl, a⟩ = fltB ⟨sl, b⟩ := by
  have hl : a.length = b.length := by simpa using congrArg List.length h
  have hc : ∀ l : List Csm, l.any cmOdd = (l.map Csm.pool).any fun p => decide (p < 0 ∨ 7 < p) := fun l => by rw [List.any_map]; rfl
  unfold fltB
  simp only [hl, hc, h]
theorem units_map {sl : Int} {a b : List Csm} (h : a.map Csm.pool = b.map Csm.pool) (p : Int) : unitsS ⟨sl, a⟩ p = unitsS ⟨sl, b⟩ p := by
  have hl : a.length = b.length := by simpa using congrArg List.length h
  have key : ∀ l : List Csm, nums (inPool p) l = nums (fun q => decide (q = p)) (l.map Csm.pool) := fun l => by
    unfold nums
    rw [List.length_map]
    refine congrArg (List.map _) (List.filter_congr fun i hi => ?_)
    rw [gt_map Csm.pool (by omega) (by simpa using hi)]; rfl
  unfold unitsS
  rw [flt_map h]
  show (if _ then nums (inPool p) a else []) = if _ then nums (inPool p) b else []
  rw [key a, key b, h]
theorem set_map {l : List Csm} {i : Int} {c : Csm} (h0 : 0 ≤ i) (h1 : i < l.length) (h : c.pool = (gt l i).pool) : (l.set i.toNat c).map Csm.pool = l.map Csm.pool := by
  rw [List.map_set, h, gt_eq (by omega)]
  rw [show (l[i.toNat]'(by omega)).pool = (l.map Csm.pool)[i.toNat]'(by simp; omega) by rw [List.getElem_map]]
  exact List.set_getElem_self _
def FitP (f : Flt) : Prop := fltB f = true ∧ (∀ c ∈ f.cons, c.pool = 0 ∨ c.pool = 1) ∧ ∀ q ∈ poolsS f, fitB f q = true
theorem fit_of {f : Flt} (hf : fltB f = true) (h : ∀ j : Int, 0 ≤ j → j < f.cons.length → (unitsS f (gt f.cons j).pool).length = 1 → (gt f.cons j).live = true ∧ ((gt f.cons j).dual = true ∨ f.slots = 2)) : ∀ q ∈ poolsS f, fitB f q = true := by
  intro q hq
  obtain ⟨i, i0, i1, rfl⟩ := (mem_pools hf).1 hq
  have hi := (mem_units hf).2 ⟨i0, i1, rfl⟩
  have hpos := List.length_pos_of_mem hi
  unfold fitB
  split
  · rename_i h1
    obtain ⟨a, b, c⟩ := (mem_units hf).1 (gt_mem (xs := unitsS f (gt f.cons i).pool) (i := 0) (by omega) (by omega))
    obtain ⟨d1, d2⟩ := h _ a b (by rw [c]; exact h1)
    rw [d1]
    rcases d2 with d2 | d2 <;> simp [d2]
  · rw [decide_eq_true_iff]; omega
noncomputable def mfit_V (most : Int) (Q : SV → Prop) : Σ' P : Prop, (P → ICt 34 [.one .tape, .one (.d (.int .i64 most))] Q) := by
  apply mkV; intro hP
  refine ic_wk (K 48) Try.func34 rfl rfl rfl rfl (fun w0 => ?_)
  apply (v_kint (x := 1)); exact rfl; exact hP; clear hP; intro hP
  repeat' (first
    | ((fail_if_success (have hTest : Hld False := hP)); (have hq := chk_c hP); (replace hP := chk_p hP))
    | ((apply (v_lnc 19 5 1)); exact rfl; exact rfl; exact rfl; exact rfl; (fail_if_success with_reducible assumption); (apply chk_c; exact hP; (first | skip)))
    | ((apply (v_lnc 47 5 1)); exact rfl; exact rfl; exact rfl; exact rfl; (fail_if_success with_reducible assumption); (apply chk_c; exact hP; (first | skip)))
    | (with_reducible (first | apply c_seq | apply c_rg | apply j_nil | apply q_n | apply c_bl | apply c_ex | apply c_ret | apply c_sk | apply q_e | apply b_e | apply b_n | apply n_n | apply n_e))
    | ((with_reducible apply (v_ldel (f := Csm.row))); exact rfl; exact rfl; exact rfl; exact rfl; (case inst => exact inferInstance); exact rfl; (first | with_reducible assumption))
    | ((with_reducible apply c_l1); exact rfl; exact rfl)
    | ((with_reducible apply j_v); exact rfl; exact rfl)
    | ((with_reducible apply j_h); exact rfl; exact rfl)
    | ((with_reducible apply j_s); exact rfl)
    | ((with_reducible apply v_lenm); exact rfl; exact rfl; exact rfl; (exact hP); clear hP; intro hP)
    | ((with_reducible apply v_lens); exact rfl; exact rfl; exact rfl; (exact hP); clear hP; intro hP)
    | ((with_reducible apply j_add); exact rfl; exact rfl; exact rfl; (with_reducible apply wr_i64; (apply chk_c; exact hP; (first | skip))))
    | ((with_reducible apply v_iasl); exact rfl; exact rfl; exact rfl; exact rfl; (apply chk_c; exact hP; (first | skip)))
    | ((apply (v_ste (f := Csm.row))); exact rfl; exact rfl; (case inst => exact inferInstance); exact rfl; exact rfl; exact rfl; exact rfl; exact rfl; (first | exact congrArg some (Csm.row_mk _ _ _)); (first | with_reducible assumption))
    | ((with_reducible apply r_g); exact rfl; (· repeat' (first | exact True.intro | refine And.intro ?_ ?_ | (show (_ : Nat) = _; (simp only [List.length_set, List.length_map, List.length_append] <;> omega)))); (exact hP.out))
    | ((with_reducible apply (v_callos (d := 10) 1000)); exact rfl; exact ⟨rfl, rfl⟩; apply (mfleet_sn _); rotate_left 1; (focus ((repeat' (first | exact .nil _ | refine PsSL.cons ?_ ?_ | exact .one (.d _ _) | exact .one (.tape _))) <;> fail)); exact rfl; exact rfl; (focus (intro a9; dsimp only [SV.ren, CV.ren, List.map, Nat.reduceAdd]; try exact rfl)); (focus (intro a9; dsimp only [renH, VH.ren, List.map, Nat.reduceAdd, List.cons_append, List.nil_append]; try exact rfl)); (exact hP); clear hP; intro x hx hP)
    | ((with_reducible apply v_colf); exact rfl; exact ⟨rfl, rfl⟩; ((apply (rUnits_q ⟨_, _⟩ _); rotate_left 3; dsimp only [Flt.v_mk])); (focus ((repeat' (first | exact .nil _ | refine PsL.cons ?_ ?_ | refine PsSL.cons ?_ ?_ | exact .one (.d _ _) | refine .agg ?_ | exact .d _ _ | exact .sl rfl (by rw [List.length_map]; omega))) <;> fail)); exact True.intro)
    | ((with_reducible refine v_loopat (c := (.seq (.region 3 _ _) _)) ?_); (apply (v_loop2 _ _ [4, 5, 13] [4, 5] (fun x1 x2 => [(12, .one (.sl 1351 (List.length x1) 3)), (14, .one (.d (.int .i64 x2)))]) (fun x1 x2 => [(1351, .arr 150 3 (List.map Csm.row x1))]) [])); exact rfl; exact rfl; (focus (refine ⟨?_, ?_⟩; rotate_left 1; (focus (repeat' (first | exact .nil | refine .cons ?_ ?_ | exact .d rfl | exact .sl rfl (by first | rfl | exact List.length_set.symm | exact (splT_len (by simp only [List.length_take, List.length_drop]; omega)).symm | omega | (rw [List.length_append, List.length_map]; show _ + 1 = _; omega) | simp) | refine .blk rfl ?_ | exact .arr rfl (by first | rfl | assumption | simp)))); (focus (repeat' (first | exact .nil | refine .cons ?_ ?_ | exact SVle_pl rfl | refine .one ?_ | exact .ref rfl rfl | exact .sl rfl (by first | rfl | exact List.length_set.symm | exact (splT_len (by simp only [List.length_take, List.length_drop]; omega)).symm | omega | (rw [List.length_append, List.length_map]; show _ + 1 = _; omega) | simp)))))); (exact hP); clear hP; intro I μ x1 x2 hP)
    | ((with_reducible apply (v_nxt2 (a1 := _) (a2 := _))); rotate_left 1; (focus (repeat' (first | exact .nil | refine .cons ?_ ?_ | exact .d rfl | exact .sl rfl (by first | rfl | exact List.length_set.symm | exact (splT_len (by simp only [List.length_take, List.length_drop]; omega)).symm | omega | (rw [List.length_append, List.length_map]; show _ + 1 = _; omega) | simp) | refine .blk rfl ?_ | exact .arr rfl (by first | rfl | assumption | simp)))); rotate_right 1; (focus (repeat' (first | exact .nil | refine .cons ?_ ?_ | exact SVle_pl rfl | refine .one ?_ | exact .ref rfl rfl | exact .sl rfl (by first | rfl | exact List.length_set.symm | exact (splT_len (by simp only [List.length_take, List.length_drop]; omega)).symm | omega | (rw [List.length_append, List.length_map]; show _ + 1 = _; omega) | simp)))); (exact hP))
    | ((with_reducible refine v_rgat (i := 7) ?_); (refine n_start (by kernel_rfl) ?_; (refine n_quiet (some [1351]) #[true, true, true, true, true, true, true, true, true, true, true, true, true, true, true, true, true] [0, 1, 2, 3, 4, 5, 6, 7, 8, 9, 10, 11, 12, 13, 14, 15, 16] 0 rfl ?_; (repeat' (first | ((fail_if_success (have hTest : Hld False := hP)); (have hq := chk_c hP); (replace hP := chk_p hP)) | ((with_reducible apply (d_e (some []))); exact rfl; exact rfl; kernel_rfl; exact (by decide +kernel); exact rfl; exact rfl; (first | ((with_reducible apply e_v); exact rfl) | ((with_reducible apply e_pk); exact rfl; (first | with_reducible assumption); exact rfl) | ((with_reducible apply e_ld_el1); exact rfl; exact rfl; exact rfl; (first | exact gt_row (by omega) (by simp only [List.length_set]; omega)); exact rfl) | ((with_reducible apply f_iasl); exact rfl; exact rfl; exact rfl; (first | with_reducible assumption)))) | ((with_reducible apply (d_ey (some []))); exact rfl; exact rfl; exact rfl; (first | with_reducible assumption); exact rfl; kernel_rfl; exact (by decide +kernel); exact rfl; exact rfl; ((with_reducible apply e_v); exact rfl)) | ((apply (v_dste (f := Csm.row))); exact rfl; exact (by decide +kernel); exact rfl; exact rfl; exact rfl; (case inst => exact inferInstance); exact rfl; exact rfl; exact rfl; exact rfl; exact rfl; exact (Csm.row_mk _ _ _); ((repeat ((fail_if_success (have hTest : Hld False := hP)); (have hq := chk_c hP); (replace hP := chk_p hP))); first | with_reducible assumption | (apply chk_c; exact hP; (first | skip)))) | ((with_reducible apply d_gm); exact rfl; exact rfl; exact rfl; (first | with_reducible assumption); exact rfl; kernel_rfl; kernel_rfl; exact rfl; exact rfl) | ((with_reducible apply v_dgs); exact rfl; exact rfl; exact rfl; ((repeat ((fail_if_success (have hTest : Hld False := hP)); (have hq := chk_c hP); (replace hP := chk_p hP))); exact hP); all_goals (clear hP; intro hg hP)) | ((with_reducible apply d_leaf); exact (by decide +kernel)))); all_goals ((with_reducible apply n_doneZ); exact rfl; exact (by decide +kernel)))))
    | ((with_reducible apply v_if); exact rfl; (exact hP); all_goals (clear hP; intro hc hP)))
theorem mfit_nd (most : Int) : ICp (1 ≤ most ∧ most ≤ 8) 34 [.one .tape, iv most] (ND FitP Flt.v) := fun hm => (mfit_V most _).2 (by
  (delta mfit_V; dsimp only [mkV])
  (repeat' (first | with_reducible refine brn_nd (fun h => ?_) (fun h => ?_) | with_reducible refine brn_d (fun h => ?_) (fun h => ?_) | with_reducible refine brn_nn (fun h => ?_) (fun h => ?_) | with_reducible refine brn_nb (fun h => ?_) (fun h => ?_) | with_reducible refine Brn.mk (fun h => ?_) (fun h => ?_) | with_reducible refine Chk.mk ?_ ?_ | with_reducible refine Bth.mk ?_ ?_ | with_reducible refine Fct.mk (fun hf => ?_)))
  · exact hm
  rintro x ⟨x1, x2, x3, x4⟩
  (repeat' (first | with_reducible refine brn_nd (fun h => ?_) (fun h => ?_) | with_reducible refine brn_d (fun h => ?_) (fun h => ?_) | with_reducible refine brn_nn (fun h => ?_) (fun h => ?_) | with_reducible refine brn_nb (fun h => ?_) (fun h => ?_) | with_reducible refine Brn.mk (fun h => ?_) (fun h => ?_) | with_reducible refine Chk.mk ?_ ?_ | with_reducible refine Bth.mk ?_ ?_ | with_reducible refine Fct.mk (fun hf => ?_)))
  have hfx : ∀ o : List Csm, o.map Csm.pool = x.cons.map Csm.pool → fltB ⟨x.slots, o⟩ = true := fun o ho => by
    rw [flt_map ho]
    have hany : x.cons.any cmOdd = false := List.any_eq_false.2 fun c hc => by
      have := x4 c hc
      simp [cmOdd]; omega
    unfold fltB
    simp only [hany, Bool.and_eq_true, decide_eq_true_eq]
    exact ⟨⟨x1, by omega⟩, rfl⟩
  refine up2 (fun o z => o.map Csm.pool = x.cons.map Csm.pool ∧ ∀ j : Int, 0 ≤ j → j < z → (unitsS x (gt x.cons j).pool).length = 1 → (gt o j).live = true ∧ ((gt o j).dual = true ∨ x.slots = 2)) (by omega) ⟨rfl, fun j h0 h1 => by omega⟩ ?_ ?_
  · rintro I μ o z h0 h1 ⟨h2, h3⟩ nx
    have hl : o.length = x.cons.length := by simpa using congrArg List.length h2
    have hp : ∀ j : Int, 0 ≤ j → j < x.cons.length → (gt o j).pool = (gt x.cons j).pool := fun j j0 j1 => by
      rw [← gt_map Csm.pool j0 (by omega), ← gt_map Csm.pool j0 (by omega), h2]
    have hun : unitsS ⟨x.slots, o⟩ (gt o z).pool = unitsS x (gt x.cons z).pool := by
      rw [units_map (b := x.cons) h2, hp z h0 h1]
    have hg1 : ∀ c : Csm, gt (o.set z.toNat c) z = c := fun c => by rw [gt_set (by omega) (by omega), if_pos rfl]
    have hfin : ∀ c : Csm, c.pool = (gt o z).pool → ((unitsS x (gt x.cons z).pool).length = 1 → c.live = true ∧ (c.dual = true ∨ x.slots = 2)) → (o.set z.toNat c).map Csm.pool = x.cons.map Csm.pool ∧ ∀ j : Int, 0 ≤ j → j < z + 1 → (unitsS x (gt x.cons j).pool).length = 1 → (gt (o.set z.toNat c) j).live = true ∧ ((gt (o.set z.toNat c) j).dual = true ∨ x.slots = 2) := fun c c1 c2 => by
      refine ⟨(set_map h0 (by omega) c1).trans h2, fun j j0 j1 hu => ?_⟩
      rw [gt_set (by omega) (by omega)]
      split
      · rename_i e; subst e; exact c2 hu
      · exact h3 j j0 (by omega) hu
    (repeat' (first | with_reducible refine brn_nd (fun h => ?_) (fun h => ?_) | with_reducible refine brn_d (fun h => ?_) (fun h => ?_) | with_reducible refine brn_nn (fun h => ?_) (fun h => ?_) | with_reducible refine brn_nb (fun h => ?_) (fun h => ?_) | with_reducible refine Brn.mk (fun h => ?_) (fun h => ?_) | with_reducible refine Chk.mk ?_ ?_ | with_reducible refine Bth.mk ?_ ?_ | with_reducible refine Fct.mk (fun hf => ?_)))
    · omega
    · omega
    · omega
    · simp only [List.length_set]; omega
    · unfold InI; omega
    · refine nx _ ?_
      rw [List.set_set]
      refine hfin _ (by rw [hg1]) fun _ => ?_
      rw [hg1]
      exact ⟨rfl, .inl rfl⟩
    · simp only [List.length_set]; omega
    · unfold InI; omega
    · refine nx _ ?_
      rw [List.set_set]
      refine hfin _ (by rw [hg1]) fun _ => ?_
      rw [hg1]
      refine ⟨rfl, ?_⟩
      rcases x1 with x1 | x1
      · left; simp [x1]
      · exact .inr x1
    · unfold InI; omega
    · refine nx _ ⟨h2, fun j j0 j1 hu => ?_⟩
      by_cases e : j = z
      · subst e
        rw [hun] at *
        omega
      · exact h3 j j0 (by omega) hu
  · rintro I μ o ⟨h2, h3⟩
    have hl : o.length = x.cons.length := by simpa using congrArg List.length h2
    have hp : ∀ j : Int, 0 ≤ j → j < x.cons.length → (gt o j).pool = (gt x.cons j).pool := fun j j0 j1 => by
      rw [← gt_map Csm.pool j0 (by omega), ← gt_map Csm.pool j0 (by omega), h2]
    (repeat' (first | with_reducible refine brn_nd (fun h => ?_) (fun h => ?_) | with_reducible refine brn_d (fun h => ?_) (fun h => ?_) | with_reducible refine brn_nn (fun h => ?_) (fun h => ?_) | with_reducible refine brn_nb (fun h => ?_) (fun h => ?_) | with_reducible refine Brn.mk (fun h => ?_) (fun h => ?_) | with_reducible refine Chk.mk ?_ ?_ | with_reducible refine Bth.mk ?_ ?_ | with_reducible refine Fct.mk (fun hf => ?_)))
    · exact hl
    · refine ⟨⟨x.slots, o⟩, ⟨hfx o h2, fun c hc => ?_, fit_of (hfx o h2) fun j j0 j1 hu => ?_⟩, rfl⟩
      · have : c.pool ∈ x.cons.map Csm.pool := by rw [← h2]; exact List.mem_map.2 ⟨c, hc, rfl⟩
        obtain ⟨c', hc', e⟩ := List.mem_map.1 this
        rw [← e]; exact x4 c' hc'
      · change j < (o.length : Int) at j1
        change (unitsS ⟨x.slots, o⟩ (gt o j).pool).length = 1 at hu
        rw [units_map (b := x.cons) h2, hp j j0 (by omega)] at hu
        exact h3 j j0 (by omega) hu)
def HldP (f : Flt) (s : Rot) : Prop := rightB f s = true ∧ AllS f s
theorem mem_rserv {f : Flt} {s : Rot} (hr : rightB f s = true) {p : Int} : p ∈ rservS f s ↔ ∃ i : Int, 0 ≤ i ∧ i < f.cons.length ∧ (gt f.cons i).pool = p ∧ sv (gt s.units i).used s.valid = true := by
  have hf := (right_iff.1 hr).1
  have hl := rt_len hr
  unfold rservS
  rw [List.mem_filter, List.any_eq_true]
  constructor
  · rintro ⟨_, i, hi, hs⟩
    obtain ⟨a, b, c⟩ := (mem_units hf).1 hi
    unfold rservB at hs
    rw [Bool.and_eq_true] at hs
    exact ⟨i, a, b, c, hs.2⟩
  · rintro ⟨i, h0, h1, h2, h3⟩
    have hi := (mem_units hf).2 ⟨h0, h1, h2⟩
    refine ⟨?_, i, hi, ?_⟩
    · unfold rpoolsS
      rw [List.mem_filter, List.mem_map]
      have ho : cmOdd (gt f.cons i) = false := by
        have := hf
        unfold fltB at this
        rw [Bool.and_eq_true, Bool.not_eq_true'] at this
        exact List.any_eq_false.1 this.2 _ (gt_mem h0 h1) |> fun h => by simpa using h
      simp only [cmOdd, decide_eq_false_iff_not] at ho
      refine ⟨⟨p.toNat, ?_, ?_⟩, ?_⟩
      · rw [List.mem_range]; omega
      · omega
      · rw [decide_eq_true_iff]; exact List.length_pos_of_mem hi
    · have hup := unit_down (rt_unit hr h0 h1) (rt_val hr) h3
      unfold rservB
      rw [hr, hup]
      simp only [Bool.true_and, Bool.and_true, Bool.and_eq_true]
      exact ⟨by unfold btw; rw [decide_eq_true_iff]; omega, h3⟩
theorem held_step {f : Flt} {s : Rot} {x : Stp} (h : HldP f s) (ha : aplE f s x = 0) (hs : rsafeB f s (aplS f s x) = true) : HldP f (aplS f s x) := by
  have e : aplS f s x = (stepS f s x).1 := by unfold aplS; rw [if_pos ha]
  have hr := step_right ha
  rw [← e] at hr
  refine ⟨hr, fun i i0 i1 => ?_⟩
  obtain ⟨j, j0, j1, j2, j3⟩ := h.2 i i0 i1
  unfold rsafeB at hs
  rw [List.all_eq_true] at hs
  have := hs _ ((mem_rserv h.1).2 ⟨j, j0, j1, j2, j3⟩)
  rw [List.contains_iff_mem] at this
  obtain ⟨k, k0, k1, k2, k3⟩ := (mem_rserv hr).1 this
  exact ⟨k, k0, k1, k2, k3⟩
noncomputable def mheld_V (f : Flt) (Q : SV → Prop) : Σ' P : Prop, (P → ICt 35 [.one .tape, .agg (List.map .d (Flt.row f))] Q) := by
  apply mkV; intro hP
  refine ic_wk (K 41) Try.func35 rfl rfl rfl rfl (fun w0 => ?_)
  repeat' (first
    | ((fail_if_success (have hTest : Hld False := hP)); (have hq := chk_c hP); (replace hP := chk_p hP))
    | (with_reducible (first | apply c_seq | apply c_rg | apply j_nil | apply q_n | apply c_bl | apply c_ex | apply c_ret | apply c_sk | apply q_r | apply q_e | apply b_r | apply b_e | apply b_n | apply n_n | apply n_r | apply n_e))
    | ((with_reducible apply j_v); exact rfl; exact rfl)
    | ((with_reducible apply j_h); exact rfl; exact rfl)
    | ((with_reducible apply j_s); exact rfl)
    | ((with_reducible apply v_lenm); exact rfl; exact rfl; exact rfl; (exact hP); clear hP; intro hP)
    | ((with_reducible apply j_sub); exact rfl; exact rfl; exact rfl; (with_reducible apply wr_i64; (apply chk_c; exact hP; (first | skip))))
    | ((with_reducible apply r_g); exact rfl; (· repeat' (first | exact True.intro | refine And.intro ?_ ?_)); (exact hP.out))
    | ((with_reducible apply v_ndp (pu := false)); exact rfl; exact ⟨rfl, rfl⟩; (first | (apply (next_nd _); rotate_left 1) | (apply (rchoices_nd _ _); rotate_left 2)); (focus ((repeat' (first | exact .nil _ | refine PsL.cons ?_ ?_ | refine PsSL.cons ?_ ?_ | exact .one (.d _ _) | exact .one (.tape _) | refine .agg ?_ | exact .d _ _)) <;> fail)); exact .inr (fun _ => rfl); (exact hP); clear hP; intro x hx hP)
    | ((with_reducible apply j_call (pu := true)); exact rfl; (apply (rstart_ic _); rotate_left 1); (focus ((repeat' (first | exact .nil _ | refine PsL.cons ?_ ?_ | refine PsSL.cons ?_ ?_ | refine .agg ?_ | exact .d _ _)) <;> fail)); exact .inl rfl)
    | ((with_reducible apply v_ndp (pu := true)); exact rfl; exact ⟨rfl, rfl⟩; (apply (rchoices_nd ⟨_, _⟩ ⟨_, _, _⟩); rotate_left 5; dsimp only [Flt.v_mk, Rot.v_mk]); (focus ((repeat' (first | exact .nil _ | refine PsL.cons ?_ ?_ | refine PsSL.cons ?_ ?_ | refine .agg ?_ | exact .d _ _)) <;> fail)); exact .inl rfl; (exact hP); clear hP; intro x hx hP)
    | ((with_reducible refine v_loopat (c := (.seq (.seq (.region 3 _ _) _) _)) ?_); (apply (v_loop4 _ _ _ _ [0, 3, 4, 5] [3, 4] (fun x1 x2 x3 x4 => [(7, .one (.d (.int .i64 x1)))]) (fun x1 x2 x3 x4 => [(5, .blk 96 [.d (.int .i64 x2), .d (.int .i64 x3), .d (.list (List.map Unt.row x4))])]) [])); exact rfl; exact rfl; exact ⟨(by repeat' (first | exact .nil | refine .cons ?_ ?_ | exact SVle_pl rfl | refine .one ?_ | exact .ref rfl rfl | exact .tape)), (by repeat' (first | exact .nil | refine .cons ?_ ?_ | exact .d rfl | refine .blk rfl ?_))⟩; (exact hP); clear hP; intro I μ x1 x2 x3 x4 hP)
    | ((with_reducible apply (v_nxt4 (a1 := _) (a2 := _) (a3 := _) (a4 := _))); (repeat' (first | exact .nil | refine .cons ?_ ?_ | exact SVle_pl rfl | refine .one ?_ | exact .d rfl | exact .ref rfl rfl | exact .tape | refine .blk rfl ?_)); (repeat' (first | exact .nil | exact .nil _ | refine .cons ?_ ?_ | exact .u _ | exact SVle_pl rfl | refine .one ?_ | refine .agg ?_ | exact .d rfl | exact .ref rfl rfl | exact .sl rfl (by first | rfl | exact List.length_set.symm | exact (splT_len (by simp only [List.length_take, List.length_drop]; omega)).symm | omega | (rw [List.length_append, List.length_map]; show _ + 1 = _; omega) | simp) | exact .fn _ | exact .tape | exact .nils rfl | exact .nild | exact .nildm | exact .nil | exact .rp (by simp) | exact .clo (by simp) | exact .el rfl rfl rfl | exact .d (by first | rfl | (congr 1; omega) | (congr 1; assumption) | simp) | exact .virt rfl | exact .gone _ | refine .blk rfl ?_ | exact .arr rfl (by first | rfl | assumption | simp))); (exact hP))
    | ((with_reducible refine v_rgat (i := 8) ?_); (refine n_start (by kernel_rfl) ?_; (refine n_quiet (some [5]) #[true, true, true, true, true, true, true, true, true, true, true, true, true, true] [0, 1, 2, 3, 4, 5, 6, 7, 8, 9, 10, 11, 12, 13] 0 rfl ?_; (repeat' (first | ((with_reducible apply (d_e (some []))); exact rfl; exact rfl; kernel_rfl; exact (by decide +kernel); exact rfl; exact rfl; (first | ((with_reducible apply e_v); exact rfl) | ((with_reducible apply e_lenm); exact rfl; exact rfl) | ((with_reducible apply f_ia); exact rfl; exact rfl; exact rfl; (case inst => exact inferInstance); exact rfl; exact rfl; (first | with_reducible assumption)) | ((with_reducible apply e_call (pu := true)); exact rfl; apply (rapply_ic ⟨_, _⟩ ⟨_, _, _⟩ ⟨_, _⟩); rotate_left 7; dsimp only [Flt.v_mk, Rot.v_mk, Stp.v_mk]; (focus ((repeat' (first | exact .nil _ | refine PsL.cons ?_ ?_ | refine PsSL.cons ?_ ?_ | refine .agg ?_ | exact .d _ _)) <;> fail)); exact .inl rfl))) | ((with_reducible apply (d_e (some [5]))); exact rfl; exact rfl; kernel_rfl; kernel_rfl; exact rfl; exact rfl; ((with_reducible apply e_v); exact rfl)) | ((with_reducible apply d_st); exact rfl; exact (by decide +kernel); exact rfl; exact rfl; exact rfl; exact rfl; exact rfl; exact rfl; exact rfl) | ((with_reducible apply d_nd); exact rfl; exact rfl; exact (by decide +kernel); ((with_reducible apply f_ndp (pu := false)); exact rfl; exact ⟨rfl, rfl⟩; apply (next_nd _); rotate_left 1; (focus ((repeat' (first | exact .nil _ | refine PsSL.cons ?_ ?_ | exact .one (.d _ _) | exact .one (.tape _))) <;> fail)); exact .inr (fun _ => rfl); ((repeat ((fail_if_success (have hTest : Hld False := hP)); (have hq := chk_c hP); (replace hP := chk_p hP))); first | with_reducible assumption | (apply chk_c; exact hP; (first | skip)))); (with_reducible apply nd_intro); ((repeat ((fail_if_success (have hTest : Hld False := hP)); (have hq := chk_c hP); (replace hP := chk_p hP))); exact hP); clear hP; intro x hx hP) | ((with_reducible apply d_leaf); exact (by decide +kernel)))); all_goals ((with_reducible apply n_doneZ); exact rfl; exact (by decide +kernel)))))
    | ((with_reducible apply v_if); exact rfl; (exact hP); all_goals (clear hP; intro hc hP)))
theorem mheld_nd (f : Flt) : ICp (fltB f = true) 35 [.one .tape, f.v] (ND (HldP f) Rot.v) := fun hf => (mheld_V f _).2 (by
  have hcl := flt_len hf
  (delta mheld_V; dsimp only [mkV])
  (repeat' (first | with_reducible refine brn_nd (fun h => ?_) (fun h => ?_) | with_reducible refine brn_d (fun h => ?_) (fun h => ?_) | with_reducible refine brn_nn (fun h => ?_) (fun h => ?_) | with_reducible refine brn_nb (fun h => ?_) (fun h => ?_) | with_reducible refine Brn.mk (fun h => ?_) (fun h => ?_) | with_reducible refine Chk.mk ?_ ?_ | with_reducible refine Bth.mk ?_ ?_ | with_reducible refine Fct.mk (fun hf => ?_)))
  · omega
  intro n hn
  refine lp4 (fun k a b c => 0 ≤ k ∧ k ≤ 16 ∧ HldP f ⟨a, b, c⟩) (fun k _ _ _ => k.toNat) ⟨by omega, by omega, start_right hf, start_all hf⟩ ?_
  rintro I μ nx k a b c ⟨h0, h1, h2⟩
  (repeat' (first | with_reducible refine brn_nd (fun h => ?_) (fun h => ?_) | with_reducible refine brn_d (fun h => ?_) (fun h => ?_) | with_reducible refine brn_nn (fun h => ?_) (fun h => ?_) | with_reducible refine brn_nb (fun h => ?_) (fun h => ?_) | with_reducible refine Brn.mk (fun h => ?_) (fun h => ?_) | with_reducible refine Chk.mk ?_ ?_ | with_reducible refine Bth.mk ?_ ?_ | with_reducible refine Fct.mk (fun hf => ?_)))
  · omega
  · rintro l ⟨l1, l2⟩
    (repeat' (first | with_reducible refine brn_nd (fun h => ?_) (fun h => ?_) | with_reducible refine brn_d (fun h => ?_) (fun h => ?_) | with_reducible refine brn_nn (fun h => ?_) (fun h => ?_) | with_reducible refine brn_nb (fun h => ?_) (fun h => ?_) | with_reducible refine Brn.mk (fun h => ?_) (fun h => ?_) | with_reducible refine Chk.mk ?_ ?_ | with_reducible refine Bth.mk ?_ ?_ | with_reducible refine Fct.mk (fun hf => ?_)))
    · exact ⟨_, h2, rfl⟩
    · omega
    · intro z hz
      (repeat' (first | with_reducible refine brn_nd (fun h => ?_) (fun h => ?_) | with_reducible refine brn_d (fun h => ?_) (fun h => ?_) | with_reducible refine brn_nn (fun h => ?_) (fun h => ?_) | with_reducible refine brn_nb (fun h => ?_) (fun h => ?_) | with_reducible refine Brn.mk (fun h => ?_) (fun h => ?_) | with_reducible refine Chk.mk ?_ ?_ | with_reducible refine Bth.mk ?_ ?_ | with_reducible refine Fct.mk (fun hf => ?_)))
      · unfold InI; omega
      · obtain ⟨q1, q2⟩ := l2 _ (gt_mem hz.1 hz.2)
        exact nx _ _ _ _ _ _ _ _ ⟨h0, h1, h2⟩ ⟨by omega, by omega, held_step h2 q1 q2⟩ (by omega)
  · exact ⟨_, h2, rfl⟩)
end Go.Proofs.Ytcbppkfnfbdkhaa
