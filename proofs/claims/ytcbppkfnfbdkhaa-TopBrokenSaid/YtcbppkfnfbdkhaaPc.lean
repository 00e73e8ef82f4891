/- Fleets: units, pools, who serves. -/
import Derived.Test.YtcbppkfnfbdkhaaPb
import Derived.Test.YtcbppkfnfbdkhaaMa
import Derived.Test.YtcbppkfnfbdkhaaQCi0
set_option linter.all false
set_option maxRecDepth 20000
set_option maxHeartbeats 4000000
namespace Go.Proofs.Ytcbppkfnfbdkhaa
open Go.RowKit Go.Shelf
noncomputable def CloneU_V (l : List Unt) (x0 : List Unt) : Σ' P : Prop, (P → ICl 173 [.one (.d (.list (List.map Unt.row l)))] 170 3 (List.map Unt.row x0)) := by
  apply mkV; intro hP
  refine ico_wk (K 8) Try.func173 rfl rfl rfl rfl (fun w0 => ?_)
  repeat' (first
    | ((fail_if_success (have hTest : Hld False := hP)); (have hq := chk_c hP); (replace hP := chk_p hP))
    | (with_reducible (first | apply c_seq | apply c_rg | apply j_nil | apply q_n | apply c_ret | apply c_sk | apply q_r))
    | ((with_reducible apply (v_bs0 (Unt.row))); exact rfl; exact rfl; exact rfl; exact rfl)
    | ((with_reducible apply v_eqnil); exact rfl; exact rfl; exact rfl; exact rfl; (exact hP); clear hP; intro x hx hP)
    | ((with_reducible apply j_v); exact rfl; exact rfl)
    | ((with_reducible apply (v_ap (Unt.row))); exact rfl; exact rfl; exact rfl; exact rfl; exact rfl; exact rfl; exact rfl; (first | exact rfl); exact rfl; exact rfl; exact rfl; (apply src_d; exact rfl; (intro row hrow; obtain ⟨q, _, rfl⟩ := List.mem_map.1 hrow; rfl)); (first | exact rfl); exact rfl; exact rfl; exact rfl; (apply chk_c; exact hP; (first | skip)))
    | ((with_reducible apply o_sl); exact rfl; exact rfl; exact rfl; (first | exact rfl); (exact hP.out))
    | ((with_reducible apply o_nl); exact rfl; exact rfl; (exact hP.out))
    | ((with_reducible apply v_if); exact rfl; (exact hP); all_goals (clear hP; intro hc hP)))
theorem CloneU_ico (l : List Unt) : ICq (l.length ≤ 1000000000) 173 [.one (.d (.list (l.map Unt.row)))] 170 3 (List.map Unt.row l) := fun h => (CloneU_V l l).2 (by (delta CloneU_V; dsimp only [mkV]); (repeat' (first | with_reducible refine brn_nd (fun h => ?_) (fun h => ?_) | with_reducible refine brn_d (fun h => ?_) (fun h => ?_) | with_reducible refine brn_nn (fun h => ?_) (fun h => ?_) | with_reducible refine brn_nb (fun h => ?_) (fun h => ?_) | with_reducible refine Brn.mk (fun h => ?_) (fun h => ?_) | with_reducible refine Chk.mk ?_ ?_ | with_reducible refine Bth.mk ?_ ?_ | with_reducible refine Fct.mk (fun hf => ?_) | (intro _) | (refine up0 (by omega) (by omega) (fun I μ z hz0 hz1 nx => ?_) (fun I μ => ?_)) | with_reducible assumption | (refine And.intro ?_ ?_))); all_goals simp_all)
noncomputable def fcopy_V (s : Rot) : Σ' P : Prop, (P → ICo Try.prog 25 134 [.agg (List.map .d (Rot.row s))] (fun x y => x = (SV.agg [.d (.int .i64 s.known), .d (.int .i64 s.valid), .sl 5 s.units.length 3]) ∧ y = [(5, VH.arr 170 3 (s.units.map Unt.row))])) := by
  apply mkV; intro hP
  refine ico_wk (K 8) Try.func134 rfl rfl rfl rfl (fun w0 => ?_)
  repeat' (first
    | ((fail_if_success (have hTest : Hld False := hP)); (have hq := chk_c hP); (replace hP := chk_p hP))
    | (with_reducible (first | apply c_seq | apply c_rg | apply j_nil | apply q_n | apply c_ret))
    | ((with_reducible apply j_v); exact rfl; exact rfl)
    | ((with_reducible apply j_h); exact rfl; exact rfl)
    | ((with_reducible apply j_s); exact rfl)
    | ((with_reducible apply (o_c (H := [(5, VH.arr 170 3 (s.units.map Unt.row))]))); ((repeat ((fail_if_success (have hTest : Hld False := hP)); (have hq := chk_c hP); (replace hP := chk_p hP))); (have hq : True := hP.out); exact rfl); exact rfl; exact rfl; exact rfl; exact Nat.le_of_ble_eq_true rfl; (repeat' (first | exact .nil | refine .cons ?_ ?_ | exact .arr rfl (by first | rfl | assumption | simp))); exact ⟨rfl, rfl⟩)
    | ((with_reducible apply v_colp); exact rfl; exact ⟨rfl, rfl⟩; (apply (CloneU_ico _); rotate_left 1); (focus ((repeat' (first | exact .nil _ | refine PsSL.cons ?_ ?_ | exact .one (.d _ _))) <;> fail)); exact (fun _ => rfl); exact rfl; (apply chk_c; exact hP; (first | skip))))
theorem fcopy_ics (s : Rot) : ICs (s.units.length ≤ 1000000000) 134 [s.v] (.agg [.d (.int .i64 s.known), .d (.int .i64 s.valid), .sl 5 s.units.length 3]) [(5, .arr 170 3 (s.units.map Unt.row))] :=
  fun h => (fcopy_V s).2 (by (delta fcopy_V; dsimp only [mkV]); (repeat' (first | with_reducible refine brn_nd (fun h => ?_) (fun h => ?_) | with_reducible refine brn_d (fun h => ?_) (fun h => ?_) | with_reducible refine brn_nn (fun h => ?_) (fun h => ?_) | with_reducible refine brn_nb (fun h => ?_) (fun h => ?_) | with_reducible refine Brn.mk (fun h => ?_) (fun h => ?_) | with_reducible refine Chk.mk ?_ ?_ | with_reducible refine Bth.mk ?_ ?_ | with_reducible refine Fct.mk (fun hf => ?_))); all_goals simp_all)
theorem take_snoc {α : Type} [Inhabited α] {l : List α} {i : Nat} (h : i < l.length) : l.take (i + 1) = l.take i ++ [gt l (i : Int)] := by
  rw [List.take_succ_eq_append_getElem h, gt_nat h]
def nums {α : Type} [Inhabited α] (q : α → Bool) (l : List α) : List Int := ((List.range l.length).filter fun i : Nat => q (gt l (i : Int))).map fun i : Nat => (i : Int)
theorem nums_snoc {α : Type} [Inhabited α] (q : α → Bool) {l : List α} {i : Nat} (h : i < l.length) : nums q (l.take (i + 1)) = if q (gt l (i : Int)) = true then nums q (l.take i) ++ [(i : Int)] else nums q (l.take i) := by
  have e1 : (l.take (i + 1)).length = i + 1 := by simp; omega
  have e2 : (l.take i).length = i := by simp; omega
  unfold nums
  rw [e1, e2, List.range_succ, List.filter_append, List.map_append]
  have e3 : ∀ j : Nat, j < i → gt (l.take (i + 1)) (j : Int) = gt (l.take i) (j : Int) := fun j hj => by
    rw [gt_nat (by omega), gt_nat (by omega), List.getElem_take, List.getElem_take]
  have e4 : gt (l.take (i + 1)) (i : Int) = gt l (i : Int) := by rw [gt_nat (by omega), gt_nat h, List.getElem_take]
  have e5 : ((List.range i).filter fun j : Nat => q (gt (l.take (i + 1)) (j : Int))) = (List.range i).filter fun j : Nat => q (gt (l.take i) (j : Int)) := List.filter_congr fun j hj => by rw [e3 j (by simpa using hj)]
  rw [e5]
  by_cases hq : q (gt l (i : Int)) = true
  · rw [if_pos hq]; simp [e4, hq]
  · rw [if_neg hq]; simp [e4, hq]
theorem mem_nums {α : Type} [Inhabited α] {q : α → Bool} {l : List α} {x : Int} : x ∈ nums q l ↔ 0 ≤ x ∧ x < l.length ∧ q (gt l x) = true := by
  unfold nums
  simp only [List.mem_map, List.mem_filter, List.mem_range]
  constructor
  · rintro ⟨i, ⟨h1, h2⟩, rfl⟩; exact ⟨by omega, by omega, h2⟩
  · rintro ⟨h1, h2, h3⟩; exact ⟨x.toNat, ⟨by omega, by rw [Int.toNat_of_nonneg h1]; exact h3⟩, by omega⟩
theorem flt_len {f : Flt} (h : fltB f = true) : 1 ≤ f.cons.length ∧ f.cons.length ≤ 8 := by simp [fltB] at h; omega
theorem nums_len {α : Type} [Inhabited α] (q : α → Bool) (l : List α) : (nums q l).length ≤ l.length := by
  unfold nums
  rw [List.length_map]
  exact Nat.le_trans (List.length_filter_le _ _) (by simp)
def inPool (p : Int) (c : Csm) : Bool := decide (c.pool = p)
def unitsS (f : Flt) (p : Int) : List Int := if fltB f = true then nums (inPool p) f.cons else []
noncomputable def Units_V (f : Flt) (p : Int) (Q : SV → Prop) : Σ' P : Prop, (P → ICt 168 [.agg (List.map .d (Flt.row f)), .one (.d (.int .i64 p))] Q) := by
  apply mkV; intro hP
  refine ic_wk (K 29) Try.func168 rfl rfl rfl rfl (fun w0 => ?_)
  apply (v_kint (x := 1)); exact rfl; exact hP; clear hP; intro hP
  repeat' (first
    | ((fail_if_success (have hTest : Hld False := hP)); (have hq := chk_c hP); (replace hP := chk_p hP))
    | (with_reducible (first | apply c_seq | apply c_rg | apply j_nil | apply q_n | apply c_bl | apply c_ex | apply c_ret | apply c_sk | apply q_r | apply q_e | apply b_e | apply b_n | apply n_n | apply n_e))
    | ((with_reducible apply c_l1); exact rfl; exact rfl)
    | ((with_reducible apply j_v); exact rfl; exact rfl)
    | ((with_reducible apply (v_bsf (d := 25) (irow))); exact rfl; exact rfl; exact (row_cons (irow_mk _) row_nil); exact rfl; exact rfl)
    | ((with_reducible apply j_h); exact rfl; exact rfl)
    | ((with_reducible apply j_s); exact rfl)
    | ((with_reducible apply v_lenm); exact rfl; exact rfl; exact rfl; (exact hP); clear hP; intro hP)
    | ((with_reducible apply j_add); exact rfl; exact rfl; exact rfl; (with_reducible apply wr_i64; (apply chk_c; exact hP; (first | skip))))
    | ((with_reducible apply v_ia); exact rfl; exact rfl; exact rfl; exact rfl; (case inst => exact inferInstance); exact rfl; exact rfl; (apply chk_c; exact hP; (first | skip)))
    | ((with_reducible apply (v_ap (irow))); exact rfl; exact rfl; exact rfl; exact rfl; exact rfl; exact rfl; exact rfl; (first | exact rfl); exact rfl; exact rfl; exact rfl; (apply src_d; exact rfl; (intro row hrow; obtain ⟨q, _, rfl⟩ := List.mem_map.1 hrow; rfl)); (first | exact rfl); exact rfl; exact rfl; exact rfl; (apply chk_c; exact hP; (first | skip)))
    | ((with_reducible apply r_g); exact rfl; (· repeat' (first | exact True.intro | refine And.intro ?_ ?_ | (show (_ : Nat) = _; (first | exact (List.length_map _).symm)))); (exact hP.out))
    | ((with_reducible apply j_call (pu := false)); exact rfl; (apply (fcheck_ic _); rotate_left 1); (focus ((repeat' (first | exact .nil _ | refine PsL.cons ?_ ?_ | refine PsSL.cons ?_ ?_ | refine .agg ?_ | exact .d _ _)) <;> fail)); exact .inr rfl)
    | ((with_reducible refine v_loopat (c := (.seq (.region 5 _ _) _)) ?_); (apply (v_loop2 [] _ [1, 12, 13] [] (fun x1 x2 => [(5, .one (.sl 205 (List.length x1) 1)), (14, .one (.d (.int .i64 x2)))]) (fun x1 x2 => [(205, .arr 3 1 (List.map irow x1))]) [205])); exact rfl; exact rfl; (focus (refine ⟨?_, ?_⟩; rotate_left 1; (focus (repeat' (first | exact .nil | refine .cons ?_ ?_ | exact .virt rfl))); (focus (repeat' (first | exact .nil | refine .cons ?_ ?_ | exact SVle_pl rfl | refine .one ?_ | exact .nils rfl))))); (exact hP); clear hP; intro I μ x1 x2 hP)
    | ((with_reducible apply (v_nxt2 (a1 := _) (a2 := _))); rotate_left 1; (focus (repeat' (first | exact .nil | refine .cons ?_ ?_ | exact .arr rfl (by first | rfl | assumption | simp)))); rotate_right 1; (focus (repeat' (first | exact .nil | refine .cons ?_ ?_ | exact SVle_pl rfl | refine .one ?_ | exact .sl rfl (by first | rfl | exact List.length_set.symm | exact (splT_len (by simp only [List.length_take, List.length_drop]; omega)).symm | omega | (rw [List.length_append, List.length_map]; show _ + 1 = _; omega) | simp)))); (exact hP))
    | ((with_reducible apply v_if); exact rfl; (exact hP); all_goals (clear hP; intro hc hP)))
theorem Units_ic (f : Flt) (p : Int) : ICt 168 [f.v, iv p] (fun v => v = lv (unitsS f p)) := (Units_V f p _).2 (by
  (delta Units_V; dsimp only [mkV])
  (repeat' (first | with_reducible refine brn_nd (fun h => ?_) (fun h => ?_) | with_reducible refine brn_d (fun h => ?_) (fun h => ?_) | with_reducible refine brn_nn (fun h => ?_) (fun h => ?_) | with_reducible refine brn_nb (fun h => ?_) (fun h => ?_) | with_reducible refine Brn.mk (fun h => ?_) (fun h => ?_) | with_reducible refine Chk.mk ?_ ?_ | with_reducible refine Bth.mk ?_ ?_ | with_reducible refine Fct.mk (fun hf => ?_)))
  · have e : fltB f = false := by rw [Bool.eq_false_iff]; exact fun e => h (fltE0.2 e)
    unfold unitsS; rw [e]; rfl
  have e := fltE0.1 (by assumption : fltE f = 0)
  have hl := flt_len e
  refine up2 (fun o z => o = nums (inPool p) (f.cons.take z.toNat)) (by omega) rfl ?_ ?_
  · rintro I μ o z h0 h1 rfl nx
    obtain ⟨i, rfl, hi⟩ := natz h0 h1
    have e1 : ((i : Int) + 1).toNat = i + 1 := by omega
    have hn := nums_len (inPool p) (f.cons.take i)
    rw [List.length_take] at hn
    simp only [e1, Int.toNat_natCast] at nx ⊢
    rw [nums_snoc _ (by omega)] at nx
    (repeat' (first | with_reducible refine brn_nd (fun h => ?_) (fun h => ?_) | with_reducible refine brn_d (fun h => ?_) (fun h => ?_) | with_reducible refine brn_nn (fun h => ?_) (fun h => ?_) | with_reducible refine brn_nb (fun h => ?_) (fun h => ?_) | with_reducible refine Brn.mk (fun h => ?_) (fun h => ?_) | with_reducible refine Chk.mk ?_ ?_ | with_reducible refine Bth.mk ?_ ?_ | with_reducible refine Fct.mk (fun hf => ?_)))
    · omega
    · simp; omega
    · unfold InI; omega
    · rw [if_pos (by simp [inPool, *])] at nx; exact nx _ rfl
    · unfold InI; omega
    · rw [if_neg (by simp [inPool, *])] at nx; exact nx _ rfl
  · rintro I μ o rfl
    simp only [Int.toNat_natCast, List.take_length]
    unfold unitsS; rw [if_pos e])
def poolsS (f : Flt) : List Int := if fltB f = true then Lib.compact (srt (f.cons.map Csm.pool)) else []
noncomputable def Pools_V (f : Flt) (Q : SV → Prop) : Σ' P : Prop, (P → ICt 77 [.agg (List.map .d (Flt.row f))] Q) := by
  apply mkV; intro hP
  refine ic_wk (K 26) Try.func77 rfl rfl rfl rfl (fun w0 => ?_)
  repeat' (first
    | ((fail_if_success (have hTest : Hld False := hP)); (have hq := chk_c hP); (replace hP := chk_p hP))
    | (with_reducible (first | apply c_seq | apply c_rg | apply j_nil | apply q_n | apply c_bl | apply c_ex | apply c_ret | apply c_sk | apply q_r | apply q_e | apply b_e | apply b_n | apply n_n | apply n_e))
    | ((with_reducible apply c_l1); exact rfl; exact rfl)
    | ((with_reducible apply j_v); exact rfl; exact rfl)
    | ((with_reducible apply (v_bsf (d := 19) (irow))); exact rfl; exact rfl; exact (row_cons (irow_mk _) row_nil); exact rfl; exact rfl)
    | ((with_reducible apply j_h); exact rfl; exact rfl)
    | ((with_reducible apply j_s); exact rfl)
    | ((with_reducible apply v_lenm); exact rfl; exact rfl; exact rfl; (exact hP); clear hP; intro hP)
    | ((with_reducible apply j_add); exact rfl; exact rfl; exact rfl; (with_reducible apply wr_i64; (apply chk_c; exact hP; (first | skip))))
    | ((with_reducible apply v_ia); exact rfl; exact rfl; exact rfl; exact rfl; (case inst => exact inferInstance); exact rfl; exact rfl; (apply chk_c; exact hP; (first | skip)))
    | ((with_reducible apply (v_ap (irow))); exact rfl; exact rfl; exact rfl; exact rfl; exact rfl; exact rfl; exact rfl; (first | exact rfl); exact rfl; exact rfl; exact rfl; (apply src_d; exact rfl; (intro row hrow; obtain ⟨q, _, rfl⟩ := List.mem_map.1 hrow; rfl)); (first | exact rfl); exact rfl; exact rfl; exact rfl; (apply chk_c; exact hP; (first | skip)))
    | ((with_reducible apply r_g); exact rfl; (· repeat' (first | exact True.intro | refine And.intro ?_ ?_ | (show (_ : Nat) = _; (first | exact (List.length_map _).symm)))); (exact hP.out))
    | ((with_reducible apply j_call (pu := false)); exact rfl; (apply (fcheck_ic _); rotate_left 1); (focus ((repeat' (first | exact .nil _ | refine PsL.cons ?_ ?_ | refine PsSL.cons ?_ ?_ | refine .agg ?_ | exact .d _ _)) <;> fail)); exact .inr rfl)
    | ((with_reducible apply v_callm); exact rfl; exact ⟨rfl, rfl⟩; exact rfl; exact rfl; exact rfl; (apply (sort_icm _); rotate_left 0); (focus ((repeat' (first | exact .nil _)) <;> fail)); exact rfl; (apply chk_c; exact hP; (first | skip)))
    | ((with_reducible apply v_cpt); exact rfl; exact cpt_c; exact rfl; exact rfl; (first | exact (sort_len _).symm); (apply chk_c; exact hP; (first | skip)))
    | ((with_reducible refine v_loopat (c := (.seq (.region 5 _ _) _)) ?_); (apply (v_loop2 [] _ [10, 11] [] (fun x1 x2 => [(3, .one (.sl 203 (List.length x1) 1)), (12, .one (.d (.int .i64 x2)))]) (fun x1 x2 => [(203, .arr 3 1 (List.map irow x1))]) [203])); exact rfl; exact rfl; (focus (refine ⟨?_, ?_⟩; rotate_left 1; (focus (repeat' (first | exact .nil | refine .cons ?_ ?_ | exact .virt rfl))); (focus (repeat' (first | exact .nil | refine .cons ?_ ?_ | exact SVle_pl rfl | refine .one ?_ | exact .nils rfl))))); (exact hP); clear hP; intro I μ x1 x2 hP)
    | ((with_reducible apply (v_nxt2 (a1 := _) (a2 := _))); rotate_left 1; (focus (repeat' (first | exact .nil | refine .cons ?_ ?_ | exact .arr rfl (by first | rfl | assumption | simp)))); rotate_right 1; (focus (repeat' (first | exact .nil | refine .cons ?_ ?_ | exact SVle_pl rfl | refine .one ?_ | exact .sl rfl (by first | rfl | exact List.length_set.symm | exact (sort_len ..).symm |  exact (splT_len (by simp only [List.length_take, List.length_drop]; omega)).symm | omega | (rw [List.length_append, List.length_map]; show _ + 1 = _; omega) | simp)))); (exact hP))
    | ((with_reducible apply v_if); exact rfl; (exact hP); all_goals (clear hP; intro hc hP)))
theorem Pools_ic (f : Flt) : ICt 77 [f.v] (fun v => v = lv (poolsS f)) := (Pools_V f _).2 (by
  (delta Pools_V; dsimp only [mkV])
  (repeat' (first | with_reducible refine brn_nd (fun h => ?_) (fun h => ?_) | with_reducible refine brn_d (fun h => ?_) (fun h => ?_) | with_reducible refine brn_nn (fun h => ?_) (fun h => ?_) | with_reducible refine brn_nb (fun h => ?_) (fun h => ?_) | with_reducible refine Brn.mk (fun h => ?_) (fun h => ?_) | with_reducible refine Chk.mk ?_ ?_ | with_reducible refine Bth.mk ?_ ?_ | with_reducible refine Fct.mk (fun hf => ?_)))
  · have e : fltB f = false := by rw [Bool.eq_false_iff]; exact fun e => h (fltE0.2 e)
    unfold poolsS; rw [e]; rfl
  have e := fltE0.1 (by assumption : fltE f = 0)
  have hl := flt_len e
  refine up2 (fun o z => o = (f.cons.take z.toNat).map Csm.pool) (by omega) rfl ?_ ?_
  · rintro I μ o z h0 h1 rfl nx
    obtain ⟨i, rfl, hi⟩ := natz h0 h1
    have e1 : ((i : Int) + 1).toNat = i + 1 := by omega
    simp only [e1, Int.toNat_natCast] at nx ⊢
    (repeat' (first | with_reducible refine brn_nd (fun h => ?_) (fun h => ?_) | with_reducible refine brn_d (fun h => ?_) (fun h => ?_) | with_reducible refine brn_nn (fun h => ?_) (fun h => ?_) | with_reducible refine brn_nb (fun h => ?_) (fun h => ?_) | with_reducible refine Brn.mk (fun h => ?_) (fun h => ?_) | with_reducible refine Chk.mk ?_ ?_ | with_reducible refine Bth.mk ?_ ?_ | with_reducible refine Fct.mk (fun hf => ?_)))
    · omega
    · simp; omega
    · unfold InI; omega
    · exact nx _ (by rw [take_snoc (by omega), List.map_append]; rfl)
  · rintro I μ o rfl
    simp only [Int.toNat_natCast, List.take_length]
    (repeat' (first | with_reducible refine brn_nd (fun h => ?_) (fun h => ?_) | with_reducible refine brn_d (fun h => ?_) (fun h => ?_) | with_reducible refine brn_nn (fun h => ?_) (fun h => ?_) | with_reducible refine brn_nb (fun h => ?_) (fun h => ?_) | with_reducible refine Brn.mk (fun h => ?_) (fun h => ?_) | with_reducible refine Chk.mk ?_ ?_ | with_reducible refine Bth.mk ?_ ?_ | with_reducible refine Fct.mk (fun hf => ?_)))
    all_goals first
      | (simp [sort_len]; omega)
      | (simp [sort_len]; done)
      | (unfold poolsS; rw [if_pos e]; done))
def serves (s : Rot) (u : Unt) : Bool := !decide (bits .and .i64 u.used s.valid = 0)
def servS (f : Flt) (s : Rot) : List Int := if rightB f s = true then Lib.compact (srt ((nums (serves s) s.units).map fun i => (gt f.cons i).pool)) else []
noncomputable def Served_V (f : Flt) (s : Rot) (Q : SV → Prop) : Σ' P : Prop, (P → ICt 76 [.agg (List.map .d (Flt.row f)), .agg (List.map .d (Rot.row s))] Q) := by
  apply mkV; intro hP
  refine ic_wk (K 40) Try.func76 rfl rfl rfl rfl (fun w0 => ?_)
  repeat' (first
    | ((fail_if_success (have hTest : Hld False := hP)); (have hq := chk_c hP); (replace hP := chk_p hP))
    | (with_reducible (first | apply c_seq | apply c_rg | apply j_nil | apply q_n | apply c_bl | apply c_ex | apply c_ret | apply c_sk | apply q_r | apply q_e | apply b_e | apply b_n | apply n_n | apply n_e))
    | ((with_reducible apply c_l1); exact rfl; exact rfl)
    | ((with_reducible apply j_v); exact rfl; exact rfl)
    | ((with_reducible apply (v_bsf (d := 33) (irow))); exact rfl; exact rfl; exact (row_cons (irow_mk _) row_nil); exact rfl; exact rfl)
    | ((with_reducible apply j_h); exact rfl; exact rfl)
    | ((with_reducible apply j_s); exact rfl)
    | ((with_reducible apply v_lenm); exact rfl; exact rfl; exact rfl; (exact hP); clear hP; intro hP)
    | ((with_reducible apply j_add); exact rfl; exact rfl; exact rfl; (with_reducible apply wr_i64; (apply chk_c; exact hP; (first | skip))))
    | ((with_reducible apply v_ia); exact rfl; exact rfl; exact rfl; exact rfl; (case inst => exact inferInstance); exact rfl; exact rfl; (apply chk_c; exact hP; (first | skip)))
    | ((with_reducible apply (v_ap (irow))); exact rfl; exact rfl; exact rfl; exact rfl; exact rfl; exact rfl; exact rfl; (first | exact rfl); exact rfl; exact rfl; exact rfl; (apply src_d; exact rfl; (intro row hrow; obtain ⟨q, _, rfl⟩ := List.mem_map.1 hrow; rfl)); (first | exact rfl); exact rfl; exact rfl; exact rfl; (apply chk_c; exact hP; (first | skip)))
    | ((with_reducible apply r_g); exact rfl; (· repeat' (first | exact True.intro | refine And.intro ?_ ?_ | (show (_ : Nat) = _; (first | exact (List.length_map _).symm)))); (exact hP.out))
    | ((with_reducible apply j_call (pu := false)); exact rfl; (apply (fright_ic _ _); rotate_left 2); (focus ((repeat' (first | exact .nil _ | refine PsL.cons ?_ ?_ | refine PsSL.cons ?_ ?_ | refine .agg ?_ | exact .d _ _)) <;> fail)); exact .inr rfl)
    | ((with_reducible apply v_callm); exact rfl; exact ⟨rfl, rfl⟩; exact rfl; exact rfl; exact rfl; (apply (sort_icm _); rotate_left 0); (focus ((repeat' (first | exact .nil _)) <;> fail)); exact rfl; (apply chk_c; exact hP; (first | skip)))
    | ((with_reducible apply v_cpt); exact rfl; exact cpt_c; exact rfl; exact rfl; (first | exact (sort_len _).symm); (apply chk_c; exact hP; (first | skip)))
    | ((with_reducible refine v_loopat (c := (.seq (.region 5 _ _) _)) ?_); (apply (v_loop2 [] _ [3, 13, 14] [3] (fun x1 x2 => [(5, .one (.sl 205 (List.length x1) 1)), (15, .one (.d (.int .i64 x2)))]) (fun x1 x2 => [(205, .arr 3 1 (List.map irow x1))]) [205])); exact rfl; exact rfl; (focus (refine ⟨?_, ?_⟩; rotate_left 1; (focus (repeat' (first | exact .nil | refine .cons ?_ ?_ | exact .d rfl | exact .virt rfl | refine .blk rfl ?_))); (focus (repeat' (first | exact .nil | refine .cons ?_ ?_ | exact SVle_pl rfl | refine .one ?_ | exact .ref rfl rfl | exact .nils rfl))))); (exact hP); clear hP; intro I μ x1 x2 hP)
    | ((with_reducible apply (v_nxt2 (a1 := _) (a2 := _))); rotate_left 1; (focus (repeat' (first | exact .nil | refine .cons ?_ ?_ | exact .d rfl | refine .blk rfl ?_ | exact .arr rfl (by first | rfl | assumption | simp)))); rotate_right 1; (focus (repeat' (first | exact .nil | refine .cons ?_ ?_ | exact SVle_pl rfl | refine .one ?_ | exact .ref rfl rfl | exact .sl rfl (by first | rfl | exact List.length_set.symm | exact (sort_len ..).symm |  exact (splT_len (by simp only [List.length_take, List.length_drop]; omega)).symm | omega | (rw [List.length_append, List.length_map]; show _ + 1 = _; omega) | simp)))); (exact hP))
    | ((with_reducible refine v_rgat (i := 7) ?_); (refine n_start (by kernel_rfl) ?_; (refine n_quiet none #[true, true, true, true, true, true, true, true, true, true] [0, 1, 2, 3, 4, 5, 6, 7, 8, 9] 0 rfl ?_; (repeat' (first | ((fail_if_success (have hTest : Hld False := hP)); (have hq := chk_c hP); (replace hP := chk_p hP)) | ((with_reducible apply (d_e (some []))); exact rfl; exact rfl; kernel_rfl; kernel_rfl; exact rfl; exact rfl; (first | ((with_reducible apply e_v); exact rfl) | ((with_reducible apply f_ia); exact rfl; exact rfl; exact rfl; (case inst => exact inferInstance); exact rfl; exact rfl; (apply chk_c; exact hP; (first | skip))))) | ((with_reducible apply d_leaf); exact (by decide +kernel)))); all_goals ((with_reducible apply n_doneZ); exact rfl; exact (by decide +kernel)))))
    | ((with_reducible apply v_if); exact rfl; (exact hP); all_goals (clear hP; intro hc hP)))
theorem Served_ic (f : Flt) (s : Rot) : ICt 76 [f.v, s.v] (fun v => v = lv (servS f s)) := (Served_V f s _).2 (by
  (delta Served_V; dsimp only [mkV])
  (repeat' (first | with_reducible refine brn_nd (fun h => ?_) (fun h => ?_) | with_reducible refine brn_d (fun h => ?_) (fun h => ?_) | with_reducible refine brn_nn (fun h => ?_) (fun h => ?_) | with_reducible refine brn_nb (fun h => ?_) (fun h => ?_) | with_reducible refine Brn.mk (fun h => ?_) (fun h => ?_) | with_reducible refine Chk.mk ?_ ?_ | with_reducible refine Bth.mk ?_ ?_ | with_reducible refine Fct.mk (fun hf => ?_)))
  · unfold servS; rw [h]; rfl
  have hr := right_iff.1 (by assumption : rightB f s = true)
  have hl := flt_len hr.1
  have hu := hr.2.2.2.1
  refine up2 (fun o z => o = (nums (serves s) (s.units.take z.toNat)).map fun i => (gt f.cons i).pool) (by omega) rfl ?_ ?_
  · rintro I μ o z h0 h1 rfl nx
    obtain ⟨i, rfl, hi⟩ := natz h0 h1
    have e1 : ((i : Int) + 1).toNat = i + 1 := by omega
    have hn := nums_len (serves s) (s.units.take i)
    rw [List.length_take] at hn
    simp only [e1, Int.toNat_natCast] at nx ⊢
    rw [nums_snoc _ (by omega)] at nx
    (repeat' (first | with_reducible refine brn_nd (fun h => ?_) (fun h => ?_) | with_reducible refine brn_d (fun h => ?_) (fun h => ?_) | with_reducible refine brn_nn (fun h => ?_) (fun h => ?_) | with_reducible refine brn_nb (fun h => ?_) (fun h => ?_) | with_reducible refine Brn.mk (fun h => ?_) (fun h => ?_) | with_reducible refine Chk.mk ?_ ?_ | with_reducible refine Bth.mk ?_ ?_ | with_reducible refine Fct.mk (fun hf => ?_)))
    all_goals first
      | omega
      | (simp; omega)
      | (unfold InI; omega)
      | (rw [if_pos (by simp [serves, *])] at nx; exact nx _ (by rw [List.map_append]; rfl))
      | (rw [if_neg (by simp [serves, *])] at nx; exact nx _ rfl)
  · rintro I μ o rfl
    rw [Int.toNat_natCast, ← hu, List.take_length]
    have hn := nums_len (serves s) s.units
    (repeat' (first | with_reducible refine brn_nd (fun h => ?_) (fun h => ?_) | with_reducible refine brn_d (fun h => ?_) (fun h => ?_) | with_reducible refine brn_nn (fun h => ?_) (fun h => ?_) | with_reducible refine brn_nb (fun h => ?_) (fun h => ?_) | with_reducible refine Brn.mk (fun h => ?_) (fun h => ?_) | with_reducible refine Chk.mk ?_ ?_ | with_reducible refine Bth.mk ?_ ?_ | with_reducible refine Fct.mk (fun hf => ?_)))
    all_goals first
      | (simp [sort_len]; omega)
      | (simp [sort_len]; done)
      | (unfold servS; rw [if_pos (by assumption)]; done))
end Go.Proofs.Ytcbppkfnfbdkhaa
