/- plan: the planner's steps, shown. -/
import Derived.Test.YtcbppkfnfbdkhaaPq
set_option linter.all false
set_option maxRecDepth 20000
set_option maxHeartbeats 4000000
namespace Go.Proofs.Ytcbppkfnfbdkhaa
open Go.RowKit Go.Shelf
theorem do_y {f : Flt} {s : Rot} {out : List Stp} {k u : Int} (he : aplE f s ⟨k, u⟩ = 0) : doS f (s, out) k u = ((stepS f s ⟨k, u⟩).1, out ++ [⟨k, u⟩]) := if_pos he
theorem do_n {f : Flt} {s : Rot} {out : List Stp} {k u : Int} (he : ¬ aplE f s ⟨k, u⟩ = 0) : doS f (s, out) k u = (s, out) := if_neg he
theorem srv_at {f : Flt} {s : Rot} {pool b : Int} {i : Nat} (hi : i < (unitsS f pool).length) (hq : srvQ s b (gt (unitsS f pool) (i : Int)) = true) (h : ∀ j : Nat, j < i → srvQ s b (gt (unitsS f pool) (j : Int)) = false) : srvS f s pool b = (gt (unitsS f pool) (i : Int), true) := by
  have e : idxOf (srvQ s b) (unitsS f pool) = (i : Int) := idxOf_at hi (by rw [← gt_nat hi]; exact hq) fun j hj => by rw [← gt_nat (by omega)]; exact h j hj
  unfold srvS
  rw [e, if_pos (by omega)]
theorem srv_no {f : Flt} {s : Rot} {pool b : Int} (h : ∀ j : Nat, j < (unitsS f pool).length → srvQ s b (gt (unitsS f pool) (j : Int)) = false) : srvS f s pool b = (0, false) := by
  have e : idxOf (srvQ s b) (unitsS f pool) = -1 := idxOf_none fun x hx => by
    obtain ⟨j, hj, rfl⟩ := List.getElem_of_mem hx
    have := h j hj
    rwa [gt_nat hj] at this
  unfold srvS
  rw [e, if_neg (by omega)]
theorem do_icw (slots : Int) (cons : List Csm) (known valid : Int) (units : List Unt) (out : List Stp) (kind unit : Int) : ICw (out.length ≤ 1000000) 131 [.one (.ref 0 0), iv kind, iv unit] 214 [.d (.int .i64 slots), .d (.list (cons.map Csm.row)), .d (.int .i64 known), .d (.int .i64 valid), .d (.list (units.map Unt.row)), .sl 1 (List.length out) 2] 159 2 (List.map Stp.row out) (.tup []) [.d (.int .i64 slots), .d (.list (cons.map Csm.row)), .d (.int .i64 (doS ⟨slots, cons⟩ (⟨known, valid, units⟩, out) kind unit).1.known), .d (.int .i64 (doS ⟨slots, cons⟩ (⟨known, valid, units⟩, out) kind unit).1.valid), .d (.list ((doS ⟨slots, cons⟩ (⟨known, valid, units⟩, out) kind unit).1.units.map Unt.row)), .sl 1 (List.length (doS ⟨slots, cons⟩ (⟨known, valid, units⟩, out) kind unit).2) 2] (List.map Stp.row (doS ⟨slots, cons⟩ (⟨known, valid, units⟩, out) kind unit).2) := fun hl => (pdo_V slots cons known valid units out kind unit slots cons (doS ⟨slots, cons⟩ (⟨known, valid, units⟩, out) kind unit).1.known (doS ⟨slots, cons⟩ (⟨known, valid, units⟩, out) kind unit).1.valid (doS ⟨slots, cons⟩ (⟨known, valid, units⟩, out) kind unit).1.units (doS ⟨slots, cons⟩ (⟨known, valid, units⟩, out) kind unit).2).2 (by
  (delta pdo_V; dsimp only [mkV])
  (repeat' (first | with_reducible refine brn_nd (fun h => ?_) (fun h => ?_) | with_reducible refine brn_d (fun h => ?_) (fun h => ?_) | with_reducible refine brn_nn (fun h => ?_) (fun h => ?_) | with_reducible refine brn_nb (fun h => ?_) (fun h => ?_) | with_reducible refine Brn.mk (fun h => ?_) (fun h => ?_) | with_reducible refine Chk.mk ?_ ?_ | with_reducible refine Bth.mk ?_ ?_ | with_reducible refine Fct.mk (fun hf => ?_)))
  · simp; omega
  · have he : aplE ⟨slots, cons⟩ ⟨known, valid, units⟩ ⟨kind, unit⟩ = 0 := (by assumption)
    rw [do_y he]
    unfold aplS
    rw [if_pos he]
    exact ⟨rfl, rfl⟩
  · have he : ¬ aplE ⟨slots, cons⟩ ⟨known, valid, units⟩ ⟨kind, unit⟩ = 0 := (by assumption)
    rw [do_n he]
    exact ⟨rfl, rfl⟩)
noncomputable def mend_V (slots : Int) (cons : List Csm) (known : Int) (valid : Int) (units : List Unt) (out : List Stp) (unit : Int) (slots0 : Int) (cons0 : List Csm) (known0 : Int) (valid0 : Int) (units0 : List Unt) (out0 : List Stp) : Σ' P : Prop, (P → IChJ 0 Try.prog 25 172 true [.one (.ref 0 0), .one (.d (.int .i64 unit))] [.blk 214 [.d (.int .i64 slots), .d (.list (List.map Csm.row cons)), .d (.int .i64 known), .d (.int .i64 valid), .d (.list (List.map Unt.row units)), .sl 1 (List.length out) 2], .arr 159 2 (List.map Stp.row out)] (fun x y => x = .tup [] ∧ y = [.blk 214 [.d (.int .i64 slots0), .d (.list (List.map Csm.row cons0)), .d (.int .i64 known0), .d (.int .i64 valid0), .d (.list (List.map Unt.row units0)), .sl 1 (List.length out0) 2], .arr 159 2 (List.map Stp.row out0)])) := by
  apply mkV; intro hP
  refine ich_wk (K 26) Try.func172 rfl rfl rfl rfl (fun w0 u => ?_)
  change wk _ _ _ _ (St.mk _ [(0, .blk 214 [.d (.int .i64 slots), .d (.list (List.map Csm.row cons)), .d (.int .i64 known), .d (.int .i64 valid), .d (.list (List.map Unt.row units)), .sl 1 (List.length out) 2]), (1, .arr 159 2 (List.map Stp.row out)), (1000, .pin u (.ref 0 0))])
  apply (v_kint (x := 1)); exact rfl; exact hP; clear hP; intro hP
  repeat' (first
    | ((fail_if_success (have hTest : Hld False := hP)); (have hq := chk_c hP); (replace hP := chk_p hP))
    | (with_reducible (first | apply c_seq | apply c_rg | apply j_nil | apply q_n | apply c_sk))
    | ((with_reducible apply j_v); exact rfl; exact rfl)
    | ((with_reducible apply v_ia); exact rfl; exact rfl; exact rfl; exact rfl; (case inst => exact inferInstance); exact rfl; exact rfl; (apply chk_c; exact hP; (first | skip)))
    | ((with_reducible apply r_hw0); (first | exact .inr rfl); exact rfl; exact rfl; exact rfl; exact rfl; (exact hP.out))
    | ((with_reducible apply (v_callw_0 (d := 6) 0 1)); exact rfl; exact ⟨rfl, rfl⟩; exact rfl; exact rfl; exact rfl; apply (do_icw _ _ _ _ _ _ _ _); rotate_left 7; exact rfl; (focus ((repeat' (first | exact ArgN.nil | refine ArgN.nm rfl rfl rfl ?_)) <;> fail)); exact rfl; exact rfl; exact rfl; exact rfl; exact rfl; (apply chk_c; exact hP; (first | skip)))
    | ((with_reducible apply (v_callw_0 (d := 9) 0 1)); exact rfl; exact ⟨rfl, rfl⟩; exact rfl; exact rfl; exact rfl; apply (do_icw _ _ _ _ _ _ _ _); rotate_left 7; exact rfl; (focus ((repeat' (first | exact ArgN.nil | refine ArgN.nm rfl rfl rfl ?_)) <;> fail)); exact rfl; exact rfl; exact rfl; exact rfl; exact rfl; (apply chk_c; exact hP; (first | skip)))
    | ((with_reducible apply (v_callw_0 (d := 22) 0 1)); exact rfl; exact ⟨rfl, rfl⟩; exact rfl; exact rfl; exact rfl; apply (do_icw _ _ _ _ _ _ _ _); rotate_left 7; exact rfl; (focus ((repeat' (first | exact ArgN.nil | refine ArgN.nm rfl rfl rfl ?_)) <;> fail)); exact rfl; exact rfl; exact rfl; exact rfl; exact rfl; (apply chk_c; exact hP; (first | skip)))
    | ((with_reducible apply (v_callw_0 (d := 25) 0 1)); exact rfl; exact ⟨rfl, rfl⟩; exact rfl; exact rfl; exact rfl; apply (do_icw _ _ _ _ _ _ _ _); rotate_left 7; exact rfl; (focus ((repeat' (first | exact ArgN.nil | refine ArgN.nm rfl rfl rfl ?_)) <;> fail)); exact rfl; exact rfl; exact rfl; exact rfl; exact rfl; (apply chk_c; exact hP; (first | skip)))
    | ((with_reducible apply v_if); exact rfl; (exact hP); all_goals (clear hP; intro hc hP)))
theorem mend_icw (slots : Int) (cons : List Csm) (known valid : Int) (units : List Unt) (out : List Stp) (unit : Int) : ICw (out.length ≤ 100000 ∧ 0 ≤ unit ∧ unit < units.length) 172 [.one (.ref 0 0), iv unit] 214 [.d (.int .i64 slots), .d (.list (cons.map Csm.row)), .d (.int .i64 known), .d (.int .i64 valid), .d (.list (units.map Unt.row)), .sl 1 (List.length out) 2] 159 2 (List.map Stp.row out) (.tup []) [.d (.int .i64 slots), .d (.list (cons.map Csm.row)), .d (.int .i64 (mendS ⟨slots, cons⟩ (⟨known, valid, units⟩, out) unit).1.known), .d (.int .i64 (mendS ⟨slots, cons⟩ (⟨known, valid, units⟩, out) unit).1.valid), .d (.list ((mendS ⟨slots, cons⟩ (⟨known, valid, units⟩, out) unit).1.units.map Unt.row)), .sl 1 (List.length (mendS ⟨slots, cons⟩ (⟨known, valid, units⟩, out) unit).2) 2] (List.map Stp.row (mendS ⟨slots, cons⟩ (⟨known, valid, units⟩, out) unit).2) := fun hl => (mend_V slots cons known valid units out unit slots cons (mendS ⟨slots, cons⟩ (⟨known, valid, units⟩, out) unit).1.known (mendS ⟨slots, cons⟩ (⟨known, valid, units⟩, out) unit).1.valid (mendS ⟨slots, cons⟩ (⟨known, valid, units⟩, out) unit).1.units (mendS ⟨slots, cons⟩ (⟨known, valid, units⟩, out) unit).2).2 (by
  obtain ⟨hl, h0, h1⟩ := hl
  have l1 := doS_len ⟨slots, cons⟩ (⟨known, valid, units⟩, out) 4 unit
  have u1 := doS_units ⟨slots, cons⟩ (⟨known, valid, units⟩, out) 4 unit
  have l2 := doS_len ⟨slots, cons⟩ (doS ⟨slots, cons⟩ (⟨known, valid, units⟩, out) 4 unit) 7 unit
  have u2 := doS_units ⟨slots, cons⟩ (doS ⟨slots, cons⟩ (⟨known, valid, units⟩, out) 4 unit) 7 unit
  have l3 := doS_len ⟨slots, cons⟩ (doS ⟨slots, cons⟩ (doS ⟨slots, cons⟩ (⟨known, valid, units⟩, out) 4 unit) 7 unit) 5 unit
  change _ ≤ out.length + 1 at l1
  change _ = units.length at u1
  (delta mend_V; dsimp only [mkV])
  (repeat' (first | with_reducible refine brn_nd (fun h => ?_) (fun h => ?_) | with_reducible refine brn_d (fun h => ?_) (fun h => ?_) | with_reducible refine brn_nn (fun h => ?_) (fun h => ?_) | with_reducible refine brn_nb (fun h => ?_) (fun h => ?_) | with_reducible refine Brn.mk (fun h => ?_) (fun h => ?_) | with_reducible refine Chk.mk ?_ ?_ | with_reducible refine Bth.mk ?_ ?_ | with_reducible refine Fct.mk (fun hf => ?_)))
  · omega
  · omega
  · show 0 ≤ unit ∧ unit < ((doS ⟨slots, cons⟩ (doS ⟨slots, cons⟩ (⟨known, valid, units⟩, out) 4 unit) 7 unit).1.units.length : Int)
    omega
  · show (doS ⟨slots, cons⟩ (doS ⟨slots, cons⟩ (⟨known, valid, units⟩, out) 4 unit) 7 unit).2.length ≤ 1000000
    omega
  · show (doS ⟨slots, cons⟩ (doS ⟨slots, cons⟩ (doS ⟨slots, cons⟩ (⟨known, valid, units⟩, out) 4 unit) 7 unit) 5 unit).2.length ≤ 1000000
    omega
  · have hn : ¬ (gt (doS ⟨slots, cons⟩ (doS ⟨slots, cons⟩ (⟨known, valid, units⟩, out) 4 unit) 7 unit).1.units unit).used = 2 := (by assumption)
    have e : mendS ⟨slots, cons⟩ (⟨known, valid, units⟩, out) unit = doS ⟨slots, cons⟩ (doS ⟨slots, cons⟩ (doS ⟨slots, cons⟩ (doS ⟨slots, cons⟩ (⟨known, valid, units⟩, out) 4 unit) 7 unit) 5 unit) 6 unit := by
      unfold mendS; rw [if_neg hn]
    rw [e]
    exact ⟨rfl, rfl⟩
  · show (doS ⟨slots, cons⟩ (doS ⟨slots, cons⟩ (⟨known, valid, units⟩, out) 4 unit) 7 unit).2.length ≤ 1000000
    omega
  · have hn : (gt (doS ⟨slots, cons⟩ (doS ⟨slots, cons⟩ (⟨known, valid, units⟩, out) 4 unit) 7 unit).1.units unit).used = 2 := (by assumption)
    have e : mendS ⟨slots, cons⟩ (⟨known, valid, units⟩, out) unit = doS ⟨slots, cons⟩ (doS ⟨slots, cons⟩ (doS ⟨slots, cons⟩ (⟨known, valid, units⟩, out) 4 unit) 7 unit) 6 unit := by
      unfold mendS; rw [if_pos hn]
    rw [e]
    exact ⟨rfl, rfl⟩)
noncomputable def serving_V (slots : Int) (cons : List Csm) (known : Int) (valid : Int) (units : List Unt) (out : List Stp) (pool : Int) (bits : Int) (slots0 : Int) (cons0 : List Csm) (known0 : Int) (valid0 : Int) (units0 : List Unt) (out0 : List Stp) (c1 c2 : Cell) : Σ' P : Prop, (P → IChJ 0 Try.prog 25 169 true [.one (.ref 0 0), .one (.d (.int .i64 pool)), .one (.d (.int .i64 bits))] [.blk 214 [.d (.int .i64 slots), .d (.list (List.map Csm.row cons)), .d (.int .i64 known), .d (.int .i64 valid), .d (.list (List.map Unt.row units)), .sl 1 (List.length out) 2], .arr 159 2 (List.map Stp.row out)] (fun x y => x = .tup [.one (.d c1), .one (.d c2)] ∧ y = [.blk 214 [.d (.int .i64 slots0), .d (.list (List.map Csm.row cons0)), .d (.int .i64 known0), .d (.int .i64 valid0), .d (.list (List.map Unt.row units0)), .sl 1 (List.length out0) 2], .arr 159 2 (List.map Stp.row out0)])) := by
  apply mkV; intro hP
  refine ich_wk (K 35) Try.func169 rfl rfl rfl rfl (fun w0 u => ?_)
  change wk _ _ _ _ (St.mk _ [(0, .blk 214 [.d (.int .i64 slots), .d (.list (List.map Csm.row cons)), .d (.int .i64 known), .d (.int .i64 valid), .d (.list (List.map Unt.row units)), .sl 1 (List.length out) 2]), (1, .arr 159 2 (List.map Stp.row out)), (1000, .pin u (.ref 0 0))])
  apply (v_kint (x := 1)); exact rfl; exact hP; clear hP; intro hP
  apply (v_kint (x := 2)); exact rfl; exact hP; clear hP; intro hP
  repeat' (first
    | ((fail_if_success (have hTest : Hld False := hP)); (have hq := chk_c hP); (replace hP := chk_p hP))
    | (with_reducible (first | apply c_seq | apply c_rg | apply j_nil | apply q_n | apply c_bl | apply c_ex | apply c_ret | apply c_sk | apply q_r | apply q_e | apply b_r | apply b_e | apply b_n | apply n_n | apply n_r | apply n_e))
    | ((with_reducible apply c_l1); exact rfl; exact rfl)
    | ((with_reducible apply j_v); exact rfl; exact rfl)
    | ((with_reducible apply v_lenm); exact rfl; exact rfl; exact rfl; (exact hP); clear hP; intro hP)
    | ((with_reducible apply j_add); exact rfl; exact rfl; exact rfl; (with_reducible apply wr_i64; (apply chk_c; exact hP; (first | skip))))
    | ((with_reducible apply v_ia); exact rfl; exact rfl; exact rfl; exact rfl; (case inst => exact inferInstance); exact rfl; exact rfl; (apply chk_c; exact hP; (first | skip)))
    | ((with_reducible apply r_hw2); (first | exact .inl rfl); exact rfl; exact rfl; exact rfl; exact rfl; exact rfl; exact rfl; exact rfl; (exact hP.out))
    | ((with_reducible apply j_call (pu := true)); exact rfl; (apply (Units_ic ⟨_, _⟩ _); rotate_left 3; dsimp only [Flt.v_mk]); (focus ((repeat' (first | exact .nil _ | refine PsL.cons ?_ ?_ | refine PsSL.cons ?_ ?_ | exact .one (.d _ _) | refine .agg ?_ | exact .d _ _)) <;> fail)); exact .inl rfl)
    | ((with_reducible refine v_loopat (c := (.seq (.region 2 _ _) _)) ?_); (apply (v_loop1 _ [0, 2, 15, 16] [0, 1, 1000] (fun x1 => [(17, .one (.d (.int .i64 x1)))]) (fun x1 => []) [])); exact rfl; exact rfl; exact ⟨(by repeat' (first | exact .nil | refine .cons ?_ ?_ | exact SVle_pl rfl | refine .one ?_ | exact .ref rfl rfl)), (by repeat' (first | exact .nil | refine .cons ?_ ?_ | exact .d rfl | exact .sl rfl (by first | rfl | omega | (rw [List.length_append, List.length_map]; show _ + 1 = _; omega) | simp) | refine .blk rfl ?_ | exact .pin (.ref rfl rfl) | exact .arr rfl (by first | rfl | assumption | simp)))⟩; (exact hP); clear hP; intro I μ x1 hP)
    | ((with_reducible apply (v_nxt1 (a1 := _))); (repeat' (first | exact .nil | refine .cons ?_ ?_ | exact SVle_pl rfl | refine .one ?_ | exact .d rfl | exact .ref rfl rfl | exact .sl rfl (by first | rfl | exact List.length_set.symm | exact (splT_len (by simp only [List.length_take, List.length_drop]; omega)).symm | omega | (rw [List.length_append, List.length_map]; show _ + 1 = _; omega) | simp) | refine .blk rfl ?_ | exact .pin (.ref rfl rfl) | exact .arr rfl (by first | rfl | assumption | simp))); (repeat' (first | exact .nil | exact .nil _ | refine .cons ?_ ?_ | exact .u _ | exact SVle_pl rfl | refine .one ?_ | refine .agg ?_ | exact .d rfl | exact .ref rfl rfl | exact .sl rfl (by first | rfl | exact List.length_set.symm | exact (splT_len (by simp only [List.length_take, List.length_drop]; omega)).symm | omega | (rw [List.length_append, List.length_map]; show _ + 1 = _; omega) | simp) | exact .fn _ | exact .tape | exact .nils rfl | exact .nild | exact .nildm | exact .nil | exact .rp (by simp) | exact .clo (by simp) | exact .el rfl rfl rfl | exact .d (by first | rfl | (congr 1; omega) | (congr 1; assumption) | simp) | exact .virt rfl | exact .gone _ | refine .blk rfl ?_ | exact .pin (.ref rfl rfl) | exact .arr rfl (by first | rfl | assumption | simp))); (exact hP))
    | ((with_reducible apply v_if); exact rfl; (exact hP); all_goals (clear hP; intro hc hP)))
theorem serv_icw (slots : Int) (cons : List Csm) (known valid : Int) (units : List Unt) (out : List Stp) (pool bits : Int) : ICw (fltB ⟨slots, cons⟩ = true ∧ units.length = cons.length) 169 [.one (.ref 0 0), iv pool, iv bits] 214 [.d (.int .i64 slots), .d (.list (cons.map Csm.row)), .d (.int .i64 known), .d (.int .i64 valid), .d (.list (units.map Unt.row)), .sl 1 (List.length out) 2] 159 2 (List.map Stp.row out) (.tup [iv (srvS ⟨slots, cons⟩ ⟨known, valid, units⟩ pool bits).1, bv (srvS ⟨slots, cons⟩ ⟨known, valid, units⟩ pool bits).2]) [.d (.int .i64 slots), .d (.list (cons.map Csm.row)), .d (.int .i64 ((⟨known, valid, units⟩, out) : Rot × List Stp).1.known), .d (.int .i64 ((⟨known, valid, units⟩, out) : Rot × List Stp).1.valid), .d (.list (((⟨known, valid, units⟩, out) : Rot × List Stp).1.units.map Unt.row)), .sl 1 (List.length ((⟨known, valid, units⟩, out) : Rot × List Stp).2) 2] (List.map Stp.row ((⟨known, valid, units⟩, out) : Rot × List Stp).2) := fun hl => (serving_V slots cons known valid units out pool bits slots cons known valid units out (.int .i64 (srvS ⟨slots, cons⟩ ⟨known, valid, units⟩ pool bits).1) (.bool (srvS ⟨slots, cons⟩ ⟨known, valid, units⟩ pool bits).2)).2 (by
  obtain ⟨hfl, hlen⟩ := hl
  have hul := units_len ⟨slots, cons⟩ pool
  have hcl := flt_len hfl
  change 1 ≤ cons.length ∧ cons.length ≤ 8 at hcl
  change (unitsS ⟨slots, cons⟩ pool).length ≤ cons.length at hul
  (delta serving_V; dsimp only [mkV])
  (repeat' (first | with_reducible refine brn_nd (fun h => ?_) (fun h => ?_) | with_reducible refine brn_d (fun h => ?_) (fun h => ?_) | with_reducible refine brn_nn (fun h => ?_) (fun h => ?_) | with_reducible refine brn_nb (fun h => ?_) (fun h => ?_) | with_reducible refine Brn.mk (fun h => ?_) (fun h => ?_) | with_reducible refine Chk.mk ?_ ?_ | with_reducible refine Bth.mk ?_ ?_ | with_reducible refine Fct.mk (fun hf => ?_)))
  refine up1 (fun z => ∀ j : Nat, (j : Int) < z → srvQ ⟨known, valid, units⟩ bits (gt (unitsS ⟨slots, cons⟩ pool) (j : Int)) = false) (by omega) (fun j hj => by omega) ?_ ?_
  · intro I μ z h0 h1 hj nx
    obtain ⟨i, rfl, hi⟩ := natz h0 h1
    have hm := (mem_units hfl).1 (gt_mem h0 h1)
    (repeat' (first | with_reducible refine brn_nd (fun h => ?_) (fun h => ?_) | with_reducible refine brn_d (fun h => ?_) (fun h => ?_) | with_reducible refine brn_nn (fun h => ?_) (fun h => ?_) | with_reducible refine brn_nb (fun h => ?_) (fun h => ?_) | with_reducible refine Brn.mk (fun h => ?_) (fun h => ?_) | with_reducible refine Chk.mk ?_ ?_ | with_reducible refine Bth.mk ?_ ?_ | with_reducible refine Fct.mk (fun hf => ?_)))
    · omega
    · have := hm.2.1
      change _ < (cons.length : Int) at this
      omega
    · have hs : srvQ ⟨known, valid, units⟩ bits (gt (unitsS ⟨slots, cons⟩ pool) (i : Int)) = true := by
        unfold srvQ sv
        simpa using h
      rw [srv_at (by omega) hs fun j hj' => hj j (by omega)]
      exact ⟨⟨rfl, rfl⟩, rfl, rfl⟩
    · unfold InI; omega
    · refine nx fun j hj' => ?_
      by_cases e : j < i
      · exact hj j (by omega)
      · rw [show j = i by omega]
        unfold srvQ sv
        simpa using h
  · intro I μ hj
    rw [srv_no fun j hj' => hj j (by omega)]
    exact ⟨⟨rfl, rfl⟩, rfl, rfl⟩)
end Go.Proofs.Ytcbppkfnfbdkhaa
