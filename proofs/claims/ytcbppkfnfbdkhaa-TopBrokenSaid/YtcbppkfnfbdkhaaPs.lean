/- plan: prepare, settle. -/
import Derived.Test.YtcbppkfnfbdkhaaPr
set_option linter.all false
set_option maxRecDepth 20000
set_option maxHeartbeats 4000000
namespace Go.Proofs.Ytcbppkfnfbdkhaa
open Go.RowKit Go.Shelf
theorem mendO_units (f : Flt) (k : Int) (p : Rot × List Stp) (u : Int) : (mendO f k p u).1.units.length = p.1.units.length := by
  unfold mendO
  split
  · rfl
  · exact mendS_units _ _ _
theorem mends_units (f : Flt) (k : Int) : ∀ (l : List Int) (p : Rot × List Stp), (l.foldl (mendO f k) p).1.units.length = p.1.units.length
  | [], p => rfl
  | x :: l, p => by rw [List.foldl_cons, mends_units f k l, mendO_units]
theorem prepS_units (f : Flt) (p : Rot × List Stp) (q : Int) : (prepS f p q).1.units.length = p.1.units.length := by
  unfold prepS
  split
  · rfl
  · split
    · exact mendS_units _ _ _
    · exact doS_units _ _ _ _
theorem setlS_units (f : Flt) (p : Rot × List Stp) (q : Int) : (setlS f p q).1.units.length = p.1.units.length := by
  unfold setlS
  rw [mendS_units, mends_units]
def setQ (f : Flt) (p : Rot × List Stp) (pool : Int) (i : Nat) : Rot × List Stp := ((unitsS f pool).take i).foldl (mendO f (srvS f p.1 pool p.1.valid).1) p
theorem setQ_s {f : Flt} {p : Rot × List Stp} {pool : Int} {i : Nat} (h : i < (unitsS f pool).length) : setQ f p pool (i + 1) = mendO f (srvS f p.1 pool p.1.valid).1 (setQ f p pool i) (gt (unitsS f pool) (i : Int)) := by
  unfold setQ
  rw [take_snoc h, List.foldl_append]; rfl
theorem setQ_len (f : Flt) (p : Rot × List Stp) (pool : Int) (i : Nat) : (setQ f p pool i).2.length ≤ p.2.length + 4 * i := by
  have h1 := mends_len f (srvS f p.1 pool p.1.valid).1 ((unitsS f pool).take i) p
  have h2 : ((unitsS f pool).take i).length ≤ i := by simp; omega
  unfold setQ
  omega
theorem setQ_units (f : Flt) (p : Rot × List Stp) (pool : Int) (i : Nat) : (setQ f p pool i).1.units.length = p.1.units.length := mends_units _ _ _ _
theorem setQ_end (f : Flt) (p : Rot × List Stp) (pool : Int) : setlS f p pool = mendS f (setQ f p pool (unitsS f pool).length) (srvS f p.1 pool p.1.valid).1 := by
  unfold setQ setlS
  rw [List.take_length]
theorem srv_rng {f : Flt} {s : Rot} {pool b : Int} (hf : fltB f = true) : 0 ≤ (srvS f s pool b).1 ∧ (srvS f s pool b).1 < f.cons.length := by
  have hl := flt_len hf
  unfold srvS
  split
  · rename_i h0
    have h1 := (idxOf_bd (srvQ s b) (unitsS f pool)).2
    obtain ⟨a, b, _⟩ := (mem_units hf).1 (gt_mem h0 h1)
    exact ⟨a, b⟩
  · exact ⟨Int.le_refl 0, by show (0 : Int) < _; omega⟩
theorem prep_1 {f : Flt} {p : Rot × List Stp} {pool : Int} (h : (srvS f p.1 pool 2).2 = true) : prepS f p pool = p := if_pos h
theorem prep_2 {f : Flt} {p : Rot × List Stp} {pool : Int} (h : (srvS f p.1 pool 2).2 = false) (h2 : 0 ≤ idxOf (neqB (srvS f p.1 pool 1).1) (unitsS f pool)) : prepS f p pool = mendS f p (gt (unitsS f pool) (idxOf (neqB (srvS f p.1 pool 1).1) (unitsS f pool))) := by
  unfold prepS; rw [if_neg (by rw [h]; simp), if_pos h2]
theorem prep_3 {f : Flt} {p : Rot × List Stp} {pool : Int} (h : (srvS f p.1 pool 2).2 = false) (h2 : ¬ 0 ≤ idxOf (neqB (srvS f p.1 pool 1).1) (unitsS f pool)) : prepS f p pool = doS f p 4 (srvS f p.1 pool 1).1 := by
  unfold prepS; rw [if_neg (by rw [h]; simp), if_neg h2]
noncomputable def prep1_V (u k : Int) (Q : SV → Prop) : Σ' P : Prop, (P → ICt 171 [iv u, .one (.rp [.d (.int .i64 k)])] Q) := by
  apply mkV; intro hP
  refine ic_wk (K 7) Try.func171 rfl rfl rfl rfl (fun w0 => ?_)
  repeat' (first
    | (with_reducible (first | apply c_seq | apply c_rg | apply j_nil | apply q_n | apply c_ret))
    | ((with_reducible apply j_v); exact rfl; exact rfl)
    | ((with_reducible apply r_g); exact rfl; (· repeat' (first | exact True.intro | refine And.intro ?_ ?_)); (exact hP.out)))
theorem prep1_ic (u k : Int) : ICt 171 [iv u, .one (.rp [.d (.int .i64 k)])] (fun v => v = bv (neqB k u)) := (prep1_V u k _).2 (by
  (delta prep1_V; dsimp only [mkV])
  (repeat' (first | with_reducible refine brn_nd (fun h => ?_) (fun h => ?_) | with_reducible refine brn_d (fun h => ?_) (fun h => ?_) | with_reducible refine brn_nn (fun h => ?_) (fun h => ?_) | with_reducible refine brn_nb (fun h => ?_) (fun h => ?_) | with_reducible refine Brn.mk (fun h => ?_) (fun h => ?_) | with_reducible refine Chk.mk ?_ ?_ | with_reducible refine Bth.mk ?_ ?_ | with_reducible refine Fct.mk (fun hf => ?_)))
  try rfl)
theorem prep1_fn (k : Int) : FnC 171 [.rp [.d (.int .i64 k)]] (pI (neqB k)) := fnI (fun u => prep1_ic u k) 0
noncomputable def prepare_V (slots : Int) (cons : List Csm) (known : Int) (valid : Int) (units : List Unt) (out : List Stp) (pool : Int) (slots0 : Int) (cons0 : List Csm) (known0 : Int) (valid0 : Int) (units0 : List Unt) (out0 : List Stp) : Σ' P : Prop, (P → IChJ 0 Try.prog 25 132 true [.one (.ref 0 0), .one (.d (.int .i64 pool))] [.blk 214 [.d (.int .i64 slots), .d (.list (List.map Csm.row cons)), .d (.int .i64 known), .d (.int .i64 valid), .d (.list (List.map Unt.row units)), .sl 1 (List.length out) 2], .arr 159 2 (List.map Stp.row out)] (fun x y => x = .tup [] ∧ y = [.blk 214 [.d (.int .i64 slots0), .d (.list (List.map Csm.row cons0)), .d (.int .i64 known0), .d (.int .i64 valid0), .d (.list (List.map Unt.row units0)), .sl 1 (List.length out0) 2], .arr 159 2 (List.map Stp.row out0)])) := by
  apply mkV; intro hP
  refine ich_wk (K 43) Try.func132 rfl rfl rfl rfl (fun w0 u => ?_)
  change wk _ _ _ _ (St.mk _ [(0, .blk 214 [.d (.int .i64 slots), .d (.list (List.map Csm.row cons)), .d (.int .i64 known), .d (.int .i64 valid), .d (.list (List.map Unt.row units)), .sl 1 (List.length out) 2]), (1, .arr 159 2 (List.map Stp.row out)), (1000, .pin u (.ref 0 0))])
  apply (v_kint (x := 1)); exact rfl; exact hP; clear hP; intro hP
  repeat' (first
    | ((apply (v_fzr (o := ⟨some 30, .makeFunc _ _ _, _, _, _, _⟩) 6)); exact rfl; exact rfl; exact rfl; exact rfl)
    | ((fail_if_success (have hTest : Hld False := hP)); (have hq := chk_c hP); (replace hP := chk_p hP))
    | (with_reducible (first | apply c_seq | apply c_rg | apply j_nil | apply q_n | apply c_ret | apply c_sk | apply q_r))
    | ((with_reducible apply j_v); exact rfl; exact rfl)
    | ((with_reducible apply j_h); exact rfl; exact rfl)
    | ((with_reducible apply j_s); exact rfl)
    | ((with_reducible apply v_ia); exact rfl; exact rfl; exact rfl; exact rfl; (case inst => exact inferInstance); exact rfl; exact rfl; (apply chk_c; exact hP; (first | skip)))
    | ((with_reducible apply r_hw0); (first | exact .inl rfl | exact .inr rfl); exact rfl; exact rfl; exact rfl; exact rfl; (exact hP.out))
    | ((with_reducible apply (v_callw_0 (d := 42) 0 1)); exact rfl; exact ⟨rfl, rfl⟩; exact rfl; exact rfl; exact rfl; apply (do_icw _ _ _ _ _ _ _ _); rotate_left 7; exact rfl; (focus ((repeat' (first | exact ArgN.nil | refine ArgN.nm rfl rfl rfl ?_)) <;> fail)); exact rfl; exact rfl; exact rfl; exact rfl; exact rfl; (apply chk_c; exact hP; (first | skip)))
    | ((with_reducible apply j_call (pu := true)); exact rfl; (apply (Units_ic ⟨_, _⟩ _); rotate_left 3; dsimp only [Flt.v_mk]); (focus ((repeat' (first | exact .nil _ | refine PsL.cons ?_ ?_ | refine PsSL.cons ?_ ?_ | exact .one (.d _ _) | refine .agg ?_ | exact .d _ _)) <;> fail)); exact .inl rfl)
    | ((with_reducible apply (v_callw_2 (d := 13) 0 1)); exact rfl; exact ⟨rfl, rfl⟩; exact rfl; exact rfl; exact rfl; apply (serv_icw _ _ _ _ _ _ _ _); rotate_left 7; exact rfl; (focus ((repeat' (first | exact ArgN.nil | refine ArgN.nm rfl rfl rfl ?_)) <;> fail)); exact rfl; exact rfl; exact rfl; exact rfl; exact rfl; (apply chk_c; exact hP; (first | skip)))
    | ((with_reducible apply (v_callw_2 (d := 20) 0 1)); exact rfl; exact ⟨rfl, rfl⟩; exact rfl; exact rfl; exact rfl; apply (serv_icw _ _ _ _ _ _ _ _); rotate_left 7; exact rfl; (focus ((repeat' (first | exact ArgN.nil | refine ArgN.nm rfl rfl rfl ?_)) <;> fail)); exact rfl; exact rfl; exact rfl; exact rfl; exact rfl; (first | with_reducible assumption))
    | ((with_reducible apply j_call (pu := false)); exact rfl; (apply (idxI_ic _ _); rotate_left 2); (focus ((repeat' (first | (apply (PsS.cfn _ (prep1_fn _)); (focus (repeat' (first | exact .nil _ | refine PsL.cons ?_ ?_ | refine PsSL.cons ?_ ?_ | exact .one (.d _ _) | exact .one (.nil _) | exact .one (.tape _) | exact .one (.fn _ _) | exact .agg (.same _ _) | refine .agg ?_ | exact .d _ _ | exact .one (.sl rfl rfl) | exact .sl rfl rfl | exact PsC.fn _ _ | refine .one (PsC.ref rfl ?_) | refine PsC.ref rfl ?_ | refine .one (PsC.rp ?_) | refine PsC.rp ?_ | refine .one (PsC.clo ?_) | refine PsC.clo ?_ | exact .same _ _)))) | exact .nil _ | refine PsL.cons ?_ ?_ | refine PsSL.cons ?_ ?_ | exact .one (.d _ _) | exact .d _ _ | refine PsC.rp ?_)) <;> fail)); exact .inr rfl)
    | ((with_reducible apply (v_callw_0 (d := 39) 0 1)); exact rfl; exact ⟨rfl, rfl⟩; exact rfl; exact rfl; exact rfl; apply (mend_icw _ _ _ _ _ _ _); rotate_left 6; exact rfl; (focus ((repeat' (first | exact ArgN.nil | refine ArgN.nm rfl rfl rfl ?_)) <;> fail)); exact rfl; exact rfl; exact rfl; exact rfl; exact rfl; (apply chk_c; exact hP; (first | skip)))
    | ((with_reducible apply v_if); exact rfl; (exact hP); all_goals (clear hP; intro hc hP)))
theorem prep_icw (slots : Int) (cons : List Csm) (known valid : Int) (units : List Unt) (out : List Stp) (pool : Int) : ICw (out.length ≤ 10000 ∧ fltB ⟨slots, cons⟩ = true ∧ units.length = cons.length) 132 [.one (.ref 0 0), iv pool] 214 [.d (.int .i64 slots), .d (.list (cons.map Csm.row)), .d (.int .i64 known), .d (.int .i64 valid), .d (.list (units.map Unt.row)), .sl 1 (List.length out) 2] 159 2 (List.map Stp.row out) (.tup []) [.d (.int .i64 slots), .d (.list (cons.map Csm.row)), .d (.int .i64 (prepS ⟨slots, cons⟩ (⟨known, valid, units⟩, out) pool).1.known), .d (.int .i64 (prepS ⟨slots, cons⟩ (⟨known, valid, units⟩, out) pool).1.valid), .d (.list ((prepS ⟨slots, cons⟩ (⟨known, valid, units⟩, out) pool).1.units.map Unt.row)), .sl 1 (List.length (prepS ⟨slots, cons⟩ (⟨known, valid, units⟩, out) pool).2) 2] (List.map Stp.row (prepS ⟨slots, cons⟩ (⟨known, valid, units⟩, out) pool).2) := fun hl => (prepare_V slots cons known valid units out pool slots cons (prepS ⟨slots, cons⟩ (⟨known, valid, units⟩, out) pool).1.known (prepS ⟨slots, cons⟩ (⟨known, valid, units⟩, out) pool).1.valid (prepS ⟨slots, cons⟩ (⟨known, valid, units⟩, out) pool).1.units (prepS ⟨slots, cons⟩ (⟨known, valid, units⟩, out) pool).2).2 (by
  obtain ⟨hl, hfl, hlen⟩ := hl
  (delta prepare_V; dsimp only [mkV])
  (repeat' (first | with_reducible refine brn_nd (fun h => ?_) (fun h => ?_) | with_reducible refine brn_d (fun h => ?_) (fun h => ?_) | with_reducible refine brn_nn (fun h => ?_) (fun h => ?_) | with_reducible refine brn_nb (fun h => ?_) (fun h => ?_) | with_reducible refine Brn.mk (fun h => ?_) (fun h => ?_) | with_reducible refine Chk.mk ?_ ?_ | with_reducible refine Bth.mk ?_ ?_ | with_reducible refine Fct.mk (fun hf => ?_)))
  · exact ⟨hfl, hlen⟩
  · rw [prep_1 (by assumption)]; exact ⟨rfl, rfl⟩
  · have h0 : 0 ≤ idxOf (neqB (srvS ⟨slots, cons⟩ ⟨known, valid, units⟩ pool 1).1) (unitsS ⟨slots, cons⟩ pool) := (by assumption)
    exact ⟨h0, (idxOf_bd _ _).2⟩
  · have h0 : 0 ≤ idxOf (neqB (srvS ⟨slots, cons⟩ ⟨known, valid, units⟩ pool 1).1) (unitsS ⟨slots, cons⟩ pool) := (by assumption)
    obtain ⟨a, b, _⟩ := (mem_units hfl).1 (gt_mem h0 (idxOf_bd _ _).2)
    change _ < (cons.length : Int) at b
    exact ⟨by omega, a, by omega⟩
  · rw [prep_2 (by assumption) (by assumption)]; exact ⟨rfl, rfl⟩
  · omega
  · rw [prep_3 (by assumption) (by assumption)]; exact ⟨rfl, rfl⟩)
noncomputable def settle_V (slots : Int) (cons : List Csm) (known : Int) (valid : Int) (units : List Unt) (out : List Stp) (pool : Int) (slots0 : Int) (cons0 : List Csm) (known0 : Int) (valid0 : Int) (units0 : List Unt) (out0 : List Stp) : Σ' P : Prop, (P → IChJ 0 Try.prog 25 133 true [.one (.ref 0 0), .one (.d (.int .i64 pool))] [.blk 214 [.d (.int .i64 slots), .d (.list (List.map Csm.row cons)), .d (.int .i64 known), .d (.int .i64 valid), .d (.list (List.map Unt.row units)), .sl 1 (List.length out) 2], .arr 159 2 (List.map Stp.row out)] (fun x y => x = .tup [] ∧ y = [.blk 214 [.d (.int .i64 slots0), .d (.list (List.map Csm.row cons0)), .d (.int .i64 known0), .d (.int .i64 valid0), .d (.list (List.map Unt.row units0)), .sl 1 (List.length out0) 2], .arr 159 2 (List.map Stp.row out0)])) := by
  apply mkV; intro hP
  refine ich_wk (K 40) Try.func133 rfl rfl rfl rfl (fun w0 u => ?_)
  change wk _ _ _ _ (St.mk _ [(0, .blk 214 [.d (.int .i64 slots), .d (.list (List.map Csm.row cons)), .d (.int .i64 known), .d (.int .i64 valid), .d (.list (List.map Unt.row units)), .sl 1 (List.length out) 2]), (1, .arr 159 2 (List.map Stp.row out)), (1000, .pin u (.ref 0 0))])
  apply (v_kint (x := 1)); exact rfl; exact hP; clear hP; intro hP
  repeat' (first
    | ((fail_if_success (have hTest : Hld False := hP)); (have hq := chk_c hP); (replace hP := chk_p hP))
    | (with_reducible (first | apply c_seq | apply c_rg | apply j_nil | apply q_n | apply c_bl | apply c_ex | apply c_sk | apply q_e | apply b_e | apply b_n | apply n_n | apply n_e))
    | ((with_reducible apply c_l1); exact rfl; exact rfl)
    | ((with_reducible apply j_v); exact rfl; exact rfl)
    | ((with_reducible apply v_lenm); exact rfl; exact rfl; exact rfl; (exact hP); clear hP; intro hP)
    | ((with_reducible apply j_add); exact rfl; exact rfl; exact rfl; (with_reducible apply wr_i64; (apply chk_c; exact hP; (first | skip))))
    | ((with_reducible apply v_ia); exact rfl; exact rfl; exact rfl; exact rfl; (case inst => exact inferInstance); exact rfl; exact rfl; (apply chk_c; exact hP; (first | skip)))
    | ((with_reducible apply r_hw0); (first | exact .inr rfl); exact rfl; exact rfl; exact rfl; exact rfl; (exact hP.out))
    | ((with_reducible apply j_call (pu := true)); exact rfl; (apply (Units_ic ⟨_, _⟩ _); rotate_left 3; dsimp only [Flt.v_mk]); (focus ((repeat' (first | exact .nil _ | refine PsL.cons ?_ ?_ | refine PsSL.cons ?_ ?_ | exact .one (.d _ _) | refine .agg ?_ | exact .d _ _)) <;> fail)); exact .inl rfl)
    | ((with_reducible apply (v_callw_2 (d := 16) 0 1)); exact rfl; exact ⟨rfl, rfl⟩; exact rfl; exact rfl; exact rfl; apply (serv_icw _ _ _ _ _ _ _ _); rotate_left 7; exact rfl; (focus ((repeat' (first | exact ArgN.nil | refine ArgN.nm rfl rfl rfl ?_)) <;> fail)); exact rfl; exact rfl; exact rfl; exact rfl; exact rfl; (apply chk_c; exact hP; (first | skip)))
    | ((with_reducible apply (v_callw_0 (d := 35) 0 1)); exact rfl; exact ⟨rfl, rfl⟩; exact rfl; exact rfl; exact rfl; apply (mend_icw _ _ _ _ _ _ _); rotate_left 6; exact rfl; (focus ((repeat' (first | exact ArgN.nil | refine ArgN.nm rfl rfl rfl ?_)) <;> fail)); exact rfl; exact rfl; exact rfl; exact rfl; exact rfl; (apply chk_c; exact hP; (first | skip)))
    | ((with_reducible apply (v_callw_0 (d := 39) 0 1)); exact rfl; exact ⟨rfl, rfl⟩; exact rfl; exact rfl; exact rfl; apply (mend_icw _ _ _ _ _ _ _); rotate_left 6; exact rfl; (focus ((repeat' (first | exact ArgN.nil | refine ArgN.nm rfl rfl rfl ?_)) <;> fail)); exact rfl; exact rfl; exact rfl; exact rfl; exact rfl; (apply chk_c; exact hP; (first | skip)))
    | ((with_reducible refine v_loopat (c := (.seq (.region 2 _ _) _)) ?_); (apply (v_loop7 _ _ _ _ _ _ _ [0, 4, 24, 25] [1000] (fun x1 x3 x4 x5 x6 x7 x2 => [(26, .one (.d (.int .i64 x2)))]) (fun x1 x3 x4 x5 x6 x7 x2 => [(0, .blk 214 [.d (.int .i64 x3), .d (.list (List.map Csm.row x4)), .d (.int .i64 x5), .d (.int .i64 x6), .d (.list (List.map Unt.row x7)), .sl 1 (List.length x1) 2]), (1, .arr 159 2 (List.map Stp.row x1))]) [])); exact rfl; exact rfl; (focus (refine ⟨?_, ?_⟩; rotate_left 1; (focus (repeat' (first | exact .nil | refine .cons ?_ ?_ | exact .d rfl | exact .sl rfl (by first | rfl | exact List.length_set.symm | exact (splT_len (by simp only [List.length_take, List.length_drop]; omega)).symm | omega | (rw [List.length_append, List.length_map]; show _ + 1 = _; omega) | simp) | refine .blk rfl ?_ | exact .pin (.ref rfl rfl) | exact .arr rfl (by first | rfl | assumption | simp)))); (focus (repeat' (first | exact .nil | refine .cons ?_ ?_ | exact SVle_pl rfl | refine .one ?_ | exact .ref rfl rfl))))); (exact hP); clear hP; intro I μ x1 x3 x4 x5 x6 x7 x2 hP)
    | ((with_reducible apply (v_nxt7 (a1 := _) (a2 := _) (a3 := _) (a4 := _) (a5 := _) (a6 := _) (a7 := _))); rotate_left 1; (focus (repeat' (first | exact .nil | refine .cons ?_ ?_ | exact .d rfl | exact .sl rfl (by first | rfl | exact List.length_set.symm | exact (splT_len (by simp only [List.length_take, List.length_drop]; omega)).symm | omega | (rw [List.length_append, List.length_map]; show _ + 1 = _; omega) | simp) | refine .blk rfl ?_ | exact .pin (.ref rfl rfl) | exact .arr rfl (by first | rfl | assumption | simp)))); rotate_right 1; (focus (repeat' (first | exact .nil | refine .cons ?_ ?_ | exact SVle_pl rfl | refine .one ?_ | exact .ref rfl rfl))); (exact hP))
    | ((with_reducible apply v_if); exact rfl; (exact hP); all_goals (clear hP; intro hc hP)))
theorem setl_icw (slots : Int) (cons : List Csm) (known valid : Int) (units : List Unt) (out : List Stp) (pool : Int) : ICw (out.length ≤ 10000 ∧ fltB ⟨slots, cons⟩ = true ∧ units.length = cons.length) 133 [.one (.ref 0 0), iv pool] 214 [.d (.int .i64 slots), .d (.list (cons.map Csm.row)), .d (.int .i64 known), .d (.int .i64 valid), .d (.list (units.map Unt.row)), .sl 1 (List.length out) 2] 159 2 (List.map Stp.row out) (.tup []) [.d (.int .i64 slots), .d (.list (cons.map Csm.row)), .d (.int .i64 (setlS ⟨slots, cons⟩ (⟨known, valid, units⟩, out) pool).1.known), .d (.int .i64 (setlS ⟨slots, cons⟩ (⟨known, valid, units⟩, out) pool).1.valid), .d (.list ((setlS ⟨slots, cons⟩ (⟨known, valid, units⟩, out) pool).1.units.map Unt.row)), .sl 1 (List.length (setlS ⟨slots, cons⟩ (⟨known, valid, units⟩, out) pool).2) 2] (List.map Stp.row (setlS ⟨slots, cons⟩ (⟨known, valid, units⟩, out) pool).2) := fun hl => (settle_V slots cons known valid units out pool slots cons (setlS ⟨slots, cons⟩ (⟨known, valid, units⟩, out) pool).1.known (setlS ⟨slots, cons⟩ (⟨known, valid, units⟩, out) pool).1.valid (setlS ⟨slots, cons⟩ (⟨known, valid, units⟩, out) pool).1.units (setlS ⟨slots, cons⟩ (⟨known, valid, units⟩, out) pool).2).2 (by
  obtain ⟨hl, hfl, hlen⟩ := hl
  have hul := units_len ⟨slots, cons⟩ pool
  have hcl := flt_len hfl
  have hkr := srv_rng (s := ⟨known, valid, units⟩) (pool := pool) (b := valid) hfl
  change 1 ≤ cons.length ∧ cons.length ≤ 8 at hcl
  change (unitsS ⟨slots, cons⟩ pool).length ≤ cons.length at hul
  change _ ∧ _ < (cons.length : Int) at hkr
  have hqu := setQ_units ⟨slots, cons⟩ (⟨known, valid, units⟩, out) pool
  have hql := setQ_len ⟨slots, cons⟩ (⟨known, valid, units⟩, out) pool
  change ∀ i, _ = units.length at hqu
  change ∀ i, _ ≤ out.length + 4 * i at hql
  (delta settle_V; dsimp only [mkV])
  (repeat' (first | with_reducible refine brn_nd (fun h => ?_) (fun h => ?_) | with_reducible refine brn_d (fun h => ?_) (fun h => ?_) | with_reducible refine brn_nn (fun h => ?_) (fun h => ?_) | with_reducible refine brn_nb (fun h => ?_) (fun h => ?_) | with_reducible refine Brn.mk (fun h => ?_) (fun h => ?_) | with_reducible refine Chk.mk ?_ ?_ | with_reducible refine Bth.mk ?_ ?_ | with_reducible refine Fct.mk (fun hf => ?_)))
  · exact ⟨hfl, hlen⟩
  refine lp7 (fun o a b kn va us z => 0 ≤ z ∧ z ≤ ((unitsS ⟨slots, cons⟩ pool).length : Int) ∧ slots = a ∧ cons = b ∧ o = (setQ ⟨slots, cons⟩ (⟨known, valid, units⟩, out) pool z.toNat).2 ∧ kn = (setQ ⟨slots, cons⟩ (⟨known, valid, units⟩, out) pool z.toNat).1.known ∧ va = (setQ ⟨slots, cons⟩ (⟨known, valid, units⟩, out) pool z.toNat).1.valid ∧ us = (setQ ⟨slots, cons⟩ (⟨known, valid, units⟩, out) pool z.toNat).1.units) (fun _ _ _ _ _ _ z => (((unitsS ⟨slots, cons⟩ pool).length : Int) - z).toNat) ⟨by omega, by omega, rfl, rfl, rfl, rfl, rfl, rfl⟩ ?_
  rintro I μ nx o a b kn va us z ⟨h0, h1, rfl, rfl, rfl, rfl, rfl, rfl⟩
  have hq1 := hqu z.toNat
  have hq2 := hql z.toNat
  have hm := fun (h : z < ((unitsS ⟨slots, cons⟩ pool).length : Int)) => (mem_units hfl).1 (gt_mem h0 h)
  have es := fun (h : z < ((unitsS ⟨slots, cons⟩ pool).length : Int)) => setQ_s (f := ⟨slots, cons⟩) (p := (⟨known, valid, units⟩, out)) (pool := pool) (i := z.toNat) (by omega)
  rw [Int.toNat_of_nonneg h0] at es
  (repeat' (first | with_reducible refine brn_nd (fun h => ?_) (fun h => ?_) | with_reducible refine brn_d (fun h => ?_) (fun h => ?_) | with_reducible refine brn_nn (fun h => ?_) (fun h => ?_) | with_reducible refine brn_nb (fun h => ?_) (fun h => ?_) | with_reducible refine Brn.mk (fun h => ?_) (fun h => ?_) | with_reducible refine Chk.mk ?_ ?_ | with_reducible refine Bth.mk ?_ ?_ | with_reducible refine Fct.mk (fun hf => ?_)))
  · omega
  · obtain ⟨a, b, _⟩ := hm (by assumption)
    change _ < (cons.length : Int) at b
    exact ⟨by omega, a, by omega⟩
  · unfold InI; omega
  · have e := es (by assumption)
    unfold mendO at e
    rw [if_neg (by assumption)] at e
    exact nx _ _ _ _ _ _ _ _ _ _ _ _ _ _ ⟨h0, h1, rfl, rfl, rfl, rfl, rfl, rfl⟩ ⟨by omega, by omega, rfl, rfl, by rw [show (z + 1).toNat = z.toNat + 1 by omega, e], by rw [show (z + 1).toNat = z.toNat + 1 by omega, e], by rw [show (z + 1).toNat = z.toNat + 1 by omega, e], by rw [show (z + 1).toNat = z.toNat + 1 by omega, e]⟩ (by omega)
  · unfold InI; omega
  · have e := es (by assumption)
    unfold mendO at e
    rw [if_pos (by assumption)] at e
    exact nx _ _ _ _ _ _ _ _ _ _ _ _ _ _ ⟨h0, h1, rfl, rfl, rfl, rfl, rfl, rfl⟩ ⟨by omega, by omega, rfl, rfl, by rw [show (z + 1).toNat = z.toNat + 1 by omega, e], by rw [show (z + 1).toNat = z.toNat + 1 by omega, e], by rw [show (z + 1).toNat = z.toNat + 1 by omega, e], by rw [show (z + 1).toNat = z.toNat + 1 by omega, e]⟩ (by omega)
  · exact ⟨by omega, hkr.1, by omega⟩
  · have e := setQ_end ⟨slots, cons⟩ (⟨known, valid, units⟩, out) pool
    rw [show (unitsS ⟨slots, cons⟩ pool).length = z.toNat by omega] at e
    rw [e]
    exact ⟨rfl, rfl⟩)
end Go.Proofs.Ytcbppkfnfbdkhaa
