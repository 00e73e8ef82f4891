/- Fleets: types, searches. -/
import Derived.Test.YtcbppkfnfbdkhaaQCb
import Derived.Test.YtcbppkfnfbdkhaaLb3
set_option linter.all false
set_option maxRecDepth 20000
set_option maxHeartbeats 4000000
namespace Go.Proofs.Ytcbppkfnfbdkhaa
open Go.RowKit Go.Shelf
structure Csm where
  pool : Int
  dual : Bool
  live : Bool
def Csm.row (x : Csm) : List Cell := [.int .i64 x.pool, .bool x.dual, .bool x.live]
abbrev Csm.v (x : Csm) : SV := .agg (x.row.map .d)
abbrev Csm.p (x : Csm) : CV := .rp (x.row.map .d)
instance : Inhabited Csm := ⟨⟨0, false, false⟩⟩
deriving instance DecidableEq for Csm
structure Flt where
  slots : Int
  cons : List Csm
def Flt.row (x : Flt) : List Cell := [.int .i64 x.slots, .list (x.cons.map Csm.row)]
abbrev Flt.v (x : Flt) : SV := .agg (x.row.map .d)
abbrev Flt.p (x : Flt) : CV := .rp (x.row.map .d)
instance : Inhabited Flt := ⟨⟨0, []⟩⟩
deriving instance DecidableEq for Flt
structure Unt where
  up : Bool
  stored : Int
  used : Int
def Unt.row (x : Unt) : List Cell := [.bool x.up, .int .i64 x.stored, .int .i64 x.used]
abbrev Unt.v (x : Unt) : SV := .agg (x.row.map .d)
abbrev Unt.p (x : Unt) : CV := .rp (x.row.map .d)
instance : Inhabited Unt := ⟨⟨false, 0, 0⟩⟩
deriving instance DecidableEq for Unt
structure Rot where
  known : Int
  valid : Int
  units : List Unt
def Rot.row (x : Rot) : List Cell := [.int .i64 x.known, .int .i64 x.valid, .list (x.units.map Unt.row)]
abbrev Rot.v (x : Rot) : SV := .agg (x.row.map .d)
abbrev Rot.p (x : Rot) : CV := .rp (x.row.map .d)
instance : Inhabited Rot := ⟨⟨0, 0, []⟩⟩
deriving instance DecidableEq for Rot
structure Stp where
  kind : Int
  unit : Int
def Stp.row (x : Stp) : List Cell := [.int .i64 x.kind, .int .i64 x.unit]
abbrev Stp.v (x : Stp) : SV := .agg (x.row.map .d)
abbrev Stp.p (x : Stp) : CV := .rp (x.row.map .d)
instance : Inhabited Stp := ⟨⟨0, 0⟩⟩
deriving instance DecidableEq for Stp
structure Hnd where
  pool : Int
def Hnd.row (x : Hnd) : List Cell := [.int .i64 x.pool]
abbrev Hnd.v (x : Hnd) : SV := .agg (x.row.map .d)
abbrev Hnd.p (x : Hnd) : CV := .rp (x.row.map .d)
instance : Inhabited Hnd := ⟨⟨0⟩⟩
deriving instance DecidableEq for Hnd
theorem Csm.row_mk (a0 : Int) (a1 : Bool) (a2 : Bool) : [(.int .i64 a0 : Cell), (.bool a1 : Cell), (.bool a2 : Cell)] = Csm.row ⟨a0, a1, a2⟩ := rfl
theorem Csm.v_mk (a0 : Int) (a1 : Bool) (a2 : Bool) : Csm.v ⟨a0, a1, a2⟩ = .agg [.d (.int .i64 a0), .d (.bool a1), .d (.bool a2)] := rfl
theorem Csm.ar {a0 : Int} {a1 : Bool} {a2 : Bool} {xs : List Csm} {cs : List CV} (h : CvD cs (xs.flatMap Csm.row)) : CvD (.d (.int .i64 a0) :: .d (.bool a1) :: .d (.bool a2) :: cs) ((⟨a0, a1, a2⟩ :: xs).flatMap Csm.row) := by rw [List.flatMap_cons]; exact (.d (.d (.d h)))
theorem Flt.row_mk (a0 : Int) (a1 : List Csm) : [(.int .i64 a0 : Cell), (.list (List.map Csm.row a1) : Cell)] = Flt.row ⟨a0, a1⟩ := rfl
theorem Flt.v_mk (a0 : Int) (a1 : List Csm) : Flt.v ⟨a0, a1⟩ = .agg [.d (.int .i64 a0), .d (.list (List.map Csm.row a1))] := rfl
theorem Flt.ar {a0 : Int} {a1 : List Csm} {xs : List Flt} {cs : List CV} (h : CvD cs (xs.flatMap Flt.row)) : CvD (.d (.int .i64 a0) :: .d (.list (List.map Csm.row a1)) :: cs) ((⟨a0, a1⟩ :: xs).flatMap Flt.row) := by rw [List.flatMap_cons]; exact (.d (.d h))
theorem Unt.row_mk (a0 : Bool) (a1 : Int) (a2 : Int) : [(.bool a0 : Cell), (.int .i64 a1 : Cell), (.int .i64 a2 : Cell)] = Unt.row ⟨a0, a1, a2⟩ := rfl
theorem Unt.v_mk (a0 : Bool) (a1 : Int) (a2 : Int) : Unt.v ⟨a0, a1, a2⟩ = .agg [.d (.bool a0), .d (.int .i64 a1), .d (.int .i64 a2)] := rfl
theorem Unt.ar {a0 : Bool} {a1 : Int} {a2 : Int} {xs : List Unt} {cs : List CV} (h : CvD cs (xs.flatMap Unt.row)) : CvD (.d (.bool a0) :: .d (.int .i64 a1) :: .d (.int .i64 a2) :: cs) ((⟨a0, a1, a2⟩ :: xs).flatMap Unt.row) := by rw [List.flatMap_cons]; exact (.d (.d (.d h)))
theorem Unt_eqT : eqT Try.prog 170 = some [.b, .i, .i] := by decide +kernel
theorem Unt_cells (a0 : Bool) (a1 : Int) (a2 : Int) (b0 : Bool) (b1 : Int) (b2 : Int) : cellsEq [.b, .i, .i] [.d (.bool a0), .d (.int .i64 a1), .d (.int .i64 a2)] [.d (.bool b0), .d (.int .i64 b1), .d (.int .i64 b2)] = some (decide ((⟨a0, a1, a2⟩ : Unt) = ⟨b0, b1, b2⟩)) := by
  simp [cellsEq, cellEq, Bool.decide_and, Bool.beq_eq_decide_eq]
theorem Rot.row_mk (a0 : Int) (a1 : Int) (a2 : List Unt) : [(.int .i64 a0 : Cell), (.int .i64 a1 : Cell), (.list (List.map Unt.row a2) : Cell)] = Rot.row ⟨a0, a1, a2⟩ := rfl
theorem Rot.v_mk (a0 : Int) (a1 : Int) (a2 : List Unt) : Rot.v ⟨a0, a1, a2⟩ = .agg [.d (.int .i64 a0), .d (.int .i64 a1), .d (.list (List.map Unt.row a2))] := rfl
theorem Rot.ar {a0 : Int} {a1 : Int} {a2 : List Unt} {xs : List Rot} {cs : List CV} (h : CvD cs (xs.flatMap Rot.row)) : CvD (.d (.int .i64 a0) :: .d (.int .i64 a1) :: .d (.list (List.map Unt.row a2)) :: cs) ((⟨a0, a1, a2⟩ :: xs).flatMap Rot.row) := by rw [List.flatMap_cons]; exact (.d (.d (.d h)))
theorem Stp.row_mk (a0 : Int) (a1 : Int) : [(.int .i64 a0 : Cell), (.int .i64 a1 : Cell)] = Stp.row ⟨a0, a1⟩ := rfl
theorem Stp.v_mk (a0 : Int) (a1 : Int) : Stp.v ⟨a0, a1⟩ = .agg [.d (.int .i64 a0), .d (.int .i64 a1)] := rfl
theorem Stp.ar {a0 : Int} {a1 : Int} {xs : List Stp} {cs : List CV} (h : CvD cs (xs.flatMap Stp.row)) : CvD (.d (.int .i64 a0) :: .d (.int .i64 a1) :: cs) ((⟨a0, a1⟩ :: xs).flatMap Stp.row) := by rw [List.flatMap_cons]; exact (.d (.d h))
theorem Hnd.row_mk (a0 : Int) : [(.int .i64 a0 : Cell)] = Hnd.row ⟨a0⟩ := rfl
theorem Hnd.v_mk (a0 : Int) : Hnd.v ⟨a0⟩ = .agg [.d (.int .i64 a0)] := rfl
theorem Hnd.ar {a0 : Int} {xs : List Hnd} {cs : List CV} (h : CvD cs (xs.flatMap Hnd.row)) : CvD (.d (.int .i64 a0) :: cs) ((⟨a0⟩ :: xs).flatMap Hnd.row) := by rw [List.flatMap_cons]; exact (.d h)
def pCm (q : Csm → Bool) : List DV → Option Cell
  | [.agg [.int .i64 a, .bool b, .bool c]] => some (.bool (q ⟨a, b, c⟩))
  | _ => none
theorem fnCm {f : Nat} {caps : List CV} {q : Csm → Bool} (h : ∀ z : Csm, ICt f (z.v :: caps.map .one) (fun v => v = bv (q z))) (hn : CV.ntL caps = true := by rfl) : FnC f caps (pCm q) := by
  refine ⟨(h default).1, hn, ?_⟩
  intro args r hr
  unfold pCm at hr
  split at hr
  · cases hr; exact ⟨⟨_, rfl⟩, h ⟨_, _, _⟩⟩
  · cases hr
noncomputable def idxCm_V (l : List Csm) (q : Csm → Bool) (Q : SV → Prop) : Σ' P : Prop, (P → ICt 187 [.one (.d (.list (l.map Csm.row))), .one (.fn (pCm q))] Q) := by
  apply mkV; intro hP
  refine ic_wk (K 19) Try.func187 rfl rfl rfl rfl (fun w0 => ?_)
  repeat' (first
    | ((fail_if_success (have hTest : Hld False := hP)); (have hq := chk_c hP); (replace hP := chk_p hP))
    | ((with_reducible apply j_lst); exact rfl)
    | (with_reducible (first | apply c_seq | apply c_rg | apply j_nil | apply q_n | apply c_ct | apply c_cf | apply c_bl | apply c_ex | apply c_ret | apply c_sk | apply q_r | apply q_e | apply b_r | apply b_e | apply b_n | apply n_n | apply n_r | apply n_e))
    | ((with_reducible apply v_lenstr); exact rfl; exact rfl; kernel_rfl)
    | ((with_reducible apply c_l1); exact rfl; exact rfl)
    | ((with_reducible apply c_l2); exact rfl; exact rfl)
    | ((with_reducible apply c_l3); exact rfl)
    | ((with_reducible apply j_v); exact rfl; exact rfl)
    | ((with_reducible apply v_lenm); exact rfl; exact rfl; exact rfl; (exact hP); clear hP; intro hP)
    | ((with_reducible apply v_lens); exact rfl; exact rfl; exact rfl; (exact hP); clear hP; intro hP)
    | ((with_reducible apply j_len); exact rfl; exact rfl; exact rfl)
    | ((with_reducible apply j_len0); exact rfl; exact rfl; exact rfl)
    | ((with_reducible apply j_ld_el1); exact rfl; exact rfl; exact rfl; exact rfl; (first | with_reducible assumption | exact gt_row (by omega) (by omega) | exact rfl); exact rfl)
    | ((with_reducible apply j_add); exact rfl; exact rfl; exact rfl; (first | (with_reducible apply wr_i64; (first | with_reducible assumption | (apply chk_c; exact hP; (first | (guard_target = Prop; rotate_left 1) | skip)))) | exact rfl))
    | ((with_reducible apply v_ia); exact rfl; exact rfl; exact rfl; exact rfl; (case inst => exact inferInstance); exact rfl; exact rfl; (first | with_reducible assumption | (apply chk_c; exact hP; (first | (guard_target = Prop; rotate_left 1) | skip))))
    | ((with_reducible apply v_iasl); exact rfl; exact rfl; exact rfl; exact rfl; (first | with_reducible assumption | (apply chk_c; exact hP; (first | (guard_target = Prop; rotate_left 1) | skip))))
    | ((with_reducible apply j_ia_ar); exact rfl; exact rfl; exact rfl; exact rfl; ((repeat ((fail_if_success (have hTest : Hld False := hP)); (have hq := chk_c hP); (replace hP := chk_p hP))); first | with_reducible assumption | (apply chk_c; exact hP; (first | (guard_target = Prop; rotate_left 1) | skip))); ((repeat ((fail_if_success (have hTest : Hld False := hP)); (have hq := chk_c hP); (replace hP := chk_p hP))); first | with_reducible assumption | (apply chk_c; exact hP; (first | (guard_target = Prop; rotate_left 1) | skip))); (first | with_reducible exact Int.toNat_natCast _ | exact rfl))
    | ((with_reducible apply c_c); exact rfl; (first | with_reducible assumption | with_reducible exact Eq.refl true | with_reducible exact Eq.refl false | (with_reducible refine not_t ?_; with_reducible assumption) | (with_reducible refine not_f ?_; with_reducible assumption) | (refine dec_t ?_; decide) | (refine dec_f ?_; decide)))
    | ((with_reducible apply b_o); exact rfl)
    | ((with_reducible apply r_g); exact rfl; (· repeat' (first | exact True.intro | refine And.intro ?_ ?_ | (show (_ : Nat) = _; (first | exact rfl | exact (List.length_map _).symm | omega | (simp only [List.length_set, List.length_map, List.length_append] <;> omega) | (simp; done))))); (exact hP.out))
    | ((apply (j_callf (args := [.agg [.int .i64 _, .bool _, .bool _]]))); exact rfl; exact rfl; exact ⟨rfl, trivial⟩; (refine if_pos ?_; (first | with_reducible assumption | (apply chk_c; exact hP; (first | (guard_target = Prop; rotate_left 1) | skip)))); (first | (focus (intro _ _ h; cases h; done)) | (focus (intro _ _ h; cases h; exact sg3_wf _))); exact (fun _ h => by cases h))
    | ((apply (j_callf (args := [.agg [.int .i64 _, .bool _, .bool _]]))); exact rfl; exact rfl; exact ⟨rfl, trivial⟩; exact rfl; (first | (focus (intro _ _ h; cases h; done)) | (focus (intro _ _ h; cases h; exact sg3_wf _))); exact (fun _ h => by cases h))
    | ((with_reducible refine v_loopat (c := (.seq (.region 2 _ _) _)) ?_); (apply (v_loop1 _ [0, 1, 7] [] (fun x1 => [(8, .one (.d (.int .i64 x1)))]) (fun x1 => []) [])); exact rfl; exact rfl; exact ⟨(by repeat' (first | exact .nil | exact .nil _ | refine .cons ?_ ?_ | exact .u _ | exact SVle_pl rfl | refine .one ?_ | refine .agg ?_ | exact .d rfl | exact .ref rfl rfl | exact .sl rfl (by first | rfl | omega | (rw [List.length_append, List.length_map]; show _ + 1 = _; omega) | simp) | exact .fn _ | exact .tape | exact .nils rfl | exact .nild | exact .nildm | exact .nil | exact .rp (by simp) | exact .clo (by simp) | exact .el rfl rfl rfl | exact .d (by first | rfl | (congr 1; omega) | (congr 1; assumption) | simp) | exact .virt rfl | exact .gone _ | refine .blk rfl ?_ | exact .arr rfl (by first | rfl | assumption | simp))), (by repeat' (first | exact .nil | exact .nil _ | refine .cons ?_ ?_ | exact .u _ | exact SVle_pl rfl | refine .one ?_ | refine .agg ?_ | exact .d rfl | exact .ref rfl rfl | exact .sl rfl (by first | rfl | omega | (rw [List.length_append, List.length_map]; show _ + 1 = _; omega) | simp) | exact .fn _ | exact .tape | exact .nils rfl | exact .nild | exact .nildm | exact .nil | exact .rp (by simp) | exact .clo (by simp) | exact .el rfl rfl rfl | exact .d (by first | rfl | (congr 1; omega) | (congr 1; assumption) | simp) | exact .virt rfl | exact .gone _ | refine .blk rfl ?_ | exact .arr rfl (by first | rfl | assumption | simp)))⟩; (exact hP); clear hP; intro I μ x1 hP)
    | ((with_reducible apply (v_nxt1 (a1 := _))); (repeat' (first | exact .nil | exact .nil _ | refine .cons ?_ ?_ | exact .u _ | exact SVle_pl rfl | refine .one ?_ | refine .agg ?_ | exact .d rfl | exact .ref rfl rfl | exact .sl rfl (by first | rfl | exact List.length_set.symm | exact (splT_len (by simp only [List.length_take, List.length_drop]; omega)).symm | omega | (rw [List.length_append, List.length_map]; show _ + 1 = _; omega) | simp) | exact .fn _ | exact .tape | exact .nils rfl | exact .nild | exact .nildm | exact .nil | exact .rp (by simp) | exact .clo (by simp) | exact .el rfl rfl rfl | exact .d (by first | rfl | (congr 1; omega) | (congr 1; assumption) | simp) | exact .virt rfl | exact .gone _ | refine .blk rfl ?_ | exact .arr rfl (by first | rfl | assumption | simp))); (repeat' (first | exact .nil | exact .nil _ | refine .cons ?_ ?_ | exact .u _ | exact SVle_pl rfl | refine .one ?_ | refine .agg ?_ | exact .d rfl | exact .ref rfl rfl | exact .sl rfl (by first | rfl | exact List.length_set.symm | exact (splT_len (by simp only [List.length_take, List.length_drop]; omega)).symm | omega | (rw [List.length_append, List.length_map]; show _ + 1 = _; omega) | simp) | exact .fn _ | exact .tape | exact .nils rfl | exact .nild | exact .nildm | exact .nil | exact .rp (by simp) | exact .clo (by simp) | exact .el rfl rfl rfl | exact .d (by first | rfl | (congr 1; omega) | (congr 1; assumption) | simp) | exact .virt rfl | exact .gone _ | refine .blk rfl ?_ | exact .arr rfl (by first | rfl | assumption | simp))); (exact hP))
    | ((with_reducible apply v_gs); exact rfl; exact rfl; (exact hP); all_goals (clear hP; intro hg hP))
    | ((with_reducible apply v_if); exact rfl; (exact hP); all_goals (clear hP; intro hc hP)))
theorem idxCm_ic (l : List Csm) (q : Csm → Bool) : ICt 187 [.one (.d (.list (l.map Csm.row))), .one (.fn (pCm q))] (fun v => v = iv (idxOf q l)) := (idxCm_V l q _).2 (by
  (delta idxCm_V; dsimp only [mkV])
  (repeat' (first | with_reducible refine brn_nd (fun h => ?_) (fun h => ?_) | with_reducible refine brn_d (fun h => ?_) (fun h => ?_) | with_reducible refine brn_nn (fun h => ?_) (fun h => ?_) | with_reducible refine brn_nb (fun h => ?_) (fun h => ?_) | with_reducible refine Brn.mk (fun h => ?_) (fun h => ?_) | with_reducible refine Chk.mk ?_ ?_ | with_reducible refine Bth.mk ?_ ?_ | with_reducible refine Fct.mk (fun hf => ?_)))
  refine ⟨fun x1 => 0 ≤ x1 ∧ x1 ≤ l.length ∧ ∀ j (hj : j < l.length), (j : Int) < x1 → q l[j] = false, fun x1 => (l.length - x1).toNat, ⟨by omega, by omega, fun j hj h => by omega⟩, fun x1 ⟨h1, h2, h3⟩ => ?_⟩
  (repeat' (first | with_reducible refine brn_nd (fun h => ?_) (fun h => ?_) | with_reducible refine brn_d (fun h => ?_) (fun h => ?_) | with_reducible refine brn_nn (fun h => ?_) (fun h => ?_) | with_reducible refine brn_nb (fun h => ?_) (fun h => ?_) | with_reducible refine Brn.mk (fun h => ?_) (fun h => ?_) | with_reducible refine Chk.mk ?_ ?_ | with_reducible refine Bth.mk ?_ ?_ | with_reducible refine Fct.mk (fun hf => ?_)))
  · omega
  · rename_i hlt
    have hx : x1.toNat < l.length := by omega
    have hq' : q (gt l x1) = true := h
    rw [gt_eq hx] at hq'
    have := idxOf_at hx hq' fun j hj => h3 j (by omega) (by omega)
    rw [this, Int.toNat_of_nonneg h1]
  · unfold InI; omega
  · rename_i hlt
    have hx : x1.toNat < l.length := by omega
    have hq' : q (gt l x1) = false := h
    rw [gt_eq hx] at hq'
    refine ⟨⟨by omega, by omega, fun j hj h => ?_⟩, by dsimp only; omega⟩
    by_cases e : (j : Int) < x1
    · exact h3 j hj e
    · have : j = x1.toNat := by omega
      subst this
      simpa using hq'
  · rw [idxOf_none fun x hx => by
      obtain ⟨j, hj, rfl⟩ := List.getElem_of_mem hx
      exact h3 j hj (by omega)])
noncomputable def hasCm_V (l : List Csm) (q : Csm → Bool) (Q : SV → Prop) : Σ' P : Prop, (P → ICt 162 [.one (.d (.list (l.map Csm.row))), .one (.fn (pCm q))] Q) := by
  apply mkV; intro hP
  refine ic_wk (K 9) Try.func162 rfl rfl rfl rfl (fun w0 => ?_)
  repeat' (first
    | ((fail_if_success (have hTest : Hld False := hP)); (have hq := chk_c hP); (replace hP := chk_p hP))
    | ((with_reducible apply j_lst); exact rfl)
    | (with_reducible (first | apply c_seq | apply c_rg | apply j_nil | apply q_n | apply c_bl | apply c_ex | apply c_ret | apply c_sk | apply q_r | apply q_e | apply b_r | apply b_e | apply b_n | apply n_n | apply n_r | apply n_e))
    | ((with_reducible apply c_l1); exact rfl; exact rfl)
    | ((with_reducible apply c_l2); exact rfl; exact rfl)
    | ((with_reducible apply c_l3); exact rfl)
    | ((with_reducible apply j_v); exact rfl; exact rfl)
    | ((with_reducible apply b_o); exact rfl)
    | ((with_reducible apply r_g); exact rfl; (· repeat' (first | exact True.intro | refine And.intro ?_ ?_ | (show (_ : Nat) = _; (first | exact rfl | exact (List.length_map _).symm | omega | (simp only [List.length_set, List.length_map, List.length_append] <;> omega) | (simp; done))))); (exact hP.out))
    | ((with_reducible apply j_call (pu := false)); exact rfl; (first | (apply (idxCm_ic _ _); rotate_left 2)); (focus ((repeat' (first | exact .nil _ | refine PsL.cons ?_ ?_ | refine PsSL.cons ?_ ?_ | exact .one (.d _ _) | exact .one psc_nilm | exact psc_nilm | exact .one (.nil _) | exact .one (.nn _) | exact .one (.tape _) | exact .one (.fn _ _) | exact .agg (.same _ _) | refine .agg ?_ | exact .d _ _ | exact .one (.sl rfl rfl) | exact .one (.sl rfl (List.length_map _).symm) | exact .sl rfl rfl | exact .sl rfl (List.length_map _).symm | exact .same _ _)) <;> fail)); exact .inr rfl)
    | ((with_reducible apply v_gs); exact rfl; exact rfl; (exact hP); all_goals (clear hP; intro hg hP))
    | ((with_reducible apply v_if); exact rfl; (exact hP); all_goals (clear hP; intro hc hP)))
theorem hasCm_ic (l : List Csm) (q : Csm → Bool) : ICt 162 [.one (.d (.list (l.map Csm.row))), .one (.fn (pCm q))] (fun v => v = bv (l.any q)) := (hasCm_V l q _).2 (by
  (delta hasCm_V; dsimp only [mkV])
  (repeat' (first | with_reducible refine brn_nd (fun h => ?_) (fun h => ?_) | with_reducible refine brn_d (fun h => ?_) (fun h => ?_) | with_reducible refine brn_nn (fun h => ?_) (fun h => ?_) | with_reducible refine brn_nb (fun h => ?_) (fun h => ?_) | with_reducible refine Brn.mk (fun h => ?_) (fun h => ?_) | with_reducible refine Chk.mk ?_ ?_ | with_reducible refine Bth.mk ?_ ?_ | with_reducible refine Fct.mk (fun hf => ?_)))
  all_goals exact congrArg bv (idxOf_ge q l))
def pUt (q : Unt → Bool) : List DV → Option Cell
  | [.agg [.bool a, .int .i64 b, .int .i64 c]] => some (.bool (q ⟨a, b, c⟩))
  | _ => none
theorem fnUt {f : Nat} {caps : List CV} {q : Unt → Bool} (h : ∀ z : Unt, ICt f (z.v :: caps.map .one) (fun v => v = bv (q z))) (hn : CV.ntL caps = true := by rfl) : FnC f caps (pUt q) := by
  refine ⟨(h default).1, hn, ?_⟩
  intro args r hr
  unfold pUt at hr
  split at hr
  · cases hr; exact ⟨⟨_, rfl⟩, h ⟨_, _, _⟩⟩
  · cases hr
noncomputable def idxUt_V (l : List Unt) (q : Unt → Bool) (Q : SV → Prop) : Σ' P : Prop, (P → ICt 139 [.one (.d (.list (l.map Unt.row))), .one (.fn (pUt q))] Q) := by
  apply mkV; intro hP
  refine ic_wk (K 19) Try.func139 rfl rfl rfl rfl (fun w0 => ?_)
  repeat' (first
    | ((fail_if_success (have hTest : Hld False := hP)); (have hq := chk_c hP); (replace hP := chk_p hP))
    | ((with_reducible apply j_lst); exact rfl)
    | (with_reducible (first | apply c_seq | apply c_rg | apply j_nil | apply q_n | apply c_ct | apply c_cf | apply c_bl | apply c_ex | apply c_ret | apply c_sk | apply q_r | apply q_e | apply b_r | apply b_e | apply b_n | apply n_n | apply n_r | apply n_e))
    | ((with_reducible apply v_lenstr); exact rfl; exact rfl; kernel_rfl)
    | ((with_reducible apply c_l1); exact rfl; exact rfl)
    | ((with_reducible apply c_l2); exact rfl; exact rfl)
    | ((with_reducible apply c_l3); exact rfl)
    | ((with_reducible apply j_v); exact rfl; exact rfl)
    | ((with_reducible apply v_lenm); exact rfl; exact rfl; exact rfl; (exact hP); clear hP; intro hP)
    | ((with_reducible apply v_lens); exact rfl; exact rfl; exact rfl; (exact hP); clear hP; intro hP)
    | ((with_reducible apply j_len); exact rfl; exact rfl; exact rfl)
    | ((with_reducible apply j_len0); exact rfl; exact rfl; exact rfl)
    | ((with_reducible apply j_ld_el1); exact rfl; exact rfl; exact rfl; exact rfl; (first | with_reducible assumption | exact gt_row (by omega) (by omega) | exact rfl); exact rfl)
    | ((with_reducible apply j_add); exact rfl; exact rfl; exact rfl; (first | (with_reducible apply wr_i64; (first | with_reducible assumption | (apply chk_c; exact hP; (first | (guard_target = Prop; rotate_left 1) | skip)))) | exact rfl))
    | ((with_reducible apply v_ia); exact rfl; exact rfl; exact rfl; exact rfl; (case inst => exact inferInstance); exact rfl; exact rfl; (first | with_reducible assumption | (apply chk_c; exact hP; (first | (guard_target = Prop; rotate_left 1) | skip))))
    | ((with_reducible apply v_iasl); exact rfl; exact rfl; exact rfl; exact rfl; (first | with_reducible assumption | (apply chk_c; exact hP; (first | (guard_target = Prop; rotate_left 1) | skip))))
    | ((with_reducible apply j_ia_ar); exact rfl; exact rfl; exact rfl; exact rfl; ((repeat ((fail_if_success (have hTest : Hld False := hP)); (have hq := chk_c hP); (replace hP := chk_p hP))); first | with_reducible assumption | (apply chk_c; exact hP; (first | (guard_target = Prop; rotate_left 1) | skip))); ((repeat ((fail_if_success (have hTest : Hld False := hP)); (have hq := chk_c hP); (replace hP := chk_p hP))); first | with_reducible assumption | (apply chk_c; exact hP; (first | (guard_target = Prop; rotate_left 1) | skip))); (first | with_reducible exact Int.toNat_natCast _ | exact rfl))
    | ((with_reducible apply c_c); exact rfl; (first | with_reducible assumption | with_reducible exact Eq.refl true | with_reducible exact Eq.refl false | (with_reducible refine not_t ?_; with_reducible assumption) | (with_reducible refine not_f ?_; with_reducible assumption) | (refine dec_t ?_; decide) | (refine dec_f ?_; decide)))
    | ((with_reducible apply b_o); exact rfl)
    | ((with_reducible apply r_g); exact rfl; (· repeat' (first | exact True.intro | refine And.intro ?_ ?_ | (show (_ : Nat) = _; (first | exact rfl | exact (List.length_map _).symm | omega | (simp only [List.length_set, List.length_map, List.length_append] <;> omega) | (simp; done))))); (exact hP.out))
    | ((apply (j_callf (args := [.agg [.bool _, .int .i64 _, .int .i64 _]]))); exact rfl; exact rfl; exact ⟨rfl, trivial⟩; (refine if_pos ?_; (first | with_reducible assumption | (apply chk_c; exact hP; (first | (guard_target = Prop; rotate_left 1) | skip)))); (first | (focus (intro _ _ h; cases h; done)) | (focus (intro _ _ h; cases h; exact sg3_wf _))); exact (fun _ h => by cases h))
    | ((apply (j_callf (args := [.agg [.bool _, .int .i64 _, .int .i64 _]]))); exact rfl; exact rfl; exact ⟨rfl, trivial⟩; exact rfl; (first | (focus (intro _ _ h; cases h; done)) | (focus (intro _ _ h; cases h; exact sg3_wf _))); exact (fun _ h => by cases h))
    | ((with_reducible refine v_loopat (c := (.seq (.region 2 _ _) _)) ?_); (apply (v_loop1 _ [0, 1, 7] [] (fun x1 => [(8, .one (.d (.int .i64 x1)))]) (fun x1 => []) [])); exact rfl; exact rfl; exact ⟨(by repeat' (first | exact .nil | exact .nil _ | refine .cons ?_ ?_ | exact .u _ | exact SVle_pl rfl | refine .one ?_ | refine .agg ?_ | exact .d rfl | exact .ref rfl rfl | exact .sl rfl (by first | rfl | omega | (rw [List.length_append, List.length_map]; show _ + 1 = _; omega) | simp) | exact .fn _ | exact .tape | exact .nils rfl | exact .nild | exact .nildm | exact .nil | exact .rp (by simp) | exact .clo (by simp) | exact .el rfl rfl rfl | exact .d (by first | rfl | (congr 1; omega) | (congr 1; assumption) | simp) | exact .virt rfl | exact .gone _ | refine .blk rfl ?_ | exact .arr rfl (by first | rfl | assumption | simp))), (by repeat' (first | exact .nil | exact .nil _ | refine .cons ?_ ?_ | exact .u _ | exact SVle_pl rfl | refine .one ?_ | refine .agg ?_ | exact .d rfl | exact .ref rfl rfl | exact .sl rfl (by first | rfl | omega | (rw [List.length_append, List.length_map]; show _ + 1 = _; omega) | simp) | exact .fn _ | exact .tape | exact .nils rfl | exact .nild | exact .nildm | exact .nil | exact .rp (by simp) | exact .clo (by simp) | exact .el rfl rfl rfl | exact .d (by first | rfl | (congr 1; omega) | (congr 1; assumption) | simp) | exact .virt rfl | exact .gone _ | refine .blk rfl ?_ | exact .arr rfl (by first | rfl | assumption | simp)))⟩; (exact hP); clear hP; intro I μ x1 hP)
    | ((with_reducible apply (v_nxt1 (a1 := _))); (repeat' (first | exact .nil | exact .nil _ | refine .cons ?_ ?_ | exact .u _ | exact SVle_pl rfl | refine .one ?_ | refine .agg ?_ | exact .d rfl | exact .ref rfl rfl | exact .sl rfl (by first | rfl | exact List.length_set.symm | exact (splT_len (by simp only [List.length_take, List.length_drop]; omega)).symm | omega | (rw [List.length_append, List.length_map]; show _ + 1 = _; omega) | simp) | exact .fn _ | exact .tape | exact .nils rfl | exact .nild | exact .nildm | exact .nil | exact .rp (by simp) | exact .clo (by simp) | exact .el rfl rfl rfl | exact .d (by first | rfl | (congr 1; omega) | (congr 1; assumption) | simp) | exact .virt rfl | exact .gone _ | refine .blk rfl ?_ | exact .arr rfl (by first | rfl | assumption | simp))); (repeat' (first | exact .nil | exact .nil _ | refine .cons ?_ ?_ | exact .u _ | exact SVle_pl rfl | refine .one ?_ | refine .agg ?_ | exact .d rfl | exact .ref rfl rfl | exact .sl rfl (by first | rfl | exact List.length_set.symm | exact (splT_len (by simp only [List.length_take, List.length_drop]; omega)).symm | omega | (rw [List.length_append, List.length_map]; show _ + 1 = _; omega) | simp) | exact .fn _ | exact .tape | exact .nils rfl | exact .nild | exact .nildm | exact .nil | exact .rp (by simp) | exact .clo (by simp) | exact .el rfl rfl rfl | exact .d (by first | rfl | (congr 1; omega) | (congr 1; assumption) | simp) | exact .virt rfl | exact .gone _ | refine .blk rfl ?_ | exact .arr rfl (by first | rfl | assumption | simp))); (exact hP))
    | ((with_reducible apply v_gs); exact rfl; exact rfl; (exact hP); all_goals (clear hP; intro hg hP))
    | ((with_reducible apply v_if); exact rfl; (exact hP); all_goals (clear hP; intro hc hP)))
theorem idxUt_ic (l : List Unt) (q : Unt → Bool) : ICt 139 [.one (.d (.list (l.map Unt.row))), .one (.fn (pUt q))] (fun v => v = iv (idxOf q l)) := (idxUt_V l q _).2 (by
  (delta idxUt_V; dsimp only [mkV])
  (repeat' (first | with_reducible refine brn_nd (fun h => ?_) (fun h => ?_) | with_reducible refine brn_d (fun h => ?_) (fun h => ?_) | with_reducible refine brn_nn (fun h => ?_) (fun h => ?_) | with_reducible refine brn_nb (fun h => ?_) (fun h => ?_) | with_reducible refine Brn.mk (fun h => ?_) (fun h => ?_) | with_reducible refine Chk.mk ?_ ?_ | with_reducible refine Bth.mk ?_ ?_ | with_reducible refine Fct.mk (fun hf => ?_)))
  refine ⟨fun x1 => 0 ≤ x1 ∧ x1 ≤ l.length ∧ ∀ j (hj : j < l.length), (j : Int) < x1 → q l[j] = false, fun x1 => (l.length - x1).toNat, ⟨by omega, by omega, fun j hj h => by omega⟩, fun x1 ⟨h1, h2, h3⟩ => ?_⟩
  (repeat' (first | with_reducible refine brn_nd (fun h => ?_) (fun h => ?_) | with_reducible refine brn_d (fun h => ?_) (fun h => ?_) | with_reducible refine brn_nn (fun h => ?_) (fun h => ?_) | with_reducible refine brn_nb (fun h => ?_) (fun h => ?_) | with_reducible refine Brn.mk (fun h => ?_) (fun h => ?_) | with_reducible refine Chk.mk ?_ ?_ | with_reducible refine Bth.mk ?_ ?_ | with_reducible refine Fct.mk (fun hf => ?_)))
  · omega
  · rename_i hlt
    have hx : x1.toNat < l.length := by omega
    have hq' : q (gt l x1) = true := h
    rw [gt_eq hx] at hq'
    have := idxOf_at hx hq' fun j hj => h3 j (by omega) (by omega)
    rw [this, Int.toNat_of_nonneg h1]
  · unfold InI; omega
  · rename_i hlt
    have hx : x1.toNat < l.length := by omega
    have hq' : q (gt l x1) = false := h
    rw [gt_eq hx] at hq'
    refine ⟨⟨by omega, by omega, fun j hj h => ?_⟩, by dsimp only; omega⟩
    by_cases e : (j : Int) < x1
    · exact h3 j hj e
    · have : j = x1.toNat := by omega
      subst this
      simpa using hq'
  · rw [idxOf_none fun x hx => by
      obtain ⟨j, hj, rfl⟩ := List.getElem_of_mem hx
      exact h3 j hj (by omega)])
noncomputable def hasUt_V (l : List Unt) (q : Unt → Bool) (Q : SV → Prop) : Σ' P : Prop, (P → ICt 86 [.one (.d (.list (l.map Unt.row))), .one (.fn (pUt q))] Q) := by
  apply mkV; intro hP
  refine ic_wk (K 9) Try.func86 rfl rfl rfl rfl (fun w0 => ?_)
  repeat' (first
    | ((fail_if_success (have hTest : Hld False := hP)); (have hq := chk_c hP); (replace hP := chk_p hP))
    | ((with_reducible apply j_lst); exact rfl)
    | (with_reducible (first | apply c_seq | apply c_rg | apply j_nil | apply q_n | apply c_bl | apply c_ex | apply c_ret | apply c_sk | apply q_r | apply q_e | apply b_r | apply b_e | apply b_n | apply n_n | apply n_r | apply n_e))
    | ((with_reducible apply c_l1); exact rfl; exact rfl)
    | ((with_reducible apply c_l2); exact rfl; exact rfl)
    | ((with_reducible apply c_l3); exact rfl)
    | ((with_reducible apply j_v); exact rfl; exact rfl)
    | ((with_reducible apply b_o); exact rfl)
    | ((with_reducible apply r_g); exact rfl; (· repeat' (first | exact True.intro | refine And.intro ?_ ?_ | (show (_ : Nat) = _; (first | exact rfl | exact (List.length_map _).symm | omega | (simp only [List.length_set, List.length_map, List.length_append] <;> omega) | (simp; done))))); (exact hP.out))
    | ((with_reducible apply j_call (pu := false)); exact rfl; (first | (apply (idxUt_ic _ _); rotate_left 2)); (focus ((repeat' (first | exact .nil _ | refine PsL.cons ?_ ?_ | refine PsSL.cons ?_ ?_ | exact .one (.d _ _) | exact .one psc_nilm | exact psc_nilm | exact .one (.nil _) | exact .one (.nn _) | exact .one (.tape _) | exact .one (.fn _ _) | exact .agg (.same _ _) | refine .agg ?_ | exact .d _ _ | exact .one (.sl rfl rfl) | exact .one (.sl rfl (List.length_map _).symm) | exact .sl rfl rfl | exact .sl rfl (List.length_map _).symm | exact .same _ _)) <;> fail)); exact .inr rfl)
    | ((with_reducible apply v_gs); exact rfl; exact rfl; (exact hP); all_goals (clear hP; intro hg hP))
    | ((with_reducible apply v_if); exact rfl; (exact hP); all_goals (clear hP; intro hc hP)))
theorem hasUt_ic (l : List Unt) (q : Unt → Bool) : ICt 86 [.one (.d (.list (l.map Unt.row))), .one (.fn (pUt q))] (fun v => v = bv (l.any q)) := (hasUt_V l q _).2 (by
  (delta hasUt_V; dsimp only [mkV])
  (repeat' (first | with_reducible refine brn_nd (fun h => ?_) (fun h => ?_) | with_reducible refine brn_d (fun h => ?_) (fun h => ?_) | with_reducible refine brn_nn (fun h => ?_) (fun h => ?_) | with_reducible refine brn_nb (fun h => ?_) (fun h => ?_) | with_reducible refine Brn.mk (fun h => ?_) (fun h => ?_) | with_reducible refine Chk.mk ?_ ?_ | with_reducible refine Bth.mk ?_ ?_ | with_reducible refine Fct.mk (fun hf => ?_)))
  all_goals exact congrArg bv (idxOf_ge q l))
end Go.Proofs.Ytcbppkfnfbdkhaa
