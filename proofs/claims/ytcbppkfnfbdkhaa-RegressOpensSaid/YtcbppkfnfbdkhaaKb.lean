/- Regress: an exact rule. -/
import Derived.Test.YtcbppkfnfbdkhaaKa
set_option linter.all false
set_option maxRecDepth 20000
set_option maxHeartbeats 4000000
namespace Go.Proofs.Ytcbppkfnfbdkhaa
open Go.RowKit Go.Shelf
def xL (kn pa : ByteArray) (pr : Int) : List Trm := [⟨1, kn, 0, 0, []⟩, ⟨7, ⟨#[]⟩, 0, pr, []⟩, ⟨2, pa, 0, 0, []⟩, ⟨3, pa, 0, 0, []⟩]
def xR (name kn pa : ByteArray) (pr : Int) : Rul := ⟨name, ⟨10, ⟨#[]⟩, 0, 0, (xL kn pa pr).map Trm.row⟩, 2⟩
theorem leaf_tre (op : Int) (tx : ByteArray) (nu pr : Int) : (Trm.mk op tx nu pr []).tre = .mk op tx nu pr [] := Trm.tre_mk (ts := []) (fun k hk => by cases hk)
theorem quB_sz {s : ByteArray} (h : quB s = true) : s.size ≤ 40 := by
  unfold quB at h
  simp only [Bool.and_eq_true, decide_eq_true_eq] at h
  omega
theorem xL_m {kn pa : ByteArray} {pr : Int} (h1 : quB kn = true) (h2 : quB pa = true) : ∀ k ∈ xL kn pa pr, TrmM 1 k := fun k hk => by
  have z1 := quB_sz h1
  have z2 := quB_sz h2
  unfold xL at hk
  simp only [List.mem_cons, List.not_mem_nil, or_false] at hk
  rcases hk with rfl | rfl | rfl | rfl
  · exact trm_leaf (by omega) (by omega) (by unfold okF; simp [h1])
  · exact trm_leaf (by omega) (by show (0 : Nat) ≤ _; omega) (by unfold okF; simp)
  · exact trm_leaf (by omega) (by omega) (by unfold okF; simp [h2])
  · exact trm_leaf (by omega) (by omega) (by unfold okF; simp [h2])
theorem xR_ok {name kn pa : ByteArray} {pr : Int} (hn : nmB name = true) (hz : name.size ≤ 1000000000) (h1 : quB kn = true) (h2 : quB pa = true) : RulOk [xR name kn pa pr] := by
  have hm := xL_m (pr := pr) h1 h2
  have hok : ∀ k ∈ xL kn pa pr, k.ok := fun k hk => (hm k hk).1
  have ht : (xR name kn pa pr).wh.tre = .mk 10 ⟨#[]⟩ 0 0 ((xL kn pa pr).map Trm.tre) := Trm.tre_mk hok
  have e : (xL kn pa pr).map Trm.tre = [.mk 1 kn 0 0 [], .mk 7 ⟨#[]⟩ 0 pr [], .mk 2 pa 0 0 [], .mk 3 pa 0 0 []] := by unfold xL; simp only [List.map_cons, List.map_nil, leaf_tre]
  have hs : (xR name kn pa pr).wh.tre.size = 5 := by rw [ht, e]; simp [Tre.size_mk]
  have hd : (xR name kn pa pr).wh.tre.deep = 2 := by rw [ht, e]; simp [Tre.deep_mk]
  have hr : rtS (xR name kn pa pr).wh = true := by
    show rtS ⟨10, ⟨#[]⟩, 0, 0, (xL kn pa pr).map Trm.row⟩ = true
    rw [rtS_mk hok]
    have : (xL kn pa pr).any (fun k => !rtS k) = false := List.any_eq_false.2 fun k hk => by simp [(hm k hk).2.1]
    rw [this]
    unfold okF xL; simp
  have h9 : (xR name kn pa pr).wh.ok := Trm.ok_mk (by show (0 : Nat) ≤ _; omega) hok
  refine ⟨by simp, fun r hr' => ?_, by simp⟩
  rw [List.mem_singleton] at hr'; subst hr'
  refine ⟨hz, h9, ?_⟩
  have ht0 : teS (xR name kn pa pr).wh = 0 := by
    have a1 : tmS (xR name kn pa pr).wh = (min 61 5 : Nat) := by unfold tmS; rw [hs]
    have a2 : dpS (xR name kn pa pr).wh 20 = min ((2 : Nat) : Int) (20 + 1) := by unfold dpS; rw [hd]
    unfold teS
    rw [if_neg (by rw [a1]; omega), if_neg (by rw [a2]; omega), if_pos hr]
  unfold ckS
  rw [if_pos (show nmB (xR name kn pa pr).nm = true from hn), if_pos ht0, if_pos (.inr rfl)]
theorem xR_holds {name kn pa : ByteArray} {pr : Int} {kinds : List Knd} {f : Fnd} {s : Spt} (h1 : quB kn = true) (h2 : quB pa = true) (hk : 0 ≤ f.kd ∧ f.kd < kinds.length) (hn : (gt kinds f.kd).nm = kn) (hp : s.pl.pa = pa) (hr : f.pr = pr) : rho kinds f s (xR name kn pa pr) = true := by
  have hok : ∀ k ∈ xL kn pa pr, k.ok := fun k hk => (xL_m (pr := pr) h1 h2 k hk).1
  have leaf : ∀ (op : Int) (tx : ByteArray) (nu pr : Int), hoS kinds f s ⟨op, tx, nu, pr, []⟩ = hoF kinds f s op tx nu pr [] := fun op tx nu pr => hoS_mk kinds f s (ts := []) (fun k hk => by cases hk)
  show hoS kinds f s ⟨10, ⟨#[]⟩, 0, 0, (xL kn pa pr).map Trm.row⟩ = true
  rw [hoS_mk kinds f s hok]
  have e : (xL kn pa pr).map (hoS kinds f s) = [true, true, true, true] := by
    unfold xL
    simp only [List.map_cons, List.map_nil, leaf]
    unfold hoF
    simp [hk, hn, hp, hr, preB_self, sufB_self]
  rw [e]
  unfold hoF
  simp
theorem xR_judge {name kn pa : ByteArray} {pr : Int} {kinds : List Knd} {f : Fnd} {s : Spt} (h : rho kinds f s (xR name kn pa pr) = true) : decN [xR name kn pa pr] kinds f s = 0 ∧ decV [xR name kn pa pr] kinds f s = 2 := by
  have h0 : decN [xR name kn pa pr] kinds f s = 0 := by
    unfold decN
    exact idxOf_at (i := 0) (by simp) h (fun j hj => by omega)
  refine ⟨h0, ?_⟩
  unfold decV; rw [h0]; rfl
noncomputable def exact_V (f : List Fnd) (n : Int) (spot : Int) (kinds : List Knd) (name : ByteArray) (Q : SV → Prop) : Σ' P : Prop, (P → ICt 19 [.one (.d (.list (List.map Fnd.row f))), .one (.d (.int .i64 n)), .one (.d (.int .i64 spot)), .one (.d (.list (List.map Knd.row kinds))), .one (.d (.str name))] Q) := by
  apply mkV; intro hP
  refine ic_wk (K 103) Try.func19 rfl rfl rfl rfl (fun w0 => ?_)
  apply (v_kint (x := 1)); exact rfl; exact hP; clear hP; intro hP
  apply (v_kint (x := 2)); exact rfl; exact hP; clear hP; intro hP
  repeat' (first
    | ((fail_if_success (have hTest : Hld False := hP)); (have hq := chk_c hP); (replace hP := chk_p hP))
    | ((with_reducible apply j_lst); exact rfl)
    | (with_reducible (first | apply c_seq | apply c_rg | apply j_nil | apply q_n | apply g_tt | apply g_ff | apply c_ct | apply c_cf | apply c_bl | apply c_ex | apply c_ret | apply c_sk | apply q_r | apply q_e | apply b_r | apply b_e | apply b_n | apply n_n | apply n_r | apply n_e))
    | ((with_reducible apply (v_ldel (f := Fnd.row))); exact rfl; exact rfl; exact rfl; exact rfl; (case inst => exact inferInstance); exact rfl; (first | with_reducible assumption | (apply chk_c; exact hP; (first | (guard_target = Prop; rotate_left 1) | skip))))
    | ((with_reducible apply (v_ldel (f := Trm.row))); exact rfl; exact rfl; exact rfl; exact rfl; (case inst => exact inferInstance); exact rfl; (first | with_reducible assumption | (apply chk_c; exact hP; (first | (guard_target = Prop; rotate_left 1) | skip))))
    | ((with_reducible apply (v_ldel (f := Rul.row))); exact rfl; exact rfl; exact rfl; exact rfl; (case inst => exact inferInstance); exact rfl; (first | with_reducible assumption | (apply chk_c; exact hP; (first | (guard_target = Prop; rotate_left 1) | skip))))
    | ((with_reducible apply v_lenstr); exact rfl; exact rfl; kernel_rfl)
    | ((with_reducible apply c_l1); exact rfl; exact rfl)
    | ((with_reducible apply c_l2); exact rfl; exact rfl)
    | ((with_reducible apply c_l3); exact rfl)
    | ((with_reducible apply j_v); exact rfl; exact rfl)
    | ((with_reducible apply (v_bsf (d := 96) (Rul.row))); exact rfl; exact rfl; (focus (repeat' (first | exact row_nil | apply row_cons | exact Rul.row_mk _ _ _ _ _ _ _ | exact Rul.row_mk _ _ _ _ _ [] _ | exact Rul.row_mkr _ _ _ _ _ _ _))); exact rfl; exact rfl)
    | ((with_reducible apply (v_bs (Trm.row))); exact rfl; exact rfl; (focus (repeat' (first | exact row_nil | apply row_cons | exact Trm.row_mk _ _ _ _ _ | exact Trm.row_mk _ _ _ _ [] | exact Trm.row_mkr _ _ _ _ _))); exact rfl)
    | ((with_reducible apply (v_bs (Rul.row))); exact rfl; exact rfl; (focus (repeat' (first | exact row_nil | apply row_cons | exact Rul.row_mk _ _ _ _ _ _ _ | exact Rul.row_mk _ _ _ _ _ [] _ | exact Rul.row_mkr _ _ _ _ _ _ _))); exact rfl)
    | ((with_reducible apply j_h); exact rfl; exact rfl)
    | ((with_reducible apply j_s); exact rfl)
    | ((with_reducible apply j_g); exact rfl; exact rfl; (first | with_reducible assumption | with_reducible exact Eq.refl true | with_reducible exact Eq.refl false | (with_reducible refine not_t ?_; with_reducible assumption) | (with_reducible refine not_f ?_; with_reducible assumption) | (refine dec_t ?_; decide) | (refine dec_f ?_; decide)))
    | ((with_reducible apply g_tf); exact rfl)
    | ((with_reducible apply g_ft); exact rfl)
    | ((with_reducible apply j_gz); exact rfl; exact rfl; exact rfl)
    | ((with_reducible apply v_lenm); exact rfl; exact rfl; exact rfl; (exact hP); clear hP; intro hP)
    | ((with_reducible apply v_lens); exact rfl; exact rfl; exact rfl; (exact hP); clear hP; intro hP)
    | ((with_reducible apply j_len); exact rfl; exact rfl; exact rfl)
    | ((with_reducible apply j_len0); exact rfl; exact rfl; exact rfl)
    | ((with_reducible apply j_pk); exact rfl; exact rfl; (first | with_reducible assumption | with_reducible exact Eq.refl true | with_reducible exact Eq.refl false | (with_reducible refine not_t ?_; with_reducible assumption) | (with_reducible refine not_f ?_; with_reducible assumption) | (refine dec_t ?_; decide) | (refine dec_f ?_; decide)); exact rfl)
    | ((with_reducible apply j_ld_el1); exact rfl; exact rfl; exact rfl; exact rfl; (first | with_reducible assumption | exact gt_row (by omega) (by omega) | exact rfl); exact rfl)
    | ((with_reducible apply v_ia); exact rfl; exact rfl; exact rfl; exact rfl; (case inst => exact inferInstance); exact rfl; exact rfl; (first | with_reducible assumption | (apply chk_c; exact hP; (first | (guard_target = Prop; rotate_left 1) | skip))))
    | ((with_reducible apply v_iasl); exact rfl; exact rfl; exact rfl; exact rfl; (first | with_reducible assumption | (apply chk_c; exact hP; (first | (guard_target = Prop; rotate_left 1) | skip))))
    | ((with_reducible apply j_ia_ar); exact rfl; exact rfl; exact rfl; exact rfl; ((repeat ((fail_if_success (have hTest : Hld False := hP)); (have hq := chk_c hP); (replace hP := chk_p hP))); first | with_reducible assumption | (apply chk_c; exact hP; (first | (guard_target = Prop; rotate_left 1) | skip))); ((repeat ((fail_if_success (have hTest : Hld False := hP)); (have hq := chk_c hP); (replace hP := chk_p hP))); first | with_reducible assumption | (apply chk_c; exact hP; (first | (guard_target = Prop; rotate_left 1) | skip))); (first | with_reducible exact Int.toNat_natCast _ | exact rfl))
    | ((with_reducible apply c_c); exact rfl; (first | with_reducible assumption | with_reducible exact Eq.refl true | with_reducible exact Eq.refl false | (with_reducible refine not_t ?_; with_reducible assumption) | (with_reducible refine not_f ?_; with_reducible assumption) | (refine dec_t ?_; decide) | (refine dec_f ?_; decide)))
    | ((with_reducible apply b_o); exact rfl)
    | ((with_reducible apply r_g); exact rfl; (· repeat' (first | exact True.intro | refine And.intro ?_ ?_ | (show (_ : Nat) = _; (first | exact rfl | exact (List.length_map _).symm | omega | (simp only [List.length_set, List.length_map, List.length_append] <;> omega) | (simp; done))))); (exact hP.out))
    | ((with_reducible apply v_call (pu := false)); exact rfl; exact ⟨rfl, rfl⟩; (first | (apply (valid_ic _); rotate_left 1) | (apply (ordered_ic _); rotate_left 1)); (focus ((repeat' (first | exact .nil _ | refine PsL.cons ?_ ?_ | refine PsSL.cons ?_ ?_ | exact .one (.d _ _) | exact .one psc_nilm | exact psc_nilm | exact .one (.nil _) | exact .one (.nn _) | exact .one (.tape _) | exact .one (.fn _ _) | exact .agg (.same _ _) | refine .agg ?_ | exact .d _ _ | exact .one (.sl rfl rfl) | exact .one (.sl rfl (List.length_map _).symm) | exact .sl rfl rfl | exact .sl rfl (List.length_map _).symm | exact .same _ _)) <;> fail)); exact .inr rfl; (first | with_reducible assumption | (apply chk_c; exact hP; (first | (guard_target = Prop; rotate_left 1) | skip))))
    | ((with_reducible refine v_rgat (i := 5) ?_); (refine n_start (by kernel_rfl) ?_; (refine n_quiet (some [12]) #[true, true, true, true, true, true, true, true, true, true, true, true, true, true, true, true, true] [0, 1, 2, 3, 4, 5, 6, 7, 8, 9, 10, 11, 12, 13, 14, 15, 16] 0 rfl ?_; (repeat' (first | ((fail_if_success (have hTest : Hld False := hP)); (have hq := chk_c hP); (replace hP := chk_p hP)) | ((with_reducible apply (d_e (some []))); exact rfl; exact rfl; kernel_rfl; exact (by decide +kernel); exact rfl; exact rfl; (first | ((with_reducible apply e_v); exact rfl) | ((with_reducible apply e_ld_el1); exact rfl; exact rfl; exact rfl; (first | with_reducible assumption | exact gt_row (by omega) (by omega) | exact rfl); exact rfl) | ((with_reducible apply e_ld_eln); exact rfl; exact rfl; exact rfl; (first | with_reducible assumption | exact gt_row (by omega) (by omega) | exact rfl); exact Nat.le_of_ble_eq_true rfl) | ((with_reducible apply f_ia); exact rfl; exact rfl; exact rfl; (case inst => exact inferInstance); exact rfl; exact rfl; (first | with_reducible assumption | (apply chk_c; exact hP; (first | (guard_target = Prop; rotate_left 1) | skip)))) | ((with_reducible apply f_iasl); exact rfl; exact rfl; exact rfl; (first | with_reducible assumption | (apply chk_c; exact hP; (first | (guard_target = Prop; rotate_left 1) | skip)))) | ((with_reducible apply e_ia_ar); exact rfl; exact rfl; exact rfl; ((repeat ((fail_if_success (have hTest : Hld False := hP)); (have hq := chk_c hP); (replace hP := chk_p hP))); first | with_reducible assumption | (apply chk_c; exact hP; (first | (guard_target = Prop; rotate_left 1) | skip))); ((repeat ((fail_if_success (have hTest : Hld False := hP)); (have hq := chk_c hP); (replace hP := chk_p hP))); first | with_reducible assumption | (apply chk_c; exact hP; (first | (guard_target = Prop; rotate_left 1) | skip))); (first | with_reducible exact Int.toNat_natCast _ | exact rfl)))) | ((with_reducible apply (d_e (some [12]))); exact rfl; exact rfl; kernel_rfl; kernel_rfl; exact rfl; exact rfl; (first | ((with_reducible apply e_v); exact rfl) | ((with_reducible apply e_ld_el1); exact rfl; exact rfl; exact rfl; (first | with_reducible assumption | exact gt_row (by omega) (by omega) | exact rfl); exact rfl) | ((with_reducible apply e_ld_eln); exact rfl; exact rfl; exact rfl; (first | with_reducible assumption | exact gt_row (by omega) (by omega) | exact rfl); exact Nat.le_of_ble_eq_true rfl) | ((with_reducible apply f_ia); exact rfl; exact rfl; exact rfl; (case inst => exact inferInstance); exact rfl; exact rfl; (first | with_reducible assumption | (apply chk_c; exact hP; (first | (guard_target = Prop; rotate_left 1) | skip)))) | ((with_reducible apply f_iasl); exact rfl; exact rfl; exact rfl; (first | with_reducible assumption | (apply chk_c; exact hP; (first | (guard_target = Prop; rotate_left 1) | skip)))) | ((with_reducible apply e_ia_ar); exact rfl; exact rfl; exact rfl; ((repeat ((fail_if_success (have hTest : Hld False := hP)); (have hq := chk_c hP); (replace hP := chk_p hP))); first | with_reducible assumption | (apply chk_c; exact hP; (first | (guard_target = Prop; rotate_left 1) | skip))); ((repeat ((fail_if_success (have hTest : Hld False := hP)); (have hq := chk_c hP); (replace hP := chk_p hP))); first | with_reducible assumption | (apply chk_c; exact hP; (first | (guard_target = Prop; rotate_left 1) | skip))); (first | with_reducible exact Int.toNat_natCast _ | exact rfl)))) | ((with_reducible apply d_st); exact rfl; exact (by decide +kernel); exact rfl; exact rfl; exact rfl; exact rfl; exact rfl; exact rfl; exact rfl) | ((with_reducible apply d_al); exact rfl; exact rfl; exact (by decide +kernel); exact rfl; exact rfl) | ((with_reducible apply d_leaf); exact (by decide +kernel)) | ((fail_if_success (have hTest : Hld False := hP)); (replace hP := bth_b hP)))); all_goals (first | ((with_reducible apply n_doneZ); exact rfl; exact (by decide +kernel)) | skip))))
    | ((with_reducible refine v_rgat (i := 6) ?_); (refine n_start (by kernel_rfl) ?_; (refine n_quiet (some [14]) #[true, true, true, true, true, true, true, true, true, true, true, true, true, true, true, true, true, true] [0, 1, 2, 3, 4, 5, 6, 7, 8, 9, 10, 11, 12, 13, 14, 15, 16, 17] 0 rfl ?_; (repeat' (first | ((fail_if_success (have hTest : Hld False := hP)); (have hq := chk_c hP); (replace hP := chk_p hP)) | ((with_reducible apply (d_e (some []))); exact rfl; exact rfl; kernel_rfl; exact (by decide +kernel); exact rfl; exact rfl; (first | ((with_reducible apply e_v); exact rfl) | ((with_reducible apply e_ld_el1); exact rfl; exact rfl; exact rfl; (first | with_reducible assumption | exact gt_row (by omega) (by omega) | exact rfl); exact rfl) | ((with_reducible apply e_ld_eln); exact rfl; exact rfl; exact rfl; (first | with_reducible assumption | exact gt_row (by omega) (by omega) | exact rfl); exact Nat.le_of_ble_eq_true rfl) | ((with_reducible apply f_ia); exact rfl; exact rfl; exact rfl; (case inst => exact inferInstance); exact rfl; exact rfl; (first | with_reducible assumption | (apply chk_c; exact hP; (first | (guard_target = Prop; rotate_left 1) | skip)))) | ((with_reducible apply f_iasl); exact rfl; exact rfl; exact rfl; (first | with_reducible assumption | (apply chk_c; exact hP; (first | (guard_target = Prop; rotate_left 1) | skip)))) | ((with_reducible apply e_ia_ar); exact rfl; exact rfl; exact rfl; ((repeat ((fail_if_success (have hTest : Hld False := hP)); (have hq := chk_c hP); (replace hP := chk_p hP))); first | with_reducible assumption | (apply chk_c; exact hP; (first | (guard_target = Prop; rotate_left 1) | skip))); ((repeat ((fail_if_success (have hTest : Hld False := hP)); (have hq := chk_c hP); (replace hP := chk_p hP))); first | with_reducible assumption | (apply chk_c; exact hP; (first | (guard_target = Prop; rotate_left 1) | skip))); (first | with_reducible exact Int.toNat_natCast _ | exact rfl)))) | ((with_reducible apply (d_e (some [14]))); exact rfl; exact rfl; kernel_rfl; kernel_rfl; exact rfl; exact rfl; (first | ((with_reducible apply e_v); exact rfl) | ((with_reducible apply e_ld_el1); exact rfl; exact rfl; exact rfl; (first | with_reducible assumption | exact gt_row (by omega) (by omega) | exact rfl); exact rfl) | ((with_reducible apply e_ld_eln); exact rfl; exact rfl; exact rfl; (first | with_reducible assumption | exact gt_row (by omega) (by omega) | exact rfl); exact Nat.le_of_ble_eq_true rfl) | ((with_reducible apply f_ia); exact rfl; exact rfl; exact rfl; (case inst => exact inferInstance); exact rfl; exact rfl; (first | with_reducible assumption | (apply chk_c; exact hP; (first | (guard_target = Prop; rotate_left 1) | skip)))) | ((with_reducible apply f_iasl); exact rfl; exact rfl; exact rfl; (first | with_reducible assumption | (apply chk_c; exact hP; (first | (guard_target = Prop; rotate_left 1) | skip)))) | ((with_reducible apply e_ia_ar); exact rfl; exact rfl; exact rfl; ((repeat ((fail_if_success (have hTest : Hld False := hP)); (have hq := chk_c hP); (replace hP := chk_p hP))); first | with_reducible assumption | (apply chk_c; exact hP; (first | (guard_target = Prop; rotate_left 1) | skip))); ((repeat ((fail_if_success (have hTest : Hld False := hP)); (have hq := chk_c hP); (replace hP := chk_p hP))); first | with_reducible assumption | (apply chk_c; exact hP; (first | (guard_target = Prop; rotate_left 1) | skip))); (first | with_reducible exact Int.toNat_natCast _ | exact rfl)))) | ((with_reducible apply d_st); exact rfl; exact (by decide +kernel); exact rfl; exact rfl; exact rfl; exact rfl; exact rfl; exact rfl; exact rfl) | ((with_reducible apply (v_dbsf (d := 90) (Trm.row))); exact rfl; exact rfl; exact (by decide +kernel); exact rfl; exact rfl; exact rfl; exact rfl; exact rfl; exact rfl; exact rfl; exact rfl; exact rfl; (focus (repeat' (first | exact row_nil | apply row_cons | exact Trm.row_mk _ _ _ _ _ | exact Trm.row_mk _ _ _ _ [] | exact Trm.row_mkr _ _ _ _ _))); exact rfl) | ((with_reducible apply (v_dbs (Trm.row))); exact rfl; exact rfl; exact (by decide +kernel); exact rfl; exact rfl; exact rfl; exact rfl; exact rfl; exact rfl; exact rfl; exact rfl; exact rfl; (focus (repeat' (first | exact row_nil | apply row_cons | exact Trm.row_mk _ _ _ _ _ | exact Trm.row_mk _ _ _ _ [] | exact Trm.row_mkr _ _ _ _ _))); exact rfl) | ((with_reducible apply (v_dbs (Rul.row))); exact rfl; exact rfl; exact (by decide +kernel); exact rfl; exact rfl; exact rfl; exact rfl; exact rfl; exact rfl; exact rfl; exact rfl; exact rfl; (focus (repeat' (first | exact row_nil | apply row_cons | exact Rul.row_mk _ _ _ _ _ _ _ | exact Rul.row_mk _ _ _ _ _ [] _ | exact Rul.row_mkr _ _ _ _ _ _ _))); exact rfl) | ((with_reducible apply d_al); exact rfl; exact rfl; exact (by decide +kernel); exact rfl; exact rfl) | (refine d_two 14 16 (by decide +kernel) ?_ ?_) | ((with_reducible apply (v_sbsf (d := 90) (Trm.row) (i := 14) (l := [15, 16, 17]))); exact rfl; exact rfl; exact rfl; exact rfl; exact rfl; exact rfl; exact rfl; exact rfl; exact rfl; exact rfl; exact rfl; (focus (repeat' (first | exact row_nil | apply row_cons | exact Trm.row_mk _ _ _ _ _ | exact Trm.row_mk _ _ _ _ [] | exact Trm.row_mkr _ _ _ _ _))); exact rfl; exact rfl) | ((with_reducible apply (v_sbs (Trm.row) (i := 14) (l := [15, 16, 17]))); exact rfl; exact rfl; exact rfl; exact rfl; exact rfl; exact rfl; exact rfl; exact rfl; exact rfl; exact rfl; exact rfl; (focus (repeat' (first | exact row_nil | apply row_cons | exact Trm.row_mk _ _ _ _ _ | exact Trm.row_mk _ _ _ _ [] | exact Trm.row_mkr _ _ _ _ _))); exact rfl; exact rfl) | ((with_reducible apply (v_sbs (Rul.row) (i := 14) (l := [15, 16, 17]))); exact rfl; exact rfl; exact rfl; exact rfl; exact rfl; exact rfl; exact rfl; exact rfl; exact rfl; exact rfl; exact rfl; (focus (repeat' (first | exact row_nil | apply row_cons | exact Rul.row_mk _ _ _ _ _ _ _ | exact Rul.row_mk _ _ _ _ _ [] _ | exact Rul.row_mkr _ _ _ _ _ _ _))); exact rfl; exact rfl) | ((with_reducible apply (s_al (i := 16) (l := [14, 15, 17]))); exact rfl; exact rfl; exact rfl; exact rfl; exact rfl) | ((with_reducible apply d_leaf); exact (by decide +kernel)) | ((fail_if_success (have hTest : Hld False := hP)); (replace hP := bth_b hP)))); all_goals (first | ((with_reducible apply n_doneZ); exact rfl; exact (by decide +kernel)) | skip))))
    | ((with_reducible apply v_gs); exact rfl; exact rfl; (exact hP); all_goals (clear hP; intro hg hP))
    | ((with_reducible apply v_if); exact rfl; (exact hP); all_goals (clear hP; intro hc hP)))
theorem exact_ic (f : List Fnd) (n spot : Int) (kinds : List Knd) (name : ByteArray) : ICp (FndOk f ∧ (0 ≤ n ∧ n < f.length) ∧ (0 ≤ spot ∧ spot < (gt f n).wh.length) ∧ (0 ≤ (gt f n).kd ∧ (gt f n).kd < kinds.length) ∧ RulOk [xR name (gt kinds (gt f n).kd).nm (gt (gt f n).wh spot).pl.pa (gt f n).pr]) 19 [fnv f, iv n, iv spot, knv kinds, .one (.d (.str name))] (fun v => v = .tup [(xR name (gt kinds (gt f n).kd).nm (gt (gt f n).wh spot).pl.pa (gt f n).pr).v, iv 0]) := fun hh => (exact_V f n spot kinds name _).2 (by
  obtain ⟨g1, g2, g3, g4, g5⟩ := hh
  (delta exact_V; dsimp only [mkV])
  (repeat' (first | with_reducible refine brn_nd (fun h => ?_) (fun h => ?_) | with_reducible refine brn_d (fun h => ?_) (fun h => ?_) | with_reducible refine brn_nn (fun h => ?_) (fun h => ?_) | with_reducible refine brn_nb (fun h => ?_) (fun h => ?_) | with_reducible refine Brn.mk (fun h => ?_) (fun h => ?_) | with_reducible refine Chk.mk ?_ ?_ | with_reducible refine Bth.mk ?_ ?_ | with_reducible refine Fct.mk (fun hf => ?_)))
  all_goals first | exact g1 | (exfalso; omega) | exact g2 | exact g3 | exact g4 | exact g5 | rfl | trace_state)
end Go.Proofs.Ytcbppkfnfbdkhaa
