/- Operations from bytes. -/
import Derived.Test.YtbnmcdnkeipdhaaDh
set_option linter.all false
set_option maxRecDepth 20000
set_option maxHeartbeats 8000000
namespace Go.Proofs.Ytbnmcdnkeipdhaa
open Go.RowKit Go.Shelf
def num3 (a b c : Int) : Int := a * 65536 + b * 256 + c
theorem bits_or_nat {m n : Nat} (hm : m < 16777216) (hn : n < 16777216) : bits .or .i64 (m : Int) (n : Int) = ((m ||| n : Nat) : Int) := by
  have h0 : bits .or .i64 (m : Int) (n : Int) = IntKind.i64.wrap ((BitVec.ofInt 64 (m : Int) ||| BitVec.ofInt 64 (n : Int)).toNat : Int) := rfl
  have e1 : (BitVec.ofInt 64 (m : Int)).toNat = m := by rw [BitVec.toNat_ofInt]; omega
  have e2 : (BitVec.ofInt 64 (n : Int)).toNat = n := by rw [BitVec.toNat_ofInt]; omega
  rw [h0, BitVec.toNat_or, e1, e2]
  have h3 : m ||| n < 2 ^ 24 := Nat.or_lt_two_pow (by omega) (by omega)
  exact Go.IntWalk.i64_in _ (by omega)
theorem or3 {a b c : Int} (ha : 0 ≤ a ∧ a ≤ 255) (hb : 0 ≤ b ∧ b ≤ 255) (hc : 0 ≤ c ∧ c ≤ 255) : bits .or .i64 (bits .or .i64 (IntKind.i64.wrap (a * 2 ^ min (Int.toNat 16) IntKind.i64.bits)) (IntKind.i64.wrap (b * 2 ^ min (Int.toNat 8) IntKind.i64.bits))) c = num3 a b c := by
  obtain ⟨a, rfl⟩ : ∃ n : Nat, a = n := ⟨a.toNat, by omega⟩
  obtain ⟨b, rfl⟩ : ∃ n : Nat, b = n := ⟨b.toNat, by omega⟩
  obtain ⟨c, rfl⟩ : ∃ n : Nat, c = n := ⟨c.toNat, by omega⟩
  have e1 : IntKind.i64.wrap ((a : Int) * 2 ^ min (Int.toNat 16) IntKind.i64.bits) = ((a * 65536 : Nat) : Int) := by
    have : ((a : Int) * 2 ^ min (Int.toNat 16) IntKind.i64.bits) = ((a * 65536 : Nat) : Int) := by
      rw [show ((2 : Int) ^ min (Int.toNat 16) IntKind.i64.bits) = 65536 from by decide]; omega
    rw [this]; exact Go.IntWalk.i64_in _ (by omega)
  have e2 : IntKind.i64.wrap ((b : Int) * 2 ^ min (Int.toNat 8) IntKind.i64.bits) = ((b * 256 : Nat) : Int) := by
    have : ((b : Int) * 2 ^ min (Int.toNat 8) IntKind.i64.bits) = ((b * 256 : Nat) : Int) := by
      rw [show ((2 : Int) ^ min (Int.toNat 8) IntKind.i64.bits) = 256 from by decide]; omega
    rw [this]; exact Go.IntWalk.i64_in _ (by omega)
  have o1 : a * 65536 ||| b * 256 = a * 65536 + b * 256 := by
    have := Nat.shiftLeft_add_eq_or_of_lt (b := b * 256) (i := 16) (by omega) a
    rw [Nat.shiftLeft_eq] at this
    exact this.symm
  have o2 : (a * 65536 + b * 256) ||| c = a * 65536 + b * 256 + c := by
    have := Nat.shiftLeft_add_eq_or_of_lt (b := c) (i := 8) (by omega) (a * 256 + b)
    rw [Nat.shiftLeft_eq] at this
    have e : (a * 256 + b) * 2 ^ 8 = a * 65536 + b * 256 := by omega
    rw [e] at this
    exact this.symm
  rw [e1, e2, bits_or_nat (by omega) (by omega), o1, bits_or_nat (by omega) (by omega), o2]
  unfold num3; omega
theorem InB_ok {l : List Int} (h : ∀ x ∈ l, ∀ c ∈ irow_u8 x, c.Ok) : InB l := by
  intro z hz
  have := h z hz _ (List.mem_singleton.2 rfl)
  cases this with
  | int hk =>
    simp [Lit.wf, IntKind.min, IntKind.max, IntKind.bits, IntKind.signed] at hk
    omega
theorem InB_drop {l : List Int} (n : Nat) (h : InB l) : InB (l.drop n) := fun z hz => h z (List.mem_of_mem_drop hz)
theorem InB_gt {l : List Int} (h : InB l) {i : Int} (h0 : 0 ≤ i) (h1 : i < l.length) : 0 ≤ gt l i ∧ gt l i ≤ 255 := h _ (gt_mem h0 h1)
def numS (b : List Int) : Int × List Int × Bool := if b.length < 3 then (0, [], false) else (num3 (gt b 0) (gt b 1) (gt b 2), b.drop 3, decide (num3 (gt b 0) (gt b 1) (gt b 2) ≤ 65536))
noncomputable def number_V (b : List Int) (Q : SV → Prop) : Σ' P : Prop, (P → ICt 77 [.one (.d (.list (List.map irow_u8 b)))] Q) := by
  apply mkV; intro hP
  refine ic_wk (K 29) Try.func77 rfl rfl rfl rfl (fun w0 => ?_)
  apply (v_klist (x := 0)); exact rfl; exact hP; clear hP; intro hP
  repeat' (first
    | ((fail_if_success (have hTest : Hld False := hP)); (have hq := chk_c hP); (replace hP := chk_p hP))
    | ((with_reducible apply j_lst); exact rfl)
    | (with_reducible (first | apply c_seq | apply c_rg | apply j_nil | apply q_n | apply c_ct | apply c_cf | apply c_bl | apply c_ex | apply c_ret | apply c_sk | apply q_r | apply q_e | apply b_r | apply b_e | apply b_n | apply n_n | apply n_r | apply n_e))
    | ((with_reducible apply v_slh); exact rfl; exact rfl; exact rfl; exact rfl; exact rfl; exact (fun _ => rfl); (first | with_reducible assumption | (apply chk_c; exact hP; (first | (guard_target = Prop; rotate_left 1) | skip))))
    | ((with_reducible apply v_sh); exact rfl; exact rfl; exact rfl; exact rfl; exact (fun _ => rfl); (first | with_reducible assumption | (apply chk_c; exact hP; (first | (guard_target = Prop; rotate_left 1) | skip))))
    | ((with_reducible apply v_sl); exact rfl; exact rfl; exact rfl; exact rfl; exact (fun _ => rfl); (first | with_reducible assumption | (apply chk_c; exact hP; (first | (guard_target = Prop; rotate_left 1) | skip))))
    | ((with_reducible apply (v_conv (t := 5) (t' := 3) .i64)); exact rfl; kernel_rfl; exact rfl; (with_reducible apply wr_i64; (first | with_reducible assumption | (apply chk_c; exact hP; (first | (guard_target = Prop; rotate_left 1) | skip)))))
    | ((with_reducible apply v_lenstr); exact rfl; exact rfl; kernel_rfl)
    | ((with_reducible apply v_shl); exact rfl; exact rfl; exact rfl; (first | decide | (first | with_reducible assumption | (apply chk_c; exact hP; (first | (guard_target = Prop; rotate_left 1) | skip)))); exact rfl)
    | ((with_reducible apply v_slsl); exact rfl; exact rfl; exact rfl; exact rfl; (first | with_reducible assumption | (apply chk_c; exact hP; (first | (guard_target = Prop; rotate_left 1) | skip))))
    | ((with_reducible apply v_slsh); exact rfl; exact rfl; exact rfl; exact rfl; (first | with_reducible assumption | (apply chk_c; exact hP; (first | (guard_target = Prop; rotate_left 1) | skip))))
    | ((with_reducible apply c_l1); exact rfl; exact rfl)
    | ((with_reducible apply c_l2); exact rfl; exact rfl)
    | ((with_reducible apply c_l3); exact rfl)
    | ((with_reducible apply j_v); exact rfl; exact rfl)
    | ((with_reducible apply v_lenm); exact rfl; exact rfl; exact rfl; (exact hP); clear hP; intro hP)
    | ((with_reducible apply v_lens); exact rfl; exact rfl; exact rfl; (exact hP); clear hP; intro hP)
    | ((with_reducible apply j_len); exact rfl; exact rfl; exact rfl)
    | ((with_reducible apply j_len0); exact rfl; exact rfl; exact rfl)
    | ((with_reducible apply j_ld_el1); exact rfl; exact rfl; exact rfl; exact rfl; (first | with_reducible assumption | exact gt_row (by omega) (by omega) | exact rfl); exact rfl)
    | ((with_reducible apply v_ia); exact rfl; exact rfl; exact rfl; exact rfl; (case inst => exact inferInstance); exact rfl; exact rfl; (first | with_reducible assumption | (apply chk_c; exact hP; (first | (guard_target = Prop; rotate_left 1) | skip))))
    | ((with_reducible apply v_iasl); exact rfl; exact rfl; exact rfl; exact rfl; (first | with_reducible assumption | (apply chk_c; exact hP; (first | (guard_target = Prop; rotate_left 1) | skip))))
    | ((with_reducible apply j_ia_ar); exact rfl; exact rfl; exact rfl; exact rfl; ((repeat ((fail_if_success (have hTest : Hld False := hP)); (have hq := chk_c hP); (replace hP := chk_p hP))); first | with_reducible assumption | (apply chk_c; exact hP; (first | (guard_target = Prop; rotate_left 1) | skip))); ((repeat ((fail_if_success (have hTest : Hld False := hP)); (have hq := chk_c hP); (replace hP := chk_p hP))); first | with_reducible assumption | (apply chk_c; exact hP; (first | (guard_target = Prop; rotate_left 1) | skip))); (first | with_reducible exact Int.toNat_natCast _ | exact rfl))
    | ((with_reducible apply c_c); exact rfl; (first | with_reducible assumption | with_reducible exact Eq.refl true | with_reducible exact Eq.refl false | (with_reducible refine not_t ?_; with_reducible assumption) | (with_reducible refine not_f ?_; with_reducible assumption) | (refine dec_t ?_; decide) | (refine dec_f ?_; decide)))
    | ((with_reducible apply b_o); exact rfl)
    | ((with_reducible apply r_g); exact rfl; (· repeat' (first | exact True.intro | refine And.intro ?_ ?_ | (show (_ : Nat) = _; (first | exact rfl | exact (List.length_map _).symm | omega | (simp only [List.length_set, List.length_map, List.length_append] <;> omega) | (simp; done))))); (exact hP.out))
    | ((with_reducible refine v_rgat (i := 3) ?_); (refine n_start (by kernel_rfl) ?_; (refine n_quiet none #[true, true, true, true, true, true, true, true, true, true, true, true, true, true, true, true, true] [0, 1, 2, 3, 4, 5, 6, 7, 8, 9, 10, 11, 12, 13, 14, 15, 16] 0 rfl ?_; (repeat' (first | ((fail_if_success (have hTest : Hld False := hP)); (have hq := chk_c hP); (replace hP := chk_p hP)) | ((with_reducible apply (d_e (some []))); exact rfl; exact rfl; kernel_rfl; kernel_rfl; exact rfl; exact rfl; (first | ((with_reducible apply e_v); exact rfl) | ((with_reducible apply e_ld_el1); exact rfl; exact rfl; exact rfl; (first | with_reducible assumption | exact gt_row (by omega) (by omega) | exact rfl); exact rfl) | ((with_reducible apply e_ld_eln); exact rfl; exact rfl; exact rfl; (first | with_reducible assumption | exact gt_row (by omega) (by omega) | exact rfl); exact Nat.le_of_ble_eq_true rfl) | ((with_reducible apply f_ia); exact rfl; exact rfl; exact rfl; (case inst => exact inferInstance); exact rfl; exact rfl; (first | with_reducible assumption | (apply chk_c; exact hP; (first | (guard_target = Prop; rotate_left 1) | skip)))) | ((with_reducible apply f_iasl); exact rfl; exact rfl; exact rfl; (first | with_reducible assumption | (apply chk_c; exact hP; (first | (guard_target = Prop; rotate_left 1) | skip)))) | ((with_reducible apply e_ia_ar); exact rfl; exact rfl; exact rfl; ((repeat ((fail_if_success (have hTest : Hld False := hP)); (have hq := chk_c hP); (replace hP := chk_p hP))); first | with_reducible assumption | (apply chk_c; exact hP; (first | (guard_target = Prop; rotate_left 1) | skip))); ((repeat ((fail_if_success (have hTest : Hld False := hP)); (have hq := chk_c hP); (replace hP := chk_p hP))); first | with_reducible assumption | (apply chk_c; exact hP; (first | (guard_target = Prop; rotate_left 1) | skip))); (first | with_reducible exact Int.toNat_natCast _ | exact rfl)) | ((with_reducible apply (f_conv (t := 5) (t' := 3) .i64)); kernel_rfl; exact rfl; (with_reducible apply wr_i64; (first | with_reducible assumption | (apply chk_c; exact hP; (first | (guard_target = Prop; rotate_left 1) | skip))))) | ((with_reducible apply f_shl); exact rfl; exact rfl; (first | decide | (first | with_reducible assumption | (apply chk_c; exact hP; (first | (guard_target = Prop; rotate_left 1) | skip)))); exact rfl))) | ((with_reducible apply d_leaf); exact (by decide +kernel)) | ((fail_if_success (have hTest : Hld False := hP)); (replace hP := bth_b hP)))); all_goals (first | ((with_reducible apply n_doneZ); exact rfl; exact (by decide +kernel)) | skip))))
    | ((with_reducible refine v_rgat (i := 4) ?_); (refine n_start (by kernel_rfl) ?_; (refine n_quiet none #[true, true, true, true, true, true, true, true] [0, 1, 2, 3, 4, 5, 6, 7] 0 rfl ?_; (repeat' (first | ((fail_if_success (have hTest : Hld False := hP)); (have hq := chk_c hP); (replace hP := chk_p hP)) | ((with_reducible apply (d_e (some []))); exact rfl; exact rfl; kernel_rfl; kernel_rfl; exact rfl; exact rfl; (first | ((with_reducible apply e_v); exact rfl) | ((with_reducible apply e_ld_el1); exact rfl; exact rfl; exact rfl; (first | with_reducible assumption | exact gt_row (by omega) (by omega) | exact rfl); exact rfl) | ((with_reducible apply e_ld_eln); exact rfl; exact rfl; exact rfl; (first | with_reducible assumption | exact gt_row (by omega) (by omega) | exact rfl); exact Nat.le_of_ble_eq_true rfl) | ((with_reducible apply f_ia); exact rfl; exact rfl; exact rfl; (case inst => exact inferInstance); exact rfl; exact rfl; (first | with_reducible assumption | (apply chk_c; exact hP; (first | (guard_target = Prop; rotate_left 1) | skip)))) | ((with_reducible apply f_iasl); exact rfl; exact rfl; exact rfl; (first | with_reducible assumption | (apply chk_c; exact hP; (first | (guard_target = Prop; rotate_left 1) | skip)))) | ((with_reducible apply e_ia_ar); exact rfl; exact rfl; exact rfl; ((repeat ((fail_if_success (have hTest : Hld False := hP)); (have hq := chk_c hP); (replace hP := chk_p hP))); first | with_reducible assumption | (apply chk_c; exact hP; (first | (guard_target = Prop; rotate_left 1) | skip))); ((repeat ((fail_if_success (have hTest : Hld False := hP)); (have hq := chk_c hP); (replace hP := chk_p hP))); first | with_reducible assumption | (apply chk_c; exact hP; (first | (guard_target = Prop; rotate_left 1) | skip))); (first | with_reducible exact Int.toNat_natCast _ | exact rfl)) | ((with_reducible apply f_slsl); exact rfl; exact rfl; exact rfl; (first | with_reducible assumption | (apply chk_c; exact hP; (first | (guard_target = Prop; rotate_left 1) | skip)))) | ((with_reducible apply f_slsh); exact rfl; exact rfl; exact rfl; (first | with_reducible assumption | (apply chk_c; exact hP; (first | (guard_target = Prop; rotate_left 1) | skip)))) | ((with_reducible apply f_slh); exact rfl; exact rfl; exact rfl; exact rfl; exact (fun _ => rfl); (first | with_reducible assumption | (apply chk_c; exact hP; (first | (guard_target = Prop; rotate_left 1) | skip)))) | ((with_reducible apply f_sh); exact rfl; exact rfl; exact rfl; exact (fun _ => rfl); (first | with_reducible assumption | (apply chk_c; exact hP; (first | (guard_target = Prop; rotate_left 1) | skip)))) | ((with_reducible apply f_sl); exact rfl; exact rfl; exact rfl; exact (fun _ => rfl); (first | with_reducible assumption | (apply chk_c; exact hP; (first | (guard_target = Prop; rotate_left 1) | skip)))))) | ((with_reducible apply d_leaf); exact (by decide +kernel)) | ((fail_if_success (have hTest : Hld False := hP)); (replace hP := bth_b hP)))); all_goals (first | ((with_reducible apply n_doneZ); exact rfl; exact (by decide +kernel)) | skip))))
    | ((with_reducible apply v_gs); exact rfl; exact rfl; (exact hP); all_goals (clear hP; intro hg hP))
    | ((with_reducible apply v_if); exact rfl; (exact hP); all_goals (clear hP; intro hc hP)))
theorem number_ic (b : List Int) : ICt 77 [by_ b] (fun v => v = .tup [iv (numS b).1, by_ (numS b).2.1, bv (numS b).2.2]) := (number_V b _).2 (by
  (delta number_V; dsimp only [mkV])
  (repeat' (first | with_reducible refine brn_nd (fun h => ?_) (fun h => ?_) | with_reducible refine brn_d (fun h => ?_) (fun h => ?_) | with_reducible refine brn_nn (fun h => ?_) (fun h => ?_) | with_reducible refine brn_nb (fun h => ?_) (fun h => ?_) | with_reducible refine Brn.mk (fun h => ?_) (fun h => ?_) | with_reducible refine Chk.mk ?_ ?_ | with_reducible refine Bth.mk ?_ ?_ | with_reducible refine Fct.mk (fun hf => ?_)))
  · have e : numS b = (0, [], false) := if_pos (by omega)
    rw [e]; rfl
  all_goals
    have hb : InB b := InB_ok (by assumption : b.length ≤ _ ∧ _).2
    have b0 := InB_gt hb (i := 0) (by omega) (by omega)
    have b1 := InB_gt hb (i := 1) (by omega) (by omega)
    have b2 := InB_gt hb (i := 2) (by omega) (by omega)
  all_goals first | omega | (unfold InI; omega) | skip
  rw [or3 b0 b1 b2]
  have e : numS b = (num3 (gt b 0) (gt b 1) (gt b 2), b.drop 3, decide (num3 (gt b 0) (gt b 1) (gt b 2) ≤ 65536)) := if_neg (by omega)
  rw [e]; rfl)
def readS (b : List Int) : Opn × List Int × Bool :=
  if (numS (b.drop 1)).2.2 = false ∨ 1 < gt b 0 then (⟨0, 0, []⟩, [], false)
  else if gt b 0 = 1 then (⟨(numS (b.drop 1)).1, (numS (numS (b.drop 1)).2.1).1, []⟩, (numS (numS (b.drop 1)).2.1).2.1, (numS (numS (b.drop 1)).2.1).2.2 && decide (0 < (numS (numS (b.drop 1)).2.1).1))
  else if (numS (b.drop 1)).1 = 0 ∨ ((numS (b.drop 1)).2.1.length : Int) < (numS (b.drop 1)).1 then (⟨0, 0, []⟩, [], false)
  else (⟨0, 0, (numS (b.drop 1)).2.1.take (numS (b.drop 1)).1.toNat⟩, (numS (b.drop 1)).2.1.drop (numS (b.drop 1)).1.toNat, true)
noncomputable def read_V (b : List Int) (Q : SV → Prop) : Σ' P : Prop, (P → ICt 60 [.one (.d (.list (List.map irow_u8 b)))] Q) := by
  apply mkV; intro hP
  refine ic_wk (K 61) Try.func60 rfl rfl rfl rfl (fun w0 => ?_)
  apply (v_klist (x := 0)); exact rfl; exact hP; clear hP; intro hP
  repeat' (first
    | ((fail_if_success (have hTest : Hld False := hP)); (have hq := chk_c hP); (replace hP := chk_p hP))
    | ((with_reducible apply j_lst); exact rfl)
    | (with_reducible (first | apply c_seq | apply c_rg | apply j_nil | apply q_n | apply g_tt | apply g_ff | apply c_ct | apply c_cf | apply c_bl | apply c_ex | apply c_ret | apply c_sk | apply q_r | apply q_e | apply b_r | apply b_e | apply b_n | apply n_n | apply n_r | apply n_e))
    | ((with_reducible apply v_slh); exact rfl; exact rfl; exact rfl; exact rfl; exact rfl; exact (fun _ => rfl); (first | with_reducible assumption | (apply chk_c; exact hP; (first | (guard_target = Prop; rotate_left 1) | skip))))
    | ((with_reducible apply v_sh); exact rfl; exact rfl; exact rfl; exact rfl; exact (fun _ => rfl); (first | with_reducible assumption | (apply chk_c; exact hP; (first | (guard_target = Prop; rotate_left 1) | skip))))
    | ((with_reducible apply v_sl); exact rfl; exact rfl; exact rfl; exact rfl; exact (fun _ => rfl); (first | with_reducible assumption | (apply chk_c; exact hP; (first | (guard_target = Prop; rotate_left 1) | skip))))
    | ((with_reducible apply v_lenstr); exact rfl; exact rfl; kernel_rfl)
    | ((with_reducible apply v_slsl); exact rfl; exact rfl; exact rfl; exact rfl; (first | with_reducible assumption | (apply chk_c; exact hP; (first | (guard_target = Prop; rotate_left 1) | skip))))
    | ((with_reducible apply v_slsh); exact rfl; exact rfl; exact rfl; exact rfl; (first | with_reducible assumption | (apply chk_c; exact hP; (first | (guard_target = Prop; rotate_left 1) | skip))))
    | ((with_reducible apply c_l1); exact rfl; exact rfl)
    | ((with_reducible apply c_l2); exact rfl; exact rfl)
    | ((with_reducible apply c_l3); exact rfl)
    | ((with_reducible apply j_v); exact rfl; exact rfl)
    | ((with_reducible apply j_h); exact rfl; exact rfl)
    | ((with_reducible apply j_s); exact rfl)
    | ((with_reducible apply j_g); exact rfl; exact rfl; (first | with_reducible assumption | with_reducible exact Eq.refl true | with_reducible exact Eq.refl false | (with_reducible refine not_t ?_; with_reducible assumption) | (with_reducible refine not_f ?_; with_reducible assumption) | (refine dec_t ?_; decide) | (refine dec_f ?_; decide)))
    | ((with_reducible apply g_tf); exact rfl)
    | ((with_reducible apply g_ft); exact rfl)
    | ((with_reducible apply j_gz); exact rfl; exact rfl; exact rfl)
    | ((with_reducible apply v_lenm); exact rfl; exact rfl; exact rfl; (exact hP); clear hP; intro hP)
    | ((with_reducible apply v_lens); exact rfl; exact rfl; exact rfl; (exact hP); clear hP; intro hP)
    | ((with_reducible apply j_len); exact rfl; exact rfl; exact rfl)
    | ((with_reducible apply j_len0); exact rfl; exact rfl; exact rfl)
    | ((with_reducible apply j_pk); exact rfl; exact rfl; (first | with_reducible assumption | with_reducible exact Eq.refl true | with_reducible exact Eq.refl false | (with_reducible refine not_t ?_; with_reducible assumption) | (with_reducible refine not_f ?_; with_reducible assumption) | (refine dec_t ?_; decide) | (refine dec_f ?_; decide)); exact rfl)
    | ((with_reducible apply j_ld_el1); exact rfl; exact rfl; exact rfl; exact rfl; (first | with_reducible assumption | exact gt_row (by omega) (by omega) | exact rfl); exact rfl)
    | ((with_reducible apply v_ia); exact rfl; exact rfl; exact rfl; exact rfl; (case inst => exact inferInstance); exact rfl; exact rfl; (first | with_reducible assumption | (apply chk_c; exact hP; (first | (guard_target = Prop; rotate_left 1) | skip))))
    | ((with_reducible apply v_iasl); exact rfl; exact rfl; exact rfl; exact rfl; (first | with_reducible assumption | (apply chk_c; exact hP; (first | (guard_target = Prop; rotate_left 1) | skip))))
    | ((with_reducible apply j_ia_ar); exact rfl; exact rfl; exact rfl; exact rfl; ((repeat ((fail_if_success (have hTest : Hld False := hP)); (have hq := chk_c hP); (replace hP := chk_p hP))); first | with_reducible assumption | (apply chk_c; exact hP; (first | (guard_target = Prop; rotate_left 1) | skip))); ((repeat ((fail_if_success (have hTest : Hld False := hP)); (have hq := chk_c hP); (replace hP := chk_p hP))); first | with_reducible assumption | (apply chk_c; exact hP; (first | (guard_target = Prop; rotate_left 1) | skip))); (first | with_reducible exact Int.toNat_natCast _ | exact rfl))
    | ((with_reducible apply c_c); exact rfl; (first | with_reducible assumption | with_reducible exact Eq.refl true | with_reducible exact Eq.refl false | (with_reducible refine not_t ?_; with_reducible assumption) | (with_reducible refine not_f ?_; with_reducible assumption) | (refine dec_t ?_; decide) | (refine dec_f ?_; decide)))
    | ((with_reducible apply b_o); exact rfl)
    | ((with_reducible apply r_g); exact rfl; (· repeat' (first | exact True.intro | refine And.intro ?_ ?_ | (show (_ : Nat) = _; (first | exact rfl | exact (List.length_map _).symm | omega | (simp only [List.length_set, List.length_map, List.length_append] <;> omega) | (simp; done))))); (exact hP.out))
    | ((with_reducible apply v_call (pu := true)); exact rfl; exact ⟨rfl, rfl⟩; apply (Clone_ic _); rotate_left 1; (focus ((repeat' (first | exact .nil _ | refine PsL.cons ?_ ?_ | refine PsSL.cons ?_ ?_ | exact .one (.d _ _) | exact .one psc_nilm | exact psc_nilm | exact .one (.nil _) | exact .one (.nn _) | exact .one (.tape _) | exact .one (.fn _ _) | exact .agg (.same _ _) | refine .agg ?_ | exact .d _ _ | exact .one (.sl rfl rfl) | exact .one (.sl rfl (List.length_map _).symm) | exact .sl rfl rfl | exact .sl rfl (List.length_map _).symm | exact .same _ _)) <;> fail)); exact .inl rfl; (first | with_reducible assumption | (apply chk_c; exact hP; (first | (guard_target = Prop; rotate_left 1) | skip))))
    | ((with_reducible apply j_call (pu := true)); exact rfl; apply (number_ic _); rotate_left 1; (focus ((repeat' (first | exact .nil _ | refine PsL.cons ?_ ?_ | refine PsSL.cons ?_ ?_ | exact .one (.d _ _) | exact .one psc_nilm | exact psc_nilm | exact .one (.nil _) | exact .one (.nn _) | exact .one (.tape _) | exact .one (.fn _ _) | exact .agg (.same _ _) | refine .agg ?_ | exact .d _ _ | exact .one (.sl rfl rfl) | exact .one (.sl rfl (List.length_map _).symm) | exact .sl rfl rfl | exact .sl rfl (List.length_map _).symm | exact .same _ _)) <;> fail)); exact .inl rfl)
    | ((with_reducible refine v_rgat (i := 12) ?_); (refine n_start (by kernel_rfl) ?_; (refine n_quiet (some [2]) #[true, true, true, true, true, true, true] [0, 1, 2, 3, 4, 5, 6] 0 rfl ?_; (repeat' (first | ((fail_if_success (have hTest : Hld False := hP)); (have hq := chk_c hP); (replace hP := chk_p hP)) | ((with_reducible apply (d_e (some []))); exact rfl; exact rfl; kernel_rfl; exact (by decide +kernel); exact rfl; exact rfl; (first | ((with_reducible apply e_v); exact rfl) | ((with_reducible apply e_ld_el1); exact rfl; exact rfl; exact rfl; (first | with_reducible assumption | exact gt_row (by omega) (by omega) | exact rfl); exact rfl) | ((with_reducible apply e_ld_eln); exact rfl; exact rfl; exact rfl; (first | with_reducible assumption | exact gt_row (by omega) (by omega) | exact rfl); exact Nat.le_of_ble_eq_true rfl) | ((with_reducible apply f_ia); exact rfl; exact rfl; exact rfl; (case inst => exact inferInstance); exact rfl; exact rfl; (first | with_reducible assumption | (apply chk_c; exact hP; (first | (guard_target = Prop; rotate_left 1) | skip)))) | ((with_reducible apply f_iasl); exact rfl; exact rfl; exact rfl; (first | with_reducible assumption | (apply chk_c; exact hP; (first | (guard_target = Prop; rotate_left 1) | skip)))) | ((with_reducible apply e_ia_ar); exact rfl; exact rfl; exact rfl; ((repeat ((fail_if_success (have hTest : Hld False := hP)); (have hq := chk_c hP); (replace hP := chk_p hP))); first | with_reducible assumption | (apply chk_c; exact hP; (first | (guard_target = Prop; rotate_left 1) | skip))); ((repeat ((fail_if_success (have hTest : Hld False := hP)); (have hq := chk_c hP); (replace hP := chk_p hP))); first | with_reducible assumption | (apply chk_c; exact hP; (first | (guard_target = Prop; rotate_left 1) | skip))); (first | with_reducible exact Int.toNat_natCast _ | exact rfl)) | ((with_reducible apply f_slsl); exact rfl; exact rfl; exact rfl; (first | with_reducible assumption | (apply chk_c; exact hP; (first | (guard_target = Prop; rotate_left 1) | skip)))) | ((with_reducible apply f_slsh); exact rfl; exact rfl; exact rfl; (first | with_reducible assumption | (apply chk_c; exact hP; (first | (guard_target = Prop; rotate_left 1) | skip)))) | ((with_reducible apply f_slh); exact rfl; exact rfl; exact rfl; exact rfl; exact (fun _ => rfl); (first | with_reducible assumption | (apply chk_c; exact hP; (first | (guard_target = Prop; rotate_left 1) | skip)))) | ((with_reducible apply f_sh); exact rfl; exact rfl; exact rfl; exact (fun _ => rfl); (first | with_reducible assumption | (apply chk_c; exact hP; (first | (guard_target = Prop; rotate_left 1) | skip)))) | ((with_reducible apply f_sl); exact rfl; exact rfl; exact rfl; exact (fun _ => rfl); (first | with_reducible assumption | (apply chk_c; exact hP; (first | (guard_target = Prop; rotate_left 1) | skip)))))) | ((with_reducible apply (d_e (some [2]))); exact rfl; exact rfl; kernel_rfl; kernel_rfl; exact rfl; exact rfl; (first | ((with_reducible apply e_v); exact rfl) | ((with_reducible apply e_ld_el1); exact rfl; exact rfl; exact rfl; (first | with_reducible assumption | exact gt_row (by omega) (by omega) | exact rfl); exact rfl) | ((with_reducible apply e_ld_eln); exact rfl; exact rfl; exact rfl; (first | with_reducible assumption | exact gt_row (by omega) (by omega) | exact rfl); exact Nat.le_of_ble_eq_true rfl) | ((with_reducible apply f_ia); exact rfl; exact rfl; exact rfl; (case inst => exact inferInstance); exact rfl; exact rfl; (first | with_reducible assumption | (apply chk_c; exact hP; (first | (guard_target = Prop; rotate_left 1) | skip)))) | ((with_reducible apply f_iasl); exact rfl; exact rfl; exact rfl; (first | with_reducible assumption | (apply chk_c; exact hP; (first | (guard_target = Prop; rotate_left 1) | skip)))) | ((with_reducible apply e_ia_ar); exact rfl; exact rfl; exact rfl; ((repeat ((fail_if_success (have hTest : Hld False := hP)); (have hq := chk_c hP); (replace hP := chk_p hP))); first | with_reducible assumption | (apply chk_c; exact hP; (first | (guard_target = Prop; rotate_left 1) | skip))); ((repeat ((fail_if_success (have hTest : Hld False := hP)); (have hq := chk_c hP); (replace hP := chk_p hP))); first | with_reducible assumption | (apply chk_c; exact hP; (first | (guard_target = Prop; rotate_left 1) | skip))); (first | with_reducible exact Int.toNat_natCast _ | exact rfl)) | ((with_reducible apply f_slsl); exact rfl; exact rfl; exact rfl; (first | with_reducible assumption | (apply chk_c; exact hP; (first | (guard_target = Prop; rotate_left 1) | skip)))) | ((with_reducible apply f_slsh); exact rfl; exact rfl; exact rfl; (first | with_reducible assumption | (apply chk_c; exact hP; (first | (guard_target = Prop; rotate_left 1) | skip)))) | ((with_reducible apply f_slh); exact rfl; exact rfl; exact rfl; exact rfl; exact (fun _ => rfl); (first | with_reducible assumption | (apply chk_c; exact hP; (first | (guard_target = Prop; rotate_left 1) | skip)))) | ((with_reducible apply f_sh); exact rfl; exact rfl; exact rfl; exact (fun _ => rfl); (first | with_reducible assumption | (apply chk_c; exact hP; (first | (guard_target = Prop; rotate_left 1) | skip)))) | ((with_reducible apply f_sl); exact rfl; exact rfl; exact rfl; exact (fun _ => rfl); (first | with_reducible assumption | (apply chk_c; exact hP; (first | (guard_target = Prop; rotate_left 1) | skip)))))) | ((with_reducible apply d_st); exact rfl; exact (by decide +kernel); exact rfl; exact rfl; exact rfl; exact rfl; exact rfl; exact rfl; exact rfl) | ((with_reducible apply d_leaf); exact (by decide +kernel)) | ((fail_if_success (have hTest : Hld False := hP)); (replace hP := bth_b hP)))); all_goals (first | ((with_reducible apply n_doneZ); exact rfl; exact (by decide +kernel)) | skip))))
    | ((with_reducible apply v_gs); exact rfl; exact rfl; (exact hP); all_goals (clear hP; intro hg hP))
    | ((with_reducible apply v_if); exact rfl; (exact hP); all_goals (clear hP; intro hc hP)))
theorem numS_le (b : List Int) : (numS b).2.1.length ≤ b.length := by unfold numS; split <;> simp
theorem numS_ok {b : List Int} (h : (numS b).2.2 = true) : 3 ≤ b.length ∧ numS b = (num3 (gt b 0) (gt b 1) (gt b 2), b.drop 3, true) ∧ num3 (gt b 0) (gt b 1) (gt b 2) ≤ 65536 := by
  unfold numS at h ⊢
  by_cases hl : b.length < 3
  · rw [if_pos hl] at h; cases h
  · rw [if_neg hl] at h ⊢
    have h2 : num3 (gt b 0) (gt b 1) (gt b 2) ≤ 65536 := by simpa using h
    exact ⟨by omega, by rw [decide_eq_true h2], h2⟩
theorem numS_pos {b : List Int} (hb : InB b) : 0 ≤ (numS b).1 := by
  unfold numS
  by_cases hl : b.length < 3
  · rw [if_pos hl]; exact Int.le_refl _
  · rw [if_neg hl]
    have b0 := InB_gt hb (i := 0) (by omega) (by omega)
    have b1 := InB_gt hb (i := 1) (by omega) (by omega)
    have b2 := InB_gt hb (i := 2) (by omega) (by omega)
    show 0 ≤ num3 _ _ _
    unfold num3; omega
theorem read_ic (b : List Int) : ICp (0 < b.length ∧ b.length ≤ 131072) 60 [by_ b] (fun v => v = .tup [(readS b).1.v, by_ (readS b).2.1, bv (readS b).2.2]) := fun hb => (read_V b _).2 (by
  (delta read_V; dsimp only [mkV])
  simp only [show Int.toNat 1 = 1 from rfl]
  have hn := numS_le (b.drop 1)
  (repeat' (first | with_reducible refine brn_nd (fun h => ?_) (fun h => ?_) | with_reducible refine brn_d (fun h => ?_) (fun h => ?_) | with_reducible refine brn_nn (fun h => ?_) (fun h => ?_) | with_reducible refine brn_nb (fun h => ?_) (fun h => ?_) | with_reducible refine Brn.mk (fun h => ?_) (fun h => ?_) | with_reducible refine Chk.mk ?_ ?_ | with_reducible refine Bth.mk ?_ ?_ | with_reducible refine Fct.mk (fun hf => ?_)))
  all_goals
    have hin : InB b := InB_ok (by assumption : b.length ≤ _ ∧ _).2
    have hp := numS_pos (InB_drop 1 hin)
    simp only [List.length_drop] at hn
  all_goals first
    | omega
    | (rw [List.length_take]; omega)
    | (have e : readS b = (⟨0, 0, []⟩, [], false) := (by unfold readS; simp_all); rw [e]; rfl)
    | (simp; omega)
    | (have e : readS b = (⟨(numS (b.drop 1)).1, (numS (numS (b.drop 1)).2.1).1, []⟩, (numS (numS (b.drop 1)).2.1).2.1, (numS (numS (b.drop 1)).2.1).2.2 && decide (0 < (numS (numS (b.drop 1)).2.1).1)) := (by unfold readS; simp_all); rw [e]; simp_all [Opn.row]; done)
    | (have e : readS b = (⟨0, 0, (numS (b.drop 1)).2.1.take (numS (b.drop 1)).1.toNat⟩, (numS (b.drop 1)).2.1.drop (numS (b.drop 1)).1.toNat, true) := (by unfold readS; rw [if_neg (by simp_all), if_neg (by assumption), if_neg (by omega)]); rw [e]; rfl)
    | trace_state)
def parseR (b : List Int) (out : List Opn) : Option (List Opn) :=
  if b = [] then some out else
  if (readS b).2.2 = false ∨ out.length = 200 then none else
  if h : (readS b).2.1.length < b.length then parseR (readS b).2.1 (out ++ [(readS b).1]) else none
termination_by b.length
def parseS (b : List Int) : List Opn × Int := if 131072 < b.length then ([], 3) else match parseR b [] with | some l => (l, 0) | none => ([], 10)
noncomputable def Parse_V (b : List Int) (Q : SV → Prop) : Σ' P : Prop, (P → ICt 26 [.one (.d (.list (List.map irow_u8 b)))] Q) := by
  apply mkV; intro hP
  refine ic_wk (K 33) Try.func26 rfl rfl rfl rfl (fun w0 => ?_)
  apply (v_klist (x := 0)); exact rfl; exact hP; clear hP; intro hP
  repeat' (first
    | ((fail_if_success (have hTest : Hld False := hP)); (have hq := chk_c hP); (replace hP := chk_p hP))
    | ((with_reducible apply j_lst); exact rfl)
    | (with_reducible (first | apply c_seq | apply c_rg | apply j_nil | apply q_n | apply g_tt | apply g_ff | apply c_ct | apply c_cf | apply c_bl | apply c_ex | apply c_ret | apply c_sk | apply q_r | apply q_e | apply b_r | apply b_e | apply b_n | apply n_n | apply n_r | apply n_e))
    | ((with_reducible apply v_lenstr); exact rfl; exact rfl; kernel_rfl)
    | ((with_reducible apply c_l1); exact rfl; exact rfl)
    | ((with_reducible apply c_l2); exact rfl; exact rfl)
    | ((with_reducible apply c_l3); exact rfl)
    | ((with_reducible apply j_v); exact rfl; exact rfl)
    | ((with_reducible apply (v_bsf (d := 29) (Opn.row))); exact rfl; exact rfl; (focus (repeat' (first | exact row_nil | apply row_cons | exact Opn.row_mk _ _ _ | exact Opn.row_mk _ _ []))); exact rfl; exact rfl)
    | ((with_reducible apply (v_bs (Opn.row))); exact rfl; exact rfl; (focus (repeat' (first | exact row_nil | apply row_cons | exact Opn.row_mk _ _ _ | exact Opn.row_mk _ _ []))); exact rfl)
    | ((with_reducible apply j_h); exact rfl; exact rfl)
    | ((with_reducible apply j_s); exact rfl)
    | ((with_reducible apply j_g); exact rfl; exact rfl; (first | with_reducible assumption | with_reducible exact Eq.refl true | with_reducible exact Eq.refl false | (with_reducible refine not_t ?_; with_reducible assumption) | (with_reducible refine not_f ?_; with_reducible assumption) | (refine dec_t ?_; decide) | (refine dec_f ?_; decide)))
    | ((with_reducible apply g_tf); exact rfl)
    | ((with_reducible apply g_ft); exact rfl)
    | ((with_reducible apply j_gz); exact rfl; exact rfl; exact rfl)
    | ((with_reducible apply v_lenm); exact rfl; exact rfl; exact rfl; (exact hP); clear hP; intro hP)
    | ((with_reducible apply v_lens); exact rfl; exact rfl; exact rfl; (exact hP); clear hP; intro hP)
    | ((with_reducible apply j_len); exact rfl; exact rfl; exact rfl)
    | ((with_reducible apply j_len0); exact rfl; exact rfl; exact rfl)
    | ((with_reducible apply j_pk); exact rfl; exact rfl; (first | with_reducible assumption | with_reducible exact Eq.refl true | with_reducible exact Eq.refl false | (with_reducible refine not_t ?_; with_reducible assumption) | (with_reducible refine not_f ?_; with_reducible assumption) | (refine dec_t ?_; decide) | (refine dec_f ?_; decide)); exact rfl)
    | ((with_reducible apply (v_ap (Opn.row))); exact rfl; exact rfl; exact rfl; exact rfl; exact rfl; exact rfl; exact rfl; (first | exact rfl | exact row_one (Opn.row_mk _ _ _) | exact row_nil); exact rfl; exact rfl; exact rfl; (first | (apply src_sl; exact rfl; exact rfl; exact rfl) | (apply src_sl; exact rfl; exact rfl; rw [List.length_map]; omega) | (apply src_nil; exact rfl) | (apply src_d; exact rfl; (intro row hrow; obtain ⟨q, _, rfl⟩ := List.mem_map.1 hrow; rfl))); (first | exact rfl | exact row_one (Opn.row_mk _ _ _) | exact row_nil); exact rfl; exact rfl; exact rfl; (first | with_reducible assumption | (apply chk_c; exact hP; (first | (guard_target = Prop; rotate_left 1) | skip))))
    | ((with_reducible apply (v_ap0 (Opn.row))); exact rfl; exact rfl; exact rfl; exact rfl; exact rfl; exact rfl; (first | (apply src_sl; exact rfl; exact rfl; exact rfl) | (apply src_sl; exact rfl; exact rfl; rw [List.length_map]; omega) | (apply src_nil; exact rfl) | (apply src_d; exact rfl; (intro row hrow; obtain ⟨q, _, rfl⟩ := List.mem_map.1 hrow; rfl))); (first | exact rfl | exact row_one (Opn.row_mk _ _ _) | exact row_nil); exact rfl; exact rfl; exact rfl; (first | with_reducible assumption | (apply chk_c; exact hP; (first | (guard_target = Prop; rotate_left 1) | skip))))
    | ((with_reducible apply c_c); exact rfl; (first | with_reducible assumption | with_reducible exact Eq.refl true | with_reducible exact Eq.refl false | (with_reducible refine not_t ?_; with_reducible assumption) | (with_reducible refine not_f ?_; with_reducible assumption) | (refine dec_t ?_; decide) | (refine dec_f ?_; decide)))
    | ((with_reducible apply b_o); exact rfl)
    | ((with_reducible apply r_g); exact rfl; (· repeat' (first | exact True.intro | refine And.intro ?_ ?_ | (show (_ : Nat) = _; (first | exact rfl | exact (List.length_map _).symm | omega | (simp only [List.length_set, List.length_map, List.length_append] <;> omega) | (simp; done))))); (exact hP.out))
    | ((with_reducible apply v_call (pu := true)); exact rfl; exact ⟨rfl, rfl⟩; apply (read_ic _); rotate_left 1; (focus ((repeat' (first | exact .nil _ | refine PsL.cons ?_ ?_ | refine PsSL.cons ?_ ?_ | exact .one (.d _ _) | exact .one psc_nilm | exact psc_nilm | exact .one (.nil _) | exact .one (.nn _) | exact .one (.tape _) | exact .one (.fn _ _) | exact .agg (.same _ _) | refine .agg ?_ | exact .d _ _ | exact .one (.sl rfl rfl) | exact .one (.sl rfl (List.length_map _).symm) | exact .sl rfl rfl | exact .sl rfl (List.length_map _).symm | exact .same _ _)) <;> fail)); exact .inl rfl; (first | with_reducible assumption | (apply chk_c; exact hP; (first | (guard_target = Prop; rotate_left 1) | skip))))
    | ((with_reducible refine v_loopat (c := (.seq (.seq (.region 4 _ _) _) _)) ?_); (apply (v_loop2 [] _ [] [] (fun x1 x2 => [(0, .one (.d (.list (List.map irow_u8 x2)))), (4, .one (.sl 204 (List.length x1) 3))]) (fun x1 x2 => [(204, .arr 72 3 (List.map Opn.row x1))]) [204])); exact rfl; exact rfl; (focus (refine ⟨?_, ?_⟩; rotate_left 1; (focus (repeat' (first | exact .nil | exact .nil _ | refine .cons ?_ ?_ | exact .u _ | exact SVle_pl rfl | refine .one ?_ | refine .agg ?_ | exact .d rfl | exact .ref rfl rfl | exact .sl rfl (by first | rfl | exact List.length_set.symm | exact (splT_len (by simp only [List.length_take, List.length_drop]; omega)).symm | omega | (rw [List.length_append, List.length_map]; show _ + 1 = _; omega) | simp) | exact .fn _ | exact .tape | exact .nils rfl | exact .nild | exact .nildm | exact .nil | exact .rp (by simp) | exact .clo (by simp) | exact .el rfl rfl rfl | exact .d (by first | rfl | (congr 1; omega) | (congr 1; assumption) | simp) | exact .virt rfl | exact .gone _ | refine .blk rfl ?_ | exact .arr rfl (by first | rfl | assumption | simp)))); (focus (repeat' (first | exact .nil | exact .nil _ | refine .cons ?_ ?_ | exact .u _ | exact SVle_pl rfl | refine .one ?_ | refine .agg ?_ | exact .d rfl | exact .ref rfl rfl | exact .sl rfl (by first | rfl | exact List.length_set.symm | exact (splT_len (by simp only [List.length_take, List.length_drop]; omega)).symm | omega | (rw [List.length_append, List.length_map]; show _ + 1 = _; omega) | simp) | exact .fn _ | exact .tape | exact .nils rfl | exact .nild | exact .nildm | exact .nil | exact .rp (by simp) | exact .clo (by simp) | exact .el rfl rfl rfl | exact .d (by first | rfl | (congr 1; omega) | (congr 1; assumption) | simp) | exact .virt rfl | exact .gone _ | refine .blk rfl ?_ | exact .arr rfl (by first | rfl | assumption | simp)))))); (exact hP); clear hP; intro I μ x1 x2 hP)
    | ((with_reducible apply (v_nxt2 (a1 := _) (a2 := _))); rotate_left 1; (focus (repeat' (first | exact .nil | exact .nil _ | refine .cons ?_ ?_ | exact .u _ | exact SVle_pl rfl | refine .one ?_ | refine .agg ?_ | exact .d rfl | exact .ref rfl rfl | exact .sl rfl (by first | rfl | exact List.length_set.symm | exact (splT_len (by simp only [List.length_take, List.length_drop]; omega)).symm | omega | (rw [List.length_append, List.length_map]; show _ + 1 = _; omega) | simp) | exact .fn _ | exact .tape | exact .nils rfl | exact .nild | exact .nildm | exact .nil | exact .rp (by simp) | exact .clo (by simp) | exact .el rfl rfl rfl | exact .d (by first | rfl | (congr 1; omega) | (congr 1; assumption) | simp) | exact .virt rfl | exact .gone _ | refine .blk rfl ?_ | exact .arr rfl (by first | rfl | assumption | simp)))); rotate_right 1; (focus (repeat' (first | exact .nil | exact .nil _ | refine .cons ?_ ?_ | exact .u _ | exact SVle_pl rfl | refine .one ?_ | refine .agg ?_ | exact .d rfl | exact .ref rfl rfl | exact .sl rfl (by first | rfl | exact List.length_set.symm | exact (splT_len (by simp only [List.length_take, List.length_drop]; omega)).symm | omega | (rw [List.length_append, List.length_map]; show _ + 1 = _; omega) | simp) | exact .fn _ | exact .tape | exact .nils rfl | exact .nild | exact .nildm | exact .nil | exact .rp (by simp) | exact .clo (by simp) | exact .el rfl rfl rfl | exact .d (by first | rfl | (congr 1; omega) | (congr 1; assumption) | simp) | exact .virt rfl | exact .gone _ | refine .blk rfl ?_ | exact .arr rfl (by first | rfl | assumption | simp)))); (exact hP))
    | ((with_reducible apply v_gs); exact rfl; exact rfl; (exact hP); all_goals (clear hP; intro hg hP))
    | ((with_reducible apply v_if); exact rfl; (exact hP); all_goals (clear hP; intro hc hP)))
theorem readS_lt {b : List Int} (h : (readS b).2.2 = true) : (readS b).2.1.length < b.length := by
  have h1 := numS_le (b.drop 1)
  have h2 := numS_le (numS (b.drop 1)).2.1
  have h3 : (numS (b.drop 1)).2.2 = true → 1 ≤ b.length := fun q => by have := (numS_ok q).1; simp at this; omega
  unfold readS at h ⊢
  simp only [List.length_drop] at h1
  split at h
  · cases h
  · rename_i c
    rw [if_neg c]
    have c1 : (numS (b.drop 1)).2.2 = true := by simpa using (not_or.1 c).1
    have := h3 c1
    split at h
    · rename_i c2; rw [if_pos c2]; dsimp only; omega
    · rename_i c2
      rw [if_neg c2]
      split at h
      · cases h
      · rename_i c3; rw [if_neg c3]; dsimp only; rw [List.length_drop]; omega
theorem pr_none {b : List Int} (hb : ¬ 131072 < b.length) (h : parseR b [] = none) : SV.tup [SV.one (CV.d (Cell.list [])), SV.one (CV.d (Cell.int IntKind.i64 10))] = SV.tup [ov (parseS b).1, iv (parseS b).2] := by
  have e : parseS b = ([], 10) := by unfold parseS; rw [if_neg hb, h]
  rw [e]; rfl
theorem pr_some {b : List Int} {l : List Opn} (hb : ¬ 131072 < b.length) (h : parseR b [] = some l) : SV.tup [ov l, SV.one (CV.d (Cell.int IntKind.i64 0))] = SV.tup [ov (parseS b).1, iv (parseS b).2] := by
  have e : parseS b = (l, 0) := by unfold parseS; rw [if_neg hb, h]
  rw [e]
theorem Parse_ic (b : List Int) : ICt 26 [by_ b] (fun v => v = .tup [ov (parseS b).1, iv (parseS b).2]) := (Parse_V b _).2 (by
  (delta Parse_V; dsimp only [mkV])
  (repeat' (first | with_reducible refine brn_nd (fun h => ?_) (fun h => ?_) | with_reducible refine brn_d (fun h => ?_) (fun h => ?_) | with_reducible refine brn_nn (fun h => ?_) (fun h => ?_) | with_reducible refine brn_nb (fun h => ?_) (fun h => ?_) | with_reducible refine Brn.mk (fun h => ?_) (fun h => ?_) | with_reducible refine Chk.mk ?_ ?_ | with_reducible refine Bth.mk ?_ ?_ | with_reducible refine Fct.mk (fun hf => ?_)))
  · have e : parseS b = ([], 3) := if_pos (by omega)
    rw [e]; rfl
  have hlb : ¬ 131072 < b.length := by omega
  refine ⟨fun out x => parseR x out = parseR b [] ∧ x.length ≤ b.length ∧ out.length ≤ 200, fun _ x => x.length, ⟨rfl, Nat.le_refl _, by simp⟩, fun out x ⟨hp, hx, ho⟩ => ?_⟩
  have hno : 0 < x.length → ((readS x).2.2 = false ∨ out.length = 200) → parseR b [] = none := fun h0 h => by
    rw [← hp, parseR, if_neg (by intro e; subst e; simp at h0), if_pos h]
  have hyes : 0 < x.length → (readS x).2.2 = true → ¬ out.length = 200 → parseR (readS x).2.1 (out ++ [(readS x).1]) = parseR b [] := fun h0 h1 h2 => by
    rw [← hp]
    conv => rhs; rw [parseR]
    rw [if_neg (by intro e; subst e; simp at h0), if_neg (by rw [h1]; simp; exact h2), dif_pos (readS_lt h1)]
  (repeat' (first | with_reducible refine brn_nd (fun h => ?_) (fun h => ?_) | with_reducible refine brn_d (fun h => ?_) (fun h => ?_) | with_reducible refine brn_nn (fun h => ?_) (fun h => ?_) | with_reducible refine brn_nb (fun h => ?_) (fun h => ?_) | with_reducible refine Brn.mk (fun h => ?_) (fun h => ?_) | with_reducible refine Chk.mk ?_ ?_ | with_reducible refine Bth.mk ?_ ?_ | with_reducible refine Fct.mk (fun hf => ?_)))
  · omega
  · exact pr_none hlb (hno (by omega) (.inl (by assumption)))
  · exact pr_none hlb (hno (by omega) (.inr (by omega)))
  · first | omega | (simp only [List.length_cons, List.length_nil]; omega)
  · have hr : (readS x).2.2 = true := by assumption
    have hlt := readS_lt hr
    refine ⟨⟨hyes (by omega) hr (by omega), by omega, by simp only [List.length_append, List.length_cons, List.length_nil]; omega⟩, hlt⟩
  · have : x = [] := List.eq_nil_of_length_eq_zero (by omega)
    subst this
    refine pr_some hlb ?_
    rw [← hp, parseR, if_pos rfl])
noncomputable def Same_V (a : List Opn) (b : List Opn) (Q : SV → Prop) : Σ' P : Prop, (P → ICt 28 [.one (.d (.list (List.map Opn.row a))), .one (.d (.list (List.map Opn.row b)))] Q) := by
  apply mkV; intro hP
  refine ic_wk (K 56) Try.func28 rfl rfl rfl rfl (fun w0 => ?_)
  apply (v_klist (x := 0)); exact rfl; exact hP; clear hP; intro hP
  apply (v_klist (x := 1)); exact rfl; exact hP; clear hP; intro hP
  repeat' (first
    | ((fail_if_success (have hTest : Hld False := hP)); (have hq := chk_c hP); (replace hP := chk_p hP))
    | ((with_reducible apply j_lst); exact rfl)
    | (with_reducible (first | apply c_seq | apply c_rg | apply j_nil | apply q_n | apply g_tt | apply g_ff | apply c_ct | apply c_cf | apply c_bl | apply c_ex | apply c_ret | apply c_sk | apply q_r | apply q_e | apply b_r | apply b_e | apply b_n | apply n_n | apply n_r | apply n_e))
    | ((with_reducible apply (v_bstr (t := 23) (t' := 9))); exact rfl; kernel_rfl; (first | exact .d _ | (refine .sl rfl ?_; (first | exact rfl | exact (List.length_map _).symm | omega | (simp only [List.length_set, List.length_map, List.length_append] <;> omega) | (simp; done))) | (refine .slp rfl ?_; (first | omega | (first | with_reducible assumption | (apply chk_c; exact hP; (first | (guard_target = Prop; rotate_left 1) | skip)))))))
    | ((with_reducible apply (v_bstr0 (t := 23) (t' := 9))); exact rfl; kernel_rfl; exact rfl)
    | ((with_reducible apply v_lenstr); exact rfl; exact rfl; kernel_rfl)
    | ((with_reducible apply c_l1); exact rfl; exact rfl)
    | ((with_reducible apply c_l2); exact rfl; exact rfl)
    | ((with_reducible apply c_l3); exact rfl)
    | ((with_reducible apply j_v); exact rfl; exact rfl)
    | ((with_reducible apply j_g); exact rfl; exact rfl; (first | with_reducible assumption | with_reducible exact Eq.refl true | with_reducible exact Eq.refl false | (with_reducible refine not_t ?_; with_reducible assumption) | (with_reducible refine not_f ?_; with_reducible assumption) | (refine dec_t ?_; decide) | (refine dec_f ?_; decide)))
    | ((with_reducible apply g_tf); exact rfl)
    | ((with_reducible apply g_ft); exact rfl)
    | ((with_reducible apply j_gz); exact rfl; exact rfl; exact rfl)
    | ((with_reducible apply v_lenm); exact rfl; exact rfl; exact rfl; (exact hP); clear hP; intro hP)
    | ((with_reducible apply v_lens); exact rfl; exact rfl; exact rfl; (exact hP); clear hP; intro hP)
    | ((with_reducible apply j_len); exact rfl; exact rfl; exact rfl)
    | ((with_reducible apply j_len0); exact rfl; exact rfl; exact rfl)
    | ((with_reducible apply j_pk); exact rfl; exact rfl; (first | with_reducible assumption | with_reducible exact Eq.refl true | with_reducible exact Eq.refl false | (with_reducible refine not_t ?_; with_reducible assumption) | (with_reducible refine not_f ?_; with_reducible assumption) | (refine dec_t ?_; decide) | (refine dec_f ?_; decide)); exact rfl)
    | ((with_reducible apply j_ld_el1); exact rfl; exact rfl; exact rfl; exact rfl; (first | with_reducible assumption | exact gt_row (by omega) (by omega) | exact rfl); exact rfl)
    | ((with_reducible apply j_add); exact rfl; exact rfl; exact rfl; (first | (with_reducible apply wr_i64; (first | with_reducible assumption | (apply chk_c; exact hP; (first | (guard_target = Prop; rotate_left 1) | skip)))) | exact rfl))
    | ((with_reducible apply v_ia); exact rfl; exact rfl; exact rfl; exact rfl; (case inst => exact inferInstance); exact rfl; exact rfl; (first | with_reducible assumption | (apply chk_c; exact hP; (first | (guard_target = Prop; rotate_left 1) | skip))))
    | ((with_reducible apply v_iasl); exact rfl; exact rfl; exact rfl; exact rfl; (first | with_reducible assumption | (apply chk_c; exact hP; (first | (guard_target = Prop; rotate_left 1) | skip))))
    | ((with_reducible apply j_ia_ar); exact rfl; exact rfl; exact rfl; exact rfl; ((repeat ((fail_if_success (have hTest : Hld False := hP)); (have hq := chk_c hP); (replace hP := chk_p hP))); first | with_reducible assumption | (apply chk_c; exact hP; (first | (guard_target = Prop; rotate_left 1) | skip))); ((repeat ((fail_if_success (have hTest : Hld False := hP)); (have hq := chk_c hP); (replace hP := chk_p hP))); first | with_reducible assumption | (apply chk_c; exact hP; (first | (guard_target = Prop; rotate_left 1) | skip))); (first | with_reducible exact Int.toNat_natCast _ | exact rfl))
    | ((with_reducible apply c_c); exact rfl; (first | with_reducible assumption | with_reducible exact Eq.refl true | with_reducible exact Eq.refl false | (with_reducible refine not_t ?_; with_reducible assumption) | (with_reducible refine not_f ?_; with_reducible assumption) | (refine dec_t ?_; decide) | (refine dec_f ?_; decide)))
    | ((with_reducible apply b_o); exact rfl)
    | ((with_reducible apply v_strne); exact rfl; kernel_rfl; exact rfl; exact rfl)
    | ((with_reducible apply r_g); exact rfl; (· repeat' (first | exact True.intro | refine And.intro ?_ ?_ | (show (_ : Nat) = _; (first | exact rfl | exact (List.length_map _).symm | omega | (simp only [List.length_set, List.length_map, List.length_append] <;> omega) | (simp; done))))); (exact hP.out))
    | ((with_reducible refine v_loopat (c := (.seq (.seq (.region 4 _ _) _) _)) ?_); (apply (v_loop1 _ [0, 1] [] (fun x1 => [(5, .one (.d (.int .i64 x1)))]) (fun x1 => []) [])); exact rfl; exact rfl; exact ⟨(by repeat' (first | exact .nil | exact .nil _ | refine .cons ?_ ?_ | exact .u _ | exact SVle_pl rfl | refine .one ?_ | refine .agg ?_ | exact .d rfl | exact .ref rfl rfl | exact .sl rfl (by first | rfl | omega | (rw [List.length_append, List.length_map]; show _ + 1 = _; omega) | simp) | exact .fn _ | exact .tape | exact .nils rfl | exact .nild | exact .nildm | exact .nil | exact .rp (by simp) | exact .clo (by simp) | exact .el rfl rfl rfl | exact .d (by first | rfl | (congr 1; omega) | (congr 1; assumption) | simp) | exact .virt rfl | exact .gone _ | refine .blk rfl ?_ | exact .arr rfl (by first | rfl | assumption | simp))), (by repeat' (first | exact .nil | exact .nil _ | refine .cons ?_ ?_ | exact .u _ | exact SVle_pl rfl | refine .one ?_ | refine .agg ?_ | exact .d rfl | exact .ref rfl rfl | exact .sl rfl (by first | rfl | omega | (rw [List.length_append, List.length_map]; show _ + 1 = _; omega) | simp) | exact .fn _ | exact .tape | exact .nils rfl | exact .nild | exact .nildm | exact .nil | exact .rp (by simp) | exact .clo (by simp) | exact .el rfl rfl rfl | exact .d (by first | rfl | (congr 1; omega) | (congr 1; assumption) | simp) | exact .virt rfl | exact .gone _ | refine .blk rfl ?_ | exact .arr rfl (by first | rfl | assumption | simp)))⟩; (exact hP); clear hP; intro I μ x1 hP)
    | ((with_reducible apply (v_nxt1 (a1 := _))); (repeat' (first | exact .nil | exact .nil _ | refine .cons ?_ ?_ | exact .u _ | exact SVle_pl rfl | refine .one ?_ | refine .agg ?_ | exact .d rfl | exact .ref rfl rfl | exact .sl rfl (by first | rfl | exact List.length_set.symm | exact (splT_len (by simp only [List.length_take, List.length_drop]; omega)).symm | omega | (rw [List.length_append, List.length_map]; show _ + 1 = _; omega) | simp) | exact .fn _ | exact .tape | exact .nils rfl | exact .nild | exact .nildm | exact .nil | exact .rp (by simp) | exact .clo (by simp) | exact .el rfl rfl rfl | exact .d (by first | rfl | (congr 1; omega) | (congr 1; assumption) | simp) | exact .virt rfl | exact .gone _ | refine .blk rfl ?_ | exact .arr rfl (by first | rfl | assumption | simp))); (repeat' (first | exact .nil | exact .nil _ | refine .cons ?_ ?_ | exact .u _ | exact SVle_pl rfl | refine .one ?_ | refine .agg ?_ | exact .d rfl | exact .ref rfl rfl | exact .sl rfl (by first | rfl | exact List.length_set.symm | exact (splT_len (by simp only [List.length_take, List.length_drop]; omega)).symm | omega | (rw [List.length_append, List.length_map]; show _ + 1 = _; omega) | simp) | exact .fn _ | exact .tape | exact .nils rfl | exact .nild | exact .nildm | exact .nil | exact .rp (by simp) | exact .clo (by simp) | exact .el rfl rfl rfl | exact .d (by first | rfl | (congr 1; omega) | (congr 1; assumption) | simp) | exact .virt rfl | exact .gone _ | refine .blk rfl ?_ | exact .arr rfl (by first | rfl | assumption | simp))); (exact hP))
    | ((with_reducible refine v_rgat (i := 6) ?_); (refine n_start (by kernel_rfl) ?_; (refine n_quiet none #[true, true, true, true, true, true, true, true, true, true, true, true, true, true, true, true, true, true, true, true, true, true, true, true, true, true, true, true, true, true, true, true, true, true, true, true, true, true, true] [0, 1, 2, 3, 4, 5, 6, 7, 8, 9, 10, 11, 12, 13, 14, 15, 16, 17, 18, 19, 20, 21, 22, 23, 24, 25, 26, 27, 28, 29, 30, 31, 32, 33, 34, 35, 36, 37, 38] 0 rfl ?_; (repeat' (first | ((fail_if_success (have hTest : Hld False := hP)); (have hq := chk_c hP); (replace hP := chk_p hP)) | ((with_reducible apply (d_e (some []))); exact rfl; exact rfl; kernel_rfl; kernel_rfl; exact rfl; exact rfl; (first | ((with_reducible apply e_v); exact rfl) | ((with_reducible apply e_pk); exact rfl; (first | with_reducible assumption | with_reducible exact Eq.refl true | with_reducible exact Eq.refl false | (with_reducible refine not_t ?_; with_reducible assumption) | (with_reducible refine not_f ?_; with_reducible assumption) | (refine dec_t ?_; decide) | (refine dec_f ?_; decide)); exact rfl) | ((with_reducible apply e_ld_el1); exact rfl; exact rfl; exact rfl; (first | with_reducible assumption | exact gt_row (by omega) (by omega) | exact rfl); exact rfl) | ((with_reducible apply e_ld_eln); exact rfl; exact rfl; exact rfl; (first | with_reducible assumption | exact gt_row (by omega) (by omega) | exact rfl); exact Nat.le_of_ble_eq_true rfl) | ((with_reducible apply f_ia); exact rfl; exact rfl; exact rfl; (case inst => exact inferInstance); exact rfl; exact rfl; (first | with_reducible assumption | (apply chk_c; exact hP; (first | (guard_target = Prop; rotate_left 1) | skip)))) | ((with_reducible apply f_iasl); exact rfl; exact rfl; exact rfl; (first | with_reducible assumption | (apply chk_c; exact hP; (first | (guard_target = Prop; rotate_left 1) | skip)))) | ((with_reducible apply e_ia_ar); exact rfl; exact rfl; exact rfl; ((repeat ((fail_if_success (have hTest : Hld False := hP)); (have hq := chk_c hP); (replace hP := chk_p hP))); first | with_reducible assumption | (apply chk_c; exact hP; (first | (guard_target = Prop; rotate_left 1) | skip))); ((repeat ((fail_if_success (have hTest : Hld False := hP)); (have hq := chk_c hP); (replace hP := chk_p hP))); first | with_reducible assumption | (apply chk_c; exact hP; (first | (guard_target = Prop; rotate_left 1) | skip))); (first | with_reducible exact Int.toNat_natCast _ | exact rfl)) | ((with_reducible apply f_strne); kernel_rfl; exact rfl; exact rfl) | ((with_reducible apply (f_bstr (t := 23) (t' := 9))); kernel_rfl; (first | exact .d _ | (refine .sl rfl ?_; (first | exact rfl | exact (List.length_map _).symm | omega | (simp only [List.length_set, List.length_map, List.length_append] <;> omega) | (simp; done))) | (refine .slp rfl ?_; (first | omega | (first | with_reducible assumption | (apply chk_c; exact hP; (first | (guard_target = Prop; rotate_left 1) | skip))))))) | ((with_reducible apply (f_bstr0 (t := 23) (t' := 9))); kernel_rfl; exact rfl))) | ((with_reducible apply (d_ey (some []))); exact rfl; exact rfl; exact rfl; (first | with_reducible assumption | with_reducible rfl | (with_reducible refine not_t ?_; with_reducible assumption) | (with_reducible refine not_f ?_; with_reducible assumption) | decide); exact rfl; kernel_rfl; kernel_rfl; exact rfl; exact rfl; (first | ((with_reducible apply e_v); exact rfl) | ((with_reducible apply e_pk); exact rfl; (first | with_reducible assumption | with_reducible exact Eq.refl true | with_reducible exact Eq.refl false | (with_reducible refine not_t ?_; with_reducible assumption) | (with_reducible refine not_f ?_; with_reducible assumption) | (refine dec_t ?_; decide) | (refine dec_f ?_; decide)); exact rfl) | ((with_reducible apply e_ld_el1); exact rfl; exact rfl; exact rfl; (first | with_reducible assumption | exact gt_row (by omega) (by omega) | exact rfl); exact rfl) | ((with_reducible apply e_ld_eln); exact rfl; exact rfl; exact rfl; (first | with_reducible assumption | exact gt_row (by omega) (by omega) | exact rfl); exact Nat.le_of_ble_eq_true rfl) | ((with_reducible apply f_ia); exact rfl; exact rfl; exact rfl; (case inst => exact inferInstance); exact rfl; exact rfl; (first | with_reducible assumption | (apply chk_c; exact hP; (first | (guard_target = Prop; rotate_left 1) | skip)))) | ((with_reducible apply f_iasl); exact rfl; exact rfl; exact rfl; (first | with_reducible assumption | (apply chk_c; exact hP; (first | (guard_target = Prop; rotate_left 1) | skip)))) | ((with_reducible apply e_ia_ar); exact rfl; exact rfl; exact rfl; ((repeat ((fail_if_success (have hTest : Hld False := hP)); (have hq := chk_c hP); (replace hP := chk_p hP))); first | with_reducible assumption | (apply chk_c; exact hP; (first | (guard_target = Prop; rotate_left 1) | skip))); ((repeat ((fail_if_success (have hTest : Hld False := hP)); (have hq := chk_c hP); (replace hP := chk_p hP))); first | with_reducible assumption | (apply chk_c; exact hP; (first | (guard_target = Prop; rotate_left 1) | skip))); (first | with_reducible exact Int.toNat_natCast _ | exact rfl)) | ((with_reducible apply f_strne); kernel_rfl; exact rfl; exact rfl) | ((with_reducible apply (f_bstr (t := 23) (t' := 9))); kernel_rfl; (first | exact .d _ | (refine .sl rfl ?_; (first | exact rfl | exact (List.length_map _).symm | omega | (simp only [List.length_set, List.length_map, List.length_append] <;> omega) | (simp; done))) | (refine .slp rfl ?_; (first | omega | (first | with_reducible assumption | (apply chk_c; exact hP; (first | (guard_target = Prop; rotate_left 1) | skip))))))) | ((with_reducible apply (f_bstr0 (t := 23) (t' := 9))); kernel_rfl; exact rfl))) | ((with_reducible apply d_gn); exact rfl; exact rfl; exact rfl; (first | with_reducible assumption | with_reducible rfl | (with_reducible refine not_t ?_; with_reducible assumption) | (with_reducible refine not_f ?_; with_reducible assumption) | decide); exact rfl; kernel_rfl; kernel_rfl; exact rfl; exact rfl) | ((with_reducible apply d_gm); exact rfl; exact rfl; exact rfl; (first | with_reducible assumption | with_reducible rfl | (with_reducible refine not_t ?_; with_reducible assumption) | (with_reducible refine not_f ?_; with_reducible assumption) | decide); exact rfl; kernel_rfl; kernel_rfl; exact rfl; exact rfl) | ((with_reducible apply d_gz); exact rfl; exact rfl; exact rfl; exact rfl; kernel_rfl; kernel_rfl; exact rfl; exact rfl) | ((with_reducible apply v_dgs); exact rfl; exact rfl; exact rfl; ((repeat ((fail_if_success (have hTest : Hld False := hP)); (have hq := chk_c hP); (replace hP := chk_p hP))); exact hP); all_goals (clear hP; intro hg hP)) | ((with_reducible apply d_leaf); exact (by decide +kernel)) | ((fail_if_success (have hTest : Hld False := hP)); (replace hP := bth_b hP)))); all_goals (first | ((with_reducible apply n_doneZ); exact rfl; exact (by decide +kernel)) | skip))))
    | ((with_reducible apply v_gs); exact rfl; exact rfl; (exact hP); all_goals (clear hP; intro hg hP))
    | ((with_reducible apply v_if); exact rfl; (exact hP); all_goals (clear hP; intro hc hP)))
theorem Same_ic (a b : List Opn) : ICp (a = b) 28 [ov a, ov b] (fun v => v = bv true) := fun hab => (Same_V a b _).2 (by
  subst hab
  (delta Same_V; dsimp only [mkV])
  (repeat' (first | with_reducible refine brn_nd (fun h => ?_) (fun h => ?_) | with_reducible refine brn_d (fun h => ?_) (fun h => ?_) | with_reducible refine brn_nn (fun h => ?_) (fun h => ?_) | with_reducible refine brn_nb (fun h => ?_) (fun h => ?_) | with_reducible refine Brn.mk (fun h => ?_) (fun h => ?_) | with_reducible refine Chk.mk ?_ ?_ | with_reducible refine Bth.mk ?_ ?_ | with_reducible refine Fct.mk (fun hf => ?_)))
  · exfalso; contradiction
  refine fct1 (up0 (by omega) (by omega) (fun I μ z hz0 hz1 nx => ?_) (fun I μ => ?_))
  · (repeat' (first | with_reducible refine brn_nd (fun h => ?_) (fun h => ?_) | with_reducible refine brn_d (fun h => ?_) (fun h => ?_) | with_reducible refine brn_nn (fun h => ?_) (fun h => ?_) | with_reducible refine brn_nb (fun h => ?_) (fun h => ?_) | with_reducible refine Brn.mk (fun h => ?_) (fun h => ?_) | with_reducible refine Chk.mk ?_ ?_ | with_reducible refine Bth.mk ?_ ?_ | with_reducible refine Fct.mk (fun hf => ?_)))
    all_goals first | omega | (unfold InI; omega) | exact nx | (exfalso; contradiction) | trace_state
  · rfl)
end Go.Proofs.Ytbnmcdnkeipdhaa
