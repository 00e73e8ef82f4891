/- Estates: bits; the reference's state. -/
import Derived.Test.YtoflahjlnbligaaCf
set_option linter.all false
set_option maxRecDepth 20000
set_option maxHeartbeats 4000000
namespace Go.Proofs.Ytoflahjlnbligaa
open Go.RowKit Go.Shelf
def tb (x c : Int) : Bool := x.toNat.testBit c.toNat
def U64 (x : Int) : Prop := 0 ≤ x ∧ x < 18446744073709551616
theorem u64_bv (v : BitVec 64) : IntKind.u64.wrap (v.toNat : Int) = (v.toNat : Int) := by
  have := v.isLt
  exact wr_u64 ⟨by omega, by omega⟩
theorem u64_U (v : BitVec 64) : U64 (v.toNat : Int) := by
  have := v.isLt
  exact ⟨by omega, by omega⟩
theorem bv_tb {x : Int} (h : U64 x) (c : Int) : (BitVec.ofInt 64 x).getLsbD c.toNat = tb x c := by
  obtain ⟨h0, h1⟩ := h
  unfold tb
  rw [BitVec.getLsbD, BitVec.toNat_ofInt]
  congr 1
  omega
theorem bits_or_U (x y : Int) : U64 (bits .or .u64 x y) := by
  show U64 (IntKind.u64.wrap (((BitVec.ofInt 64 x) ||| (BitVec.ofInt 64 y)).toNat : Int)); rw [u64_bv]; exact u64_U _
theorem bits_an_U (x y : Int) : U64 (bits .andNot .u64 x y) := by
  show U64 (IntKind.u64.wrap (((BitVec.ofInt 64 x) &&& ~~~ (BitVec.ofInt 64 y)).toNat : Int)); rw [u64_bv]; exact u64_U _
theorem tb_or {x y : Int} (hx : U64 x) (hy : U64 y) (c : Int) : tb (bits .or .u64 x y) c = (tb x c || tb y c) := by
  show tb (IntKind.u64.wrap (((BitVec.ofInt 64 x) ||| (BitVec.ofInt 64 y)).toNat : Int)) c = _
  rw [u64_bv, ← bv_tb hx, ← bv_tb hy, ← BitVec.getLsbD_or]
  rfl
theorem tb_an {x y : Int} (hx : U64 x) (hy : U64 y) {c : Int} (hc : 0 ≤ c ∧ c ≤ 63) : tb (bits .andNot .u64 x y) c = (tb x c && !tb y c) := by
  show tb (IntKind.u64.wrap (((BitVec.ofInt 64 x) &&& ~~~ (BitVec.ofInt 64 y)).toNat : Int)) c = _
  rw [u64_bv, ← bv_tb hx, ← bv_tb hy]
  have : (BitVec.ofInt 64 x &&& ~~~ (BitVec.ofInt 64 y)).getLsbD c.toNat = _ := BitVec.getLsbD_and
  rw [BitVec.getLsbD_not] at this
  rw [show decide (c.toNat < 64) = true by simp; omega, Bool.true_and] at this
  exact this
theorem bitv_eq {c : Int} (hc : 0 ≤ c ∧ c ≤ 63) : bitv c = ((2 ^ c.toNat : Nat) : Int) := by
  unfold bitv
  have h1 : min c.toNat 64 = c.toNat := by omega
  have h2 : (2 ^ c.toNat : Nat) ≤ 2 ^ 63 := Nat.pow_le_pow_right (by omega) (by omega)
  rw [h1, Int.one_mul]
  have h3 : ((2 : Int) ^ c.toNat) = ((2 ^ c.toNat : Nat) : Int) := by push_cast; rfl
  rw [h3]
  generalize (2 ^ c.toNat : Nat) = k at h2
  exact wr_u64 ⟨by omega, by omega⟩
theorem bitv_U {c : Int} (hc : 0 ≤ c ∧ c ≤ 63) : U64 (bitv c) := by
  rw [bitv_eq hc]
  have h2 : (2 ^ c.toNat : Nat) ≤ 2 ^ 63 := Nat.pow_le_pow_right (by omega) (by omega)
  generalize (2 ^ c.toNat : Nat) = k at h2
  exact ⟨by omega, by omega⟩
theorem tb_bitv {c d : Int} (hc : 0 ≤ c ∧ c ≤ 63) (hd : 0 ≤ d) : tb (bitv c) d = decide (c = d) := by
  rw [bitv_eq hc]
  unfold tb
  rw [Int.toNat_natCast, Nat.testBit_two_pow]
  by_cases e : c = d
  · simp [e]
  · simp [e]; omega
theorem tb_zero (c : Int) : tb 0 c = false := by simp [tb]
theorem U_zero : U64 0 := by unfold U64; omega
theorem and_bit {x c : Int} (hx : U64 x) (hc : 0 ≤ c ∧ c ≤ 63) : decide (bits .and .u64 x (bitv c) = 0) = !tb x c := by
  have h0 : bits .and .u64 x (bitv c) = (((BitVec.ofInt 64 x) &&& (BitVec.ofInt 64 (bitv c))).toNat : Int) := by
    show IntKind.u64.wrap (((BitVec.ofInt 64 x) &&& (BitVec.ofInt 64 (bitv c))).toNat : Int) = _; rw [u64_bv]
  rw [h0]
  cases hb : tb x c with
  | true =>
    have : (BitVec.ofInt 64 x &&& BitVec.ofInt 64 (bitv c)).getLsbD c.toNat = true := by
      rw [BitVec.getLsbD_and, bv_tb hx, bv_tb (bitv_U hc), tb_bitv hc (by omega), hb]; simp
    simp only [Bool.not_true, decide_eq_false_iff_not]
    intro e
    have e0 : (BitVec.ofInt 64 x &&& BitVec.ofInt 64 (bitv c)).toNat = 0 := by omega
    unfold BitVec.getLsbD at this
    rw [e0] at this
    simp at this
  | false =>
    simp only [Bool.not_false, decide_eq_true_eq]
    have : BitVec.ofInt 64 x &&& BitVec.ofInt 64 (bitv c) = 0#64 := by
      apply BitVec.eq_of_getLsbD_eq
      intro i hi
      rw [BitVec.getLsbD_and]
      have e1 := bv_tb hx (i : Int)
      have e2 := bv_tb (bitv_U hc) (i : Int)
      rw [Int.toNat_natCast] at e1 e2
      rw [e1, e2, tb_bitv hc (by omega)]
      by_cases e : c = (i : Int)
      · rw [← e, hb]; simp
      · simp [e]
    rw [this]; rfl
def stepB (c : Int) (s : List Bool) (x : Acc) : List Bool :=
  if x.kind = 5 then s.set x.place.toNat (gt s x.place || decide (x.cont = c))
  else if x.kind = 6 then s.set x.place.toNat (gt s x.place && !decide (x.cont = c))
  else if x.kind = 7 then s.set x.place.toNat (gt s x.place || gt s x.frm) else s
theorem stepB_len (c : Int) (s : List Bool) (x : Acc) : (stepB c s x).length = s.length := by
  unfold stepB; split <;> (try split) <;> (try split) <;> simp
def nowS (a : Est) (c : Int) (n : Nat) : List Bool := (a.evs.take n).foldl (stepB c) (List.replicate a.places.toNat false)
theorem tw_len {α : Type} {q : α → Bool} : ∀ {l : List α} {n : Nat}, n ≤ l.length → (∀ j (h : j < l.length), j < n → q l[j] = true) → (∀ h : n < l.length, q l[n] = false) → (l.takeWhile q).length = n
  | [], n, h, _, _ => by simp at h; subst h; rfl
  | x :: l, 0, _, _, h2 => by
    have := h2 (by simp)
    simp at this
    simp [List.takeWhile_cons, this]
  | x :: l, n + 1, h, h1, h2 => by
    have hx := h1 0 (by simp) (by omega)
    simp at hx
    rw [List.takeWhile_cons, if_pos hx, List.length_cons]
    congr 1
    refine tw_len (by simpa using h) (fun j hj hn => ?_) (fun hn => ?_)
    · have := h1 (j + 1) (by simpa using hj) (by omega); simpa using this
    · have := h2 (by simpa using hn); simpa using this
def happS (a : Est) (t : Int) : Nat := (a.evs.takeWhile fun x => decide (x.time ≤ t)).length
noncomputable def rhappened_V (a : Est) (t : Int) (Q : SV → Prop) : Σ' P : Prop, (P → ICt 67 [.agg (List.map .d (Est.row a)), .one (.d (.int .i64 t))] Q) := by
  apply mkV; intro hP
  refine ic_wk (K 24) Try.func67 rfl rfl rfl rfl (fun w0 => ?_)
  apply (v_kint (x := 1)); exact rfl; exact hP; clear hP; intro hP
  repeat' (first
    | ((fail_if_success (have hTest : Hld False := hP)); (have hq := chk_c hP); (replace hP := chk_p hP))
    | ((with_reducible apply j_lst); exact rfl)
    | (with_reducible (first | apply c_seq | apply c_rg | apply j_nil | apply q_n | apply g_tt | apply g_ff | apply c_ct | apply c_cf | apply c_bl | apply c_ex | apply c_ret | apply c_sk | apply q_r | apply q_e | apply b_r | apply b_e | apply b_n | apply n_n | apply n_r | apply n_e))
    | ((with_reducible apply v_lenstr); exact rfl; exact rfl; kernel_rfl)
    | ((with_reducible apply c_l1); exact rfl; exact rfl)
    | ((with_reducible apply c_l2); exact rfl; exact rfl)
    | ((with_reducible apply c_l3); exact rfl)
    | ((with_reducible apply j_v); exact rfl; exact rfl)
    | ((with_reducible apply j_h); exact rfl; exact rfl)
    | ((with_reducible apply j_g); exact rfl; exact rfl; (first | with_reducible assumption | with_reducible exact Eq.refl true | with_reducible exact Eq.refl false | (with_reducible refine not_t ?_; with_reducible assumption) | (with_reducible refine not_f ?_; with_reducible assumption) | (refine dec_t ?_; decide) | (refine dec_f ?_; decide)))
    | ((with_reducible apply g_tf); exact rfl)
    | ((with_reducible apply g_ft); exact rfl)
    | ((with_reducible apply j_gz); exact rfl; exact rfl; exact rfl)
    | ((with_reducible apply v_lenm); exact rfl; exact rfl; exact rfl; (exact hP); clear hP; intro hP)
    | ((with_reducible apply v_lens); exact rfl; exact rfl; exact rfl; (exact hP); clear hP; intro hP)
    | ((with_reducible apply j_len); exact rfl; exact rfl; exact rfl)
    | ((with_reducible apply j_len0); exact rfl; exact rfl; exact rfl)
    | ((with_reducible apply j_pk); exact rfl; exact rfl; (first | with_reducible assumption | with_reducible exact Eq.refl true | with_reducible exact Eq.refl false | (with_reducible refine not_t ?_; with_reducible assumption) | (with_reducible refine not_f ?_; with_reducible assumption) | (refine dec_t ?_; decide) | (refine dec_f ?_; decide)); exact rfl)
    | ((with_reducible apply j_ld_el1); exact rfl; exact rfl; exact rfl; exact rfl; (first | with_reducible assumption | exact gt_row (by omega) (by omega) | exact rfl); exact rfl)
    | ((with_reducible apply j_add); exact rfl; exact rfl; exact rfl; (first | (with_reducible apply wr_i64; (first | with_reducible assumption | (apply chk_c; exact hP; (first | (guard_target = Prop; rotate_left 1) | skip)))) | exact rfl))
    | ((with_reducible apply v_ia); exact rfl; exact rfl; exact rfl; exact rfl; (case inst => exact inferInstance); exact rfl; exact rfl; (first | with_reducible assumption | (apply chk_c; exact hP; (first | (guard_target = Prop; rotate_left 1) | skip))))
    | ((with_reducible apply v_iasl); exact rfl; exact rfl; exact rfl; exact rfl; (first | with_reducible assumption | (apply chk_c; exact hP; (first | (guard_target = Prop; rotate_left 1) | skip))))
    | ((with_reducible apply j_ia_ar); exact rfl; exact rfl; exact rfl; exact rfl; ((repeat ((fail_if_success (have hTest : Hld False := hP)); (have hq := chk_c hP); (replace hP := chk_p hP))); first | with_reducible assumption | (apply chk_c; exact hP; (first | (guard_target = Prop; rotate_left 1) | skip))); ((repeat ((fail_if_success (have hTest : Hld False := hP)); (have hq := chk_c hP); (replace hP := chk_p hP))); first | with_reducible assumption | (apply chk_c; exact hP; (first | (guard_target = Prop; rotate_left 1) | skip))); (first | with_reducible exact Int.toNat_natCast _ | exact rfl))
    | ((with_reducible apply c_c); exact rfl; (first | with_reducible assumption | with_reducible exact Eq.refl true | with_reducible exact Eq.refl false | (with_reducible refine not_t ?_; with_reducible assumption) | (with_reducible refine not_f ?_; with_reducible assumption) | (refine dec_t ?_; decide) | (refine dec_f ?_; decide)))
    | ((with_reducible apply b_o); exact rfl)
    | ((with_reducible apply r_g); exact rfl; (· repeat' (first | exact True.intro | refine And.intro ?_ ?_ | (show (_ : Nat) = _; (first | exact rfl | exact (List.length_map _).symm | omega | (simp only [List.length_set, List.length_map, List.length_append] <;> omega) | (simp; done))))); (exact hP.out))
    | ((with_reducible refine v_loopat (c := (.seq (.seq (.region 2 _ _) _) _)) ?_); (apply (v_loop1 _ [1, 2] [2] (fun x1 => [(5, .one (.d (.int .i64 x1)))]) (fun x1 => []) [])); exact rfl; exact rfl; exact ⟨(by repeat' (first | exact .nil | exact .nil _ | refine .cons ?_ ?_ | exact .u _ | exact SVle_pl rfl | refine .one ?_ | refine .agg ?_ | exact .d rfl | exact .ref rfl rfl | exact .sl rfl (by first | rfl | omega | (rw [List.length_append, List.length_map]; show _ + 1 = _; omega) | simp) | exact .fn _ | exact .tape | exact .nils rfl | exact .nild | exact .nildm | exact .nil | exact .rp (by simp) | exact .clo (by simp) | exact .el rfl rfl rfl | exact .d (by first | rfl | (congr 1; omega) | (congr 1; assumption) | simp) | exact .virt rfl | exact .gone _ | refine .blk rfl ?_ | exact .arr rfl (by first | rfl | assumption | simp))), (by repeat' (first | exact .nil | exact .nil _ | refine .cons ?_ ?_ | exact .u _ | exact SVle_pl rfl | refine .one ?_ | refine .agg ?_ | exact .d rfl | exact .ref rfl rfl | exact .sl rfl (by first | rfl | omega | (rw [List.length_append, List.length_map]; show _ + 1 = _; omega) | simp) | exact .fn _ | exact .tape | exact .nils rfl | exact .nild | exact .nildm | exact .nil | exact .rp (by simp) | exact .clo (by simp) | exact .el rfl rfl rfl | exact .d (by first | rfl | (congr 1; omega) | (congr 1; assumption) | simp) | exact .virt rfl | exact .gone _ | refine .blk rfl ?_ | exact .arr rfl (by first | rfl | assumption | simp)))⟩; (exact hP); clear hP; intro I μ x1 hP)
    | ((with_reducible apply (v_nxt1 (a1 := _))); (repeat' (first | exact .nil | exact .nil _ | refine .cons ?_ ?_ | exact .u _ | exact SVle_pl rfl | refine .one ?_ | refine .agg ?_ | exact .d rfl | exact .ref rfl rfl | exact .sl rfl (by first | rfl | exact List.length_set.symm | exact (splT_len (by simp only [List.length_take, List.length_drop]; omega)).symm | omega | (rw [List.length_append, List.length_map]; show _ + 1 = _; omega) | simp) | exact .fn _ | exact .tape | exact .nils rfl | exact .nild | exact .nildm | exact .nil | exact .rp (by simp) | exact .clo (by simp) | exact .el rfl rfl rfl | exact .d (by first | rfl | (congr 1; omega) | (congr 1; assumption) | simp) | exact .virt rfl | exact .gone _ | refine .blk rfl ?_ | exact .arr rfl (by first | rfl | assumption | simp))); (repeat' (first | exact .nil | exact .nil _ | refine .cons ?_ ?_ | exact .u _ | exact SVle_pl rfl | refine .one ?_ | refine .agg ?_ | exact .d rfl | exact .ref rfl rfl | exact .sl rfl (by first | rfl | exact List.length_set.symm | exact (splT_len (by simp only [List.length_take, List.length_drop]; omega)).symm | omega | (rw [List.length_append, List.length_map]; show _ + 1 = _; omega) | simp) | exact .fn _ | exact .tape | exact .nils rfl | exact .nild | exact .nildm | exact .nil | exact .rp (by simp) | exact .clo (by simp) | exact .el rfl rfl rfl | exact .d (by first | rfl | (congr 1; omega) | (congr 1; assumption) | simp) | exact .virt rfl | exact .gone _ | refine .blk rfl ?_ | exact .arr rfl (by first | rfl | assumption | simp))); (exact hP))
    | ((with_reducible apply v_gs); exact rfl; exact rfl; (exact hP); all_goals (clear hP; intro hg hP))
    | ((with_reducible apply v_if); exact rfl; (exact hP); all_goals (clear hP; intro hc hP)))
theorem rhappened_ic (a : Est) (t : Int) : ICt 67 [a.v, iv t] (fun v => v = iv (happS a t)) := (rhappened_V a t _).2 (by
  (delta rhappened_V; dsimp only [mkV])
  (repeat' (first | with_reducible refine brn_nd (fun h => ?_) (fun h => ?_) | with_reducible refine brn_d (fun h => ?_) (fun h => ?_) | with_reducible refine brn_nn (fun h => ?_) (fun h => ?_) | with_reducible refine brn_nb (fun h => ?_) (fun h => ?_) | with_reducible refine Brn.mk (fun h => ?_) (fun h => ?_) | with_reducible refine Chk.mk ?_ ?_ | with_reducible refine Bth.mk ?_ ?_ | with_reducible refine Fct.mk (fun hf => ?_)))
  refine lp1 (fun z => 0 ≤ z ∧ z ≤ (a.evs.length : Int) ∧ ∀ j : Nat, (j : Int) < z → (gt a.evs (j : Int)).time ≤ t) (fun z => ((a.evs.length : Int) - z).toNat) ⟨by omega, by omega, by intros; omega⟩ ?_
  rintro I μ nx z ⟨h0, h1, h2⟩
  obtain ⟨i, rfl⟩ : ∃ i : Nat, z = i := ⟨z.toNat, by omega⟩
  (repeat' (first | with_reducible refine brn_nd (fun h => ?_) (fun h => ?_) | with_reducible refine brn_d (fun h => ?_) (fun h => ?_) | with_reducible refine brn_nn (fun h => ?_) (fun h => ?_) | with_reducible refine brn_nb (fun h => ?_) (fun h => ?_) | with_reducible refine Brn.mk (fun h => ?_) (fun h => ?_) | with_reducible refine Chk.mk ?_ ?_ | with_reducible refine Bth.mk ?_ ?_ | with_reducible refine Fct.mk (fun hf => ?_)))
  · omega
  · omega
  · refine nx _ _ ⟨h0, h1, h2⟩ ⟨by omega, by omega, fun j hj => ?_⟩ (by omega)
    by_cases e : j = i
    · subst e; assumption
    · exact h2 j (by omega)
  all_goals
    refine congrArg iv ?_
    have : happS a t = i := tw_len (by omega) (fun j hj hn => by have := h2 j (by omega); rw [gt_nat hj] at this; simpa using this) (fun hn => by
      first
      | omega
      | (have h9 : ¬ (gt a.evs (i : Int)).time ≤ t := by assumption
         rw [gt_nat hn] at h9; simpa using h9))
    rw [this])
noncomputable def rright_V (a : Est) (c : Int) (Q : SV → Prop) : Σ' P : Prop, (P → ICt 68 [.agg (List.map .d (Est.row a)), .one (.d (.int .i64 c))] Q) := by
  apply mkV; intro hP
  refine ic_wk (K 15) Try.func68 rfl rfl rfl rfl (fun w0 => ?_)
  apply (v_kint (x := 1)); exact rfl; exact hP; clear hP; intro hP
  repeat' (first
    | ((fail_if_success (have hTest : Hld False := hP)); (have hq := chk_c hP); (replace hP := chk_p hP))
    | ((with_reducible apply j_lst); exact rfl)
    | (with_reducible (first | apply c_seq | apply c_rg | apply j_nil | apply q_n | apply g_tt | apply g_ff | apply c_bl | apply c_ex | apply c_ret | apply c_sk | apply q_r | apply q_e | apply b_r | apply b_e | apply b_n | apply n_n | apply n_r | apply n_e))
    | ((with_reducible apply c_l1); exact rfl; exact rfl)
    | ((with_reducible apply c_l2); exact rfl; exact rfl)
    | ((with_reducible apply c_l3); exact rfl)
    | ((with_reducible apply j_v); exact rfl; exact rfl)
    | ((with_reducible apply j_h); exact rfl; exact rfl)
    | ((with_reducible apply j_g); exact rfl; exact rfl; (first | with_reducible assumption | with_reducible exact Eq.refl true | with_reducible exact Eq.refl false | (with_reducible refine not_t ?_; with_reducible assumption) | (with_reducible refine not_f ?_; with_reducible assumption) | (refine dec_t ?_; decide) | (refine dec_f ?_; decide)))
    | ((with_reducible apply g_tf); exact rfl)
    | ((with_reducible apply g_ft); exact rfl)
    | ((with_reducible apply j_gz); exact rfl; exact rfl; exact rfl)
    | ((with_reducible apply j_pk); exact rfl; exact rfl; (first | with_reducible assumption | with_reducible exact Eq.refl true | with_reducible exact Eq.refl false | (with_reducible refine not_t ?_; with_reducible assumption) | (with_reducible refine not_f ?_; with_reducible assumption) | (refine dec_t ?_; decide) | (refine dec_f ?_; decide)); exact rfl)
    | ((with_reducible apply b_o); exact rfl)
    | ((with_reducible apply r_g); exact rfl; (· repeat' (first | exact True.intro | refine And.intro ?_ ?_ | (show (_ : Nat) = _; (first | exact rfl | exact (List.length_map _).symm | omega | (simp only [List.length_set, List.length_map, List.length_append] <;> omega) | (simp; done))))); (exact hP.out))
    | ((with_reducible apply j_call (pu := false)); exact rfl; apply (rValid27_ic _); rotate_left 1; (focus ((repeat' (first | exact .nil _ | refine PsL.cons ?_ ?_ | refine PsSL.cons ?_ ?_ | exact .one (.d _ _) | exact .one psc_nilm | exact psc_nilm | exact .one (.nil _) | exact .one (.nn _) | exact .one (.tape _) | exact .one (.fn _ _) | exact .agg (.same _ _) | refine .agg ?_ | exact .d _ _ | exact .one (.sl rfl rfl) | exact .one (.sl rfl (List.length_map _).symm) | exact .sl rfl rfl | exact .sl rfl (List.length_map _).symm | exact .same _ _)) <;> fail)); exact .inr rfl)
    | ((with_reducible apply j_call (pu := false)); exact rfl; apply (rValid27_ic ⟨_, _⟩); rotate_left 2; dsimp only [Est.v_mk]; (focus ((repeat' (first | exact .nil _ | refine PsL.cons ?_ ?_ | refine PsSL.cons ?_ ?_ | exact .one (.d _ _) | exact .one psc_nilm | exact psc_nilm | exact .one (.nil _) | exact .one (.nn _) | exact .one (.tape _) | exact .one (.fn _ _) | exact .agg (.same _ _) | refine .agg ?_ | exact .d _ _ | exact .one (.sl rfl rfl) | exact .one (.sl rfl (List.length_map _).symm) | exact .sl rfl rfl | exact .sl rfl (List.length_map _).symm | exact .same _ _)) <;> fail)); exact .inr rfl)
    | ((with_reducible apply v_gs); exact rfl; exact rfl; (exact hP); all_goals (clear hP; intro hg hP))
    | ((with_reducible apply v_if); exact rfl; (exact hP); all_goals (clear hP; intro hc hP)))
def rightB (a : Est) (c : Int) : Bool := estB a && inB c 0 63
theorem rright_ic (a : Est) (c : Int) : ICt 68 [a.v, iv c] (fun v => v = bv (rightB a c)) := (rright_V a c _).2 (by
  (delta rright_V; dsimp only [mkV])
  (repeat' (first | with_reducible refine brn_nd (fun h => ?_) (fun h => ?_) | with_reducible refine brn_d (fun h => ?_) (fun h => ?_) | with_reducible refine brn_nn (fun h => ?_) (fun h => ?_) | with_reducible refine brn_nb (fun h => ?_) (fun h => ?_) | with_reducible refine Brn.mk (fun h => ?_) (fun h => ?_) | with_reducible refine Chk.mk ?_ ?_ | with_reducible refine Bth.mk ?_ ?_ | with_reducible refine Fct.mk (fun hf => ?_)))
  all_goals (refine congrArg bv ?_; simp [rightB, inB, *]))
def happS_le (a : Est) (t : Int) : happS a t ≤ a.evs.length := (List.takeWhile_sublist _).length_le
theorem est_hap {a : Est} (h : estB a = true) : 0 ≤ a.places ∧ a.places ≤ 16 ∧ ∀ x ∈ a.evs, hapP a.places.toNat x := by
  obtain ⟨h1, h2, _, h4⟩ := estB_iff.1 h
  refine ⟨by omega, h2, fun x hx => ?_⟩
  obtain ⟨i, hi, rfl⟩ := mem_gt hx
  have h5 := (aevOk_iff.1 (h4 i hi)).2.2
  have h6 : accP a (gt a.evs (i : Int)) := of_decide_eq_true h5
  generalize gt a.evs (i : Int) = x at *
  obtain ⟨h7, h8⟩ := h6
  refine ⟨fun _ => ⟨h7.1, by omega⟩, fun hk => ?_, fun hk => ?_⟩ <;> omega
def inT (a : Est) (c p t : Int) : Bool := gt (nowS a c (happS a t)) p
end Go.Proofs.Ytoflahjlnbligaa
