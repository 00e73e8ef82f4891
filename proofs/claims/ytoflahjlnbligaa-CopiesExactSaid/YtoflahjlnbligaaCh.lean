/- Estates: Holds, Where. -/
import Derived.Test.YtoflahjlnbligaaCg
set_option linter.all false
set_option maxRecDepth 20000
set_option maxHeartbeats 4000000
namespace Go.Proofs.Ytoflahjlnbligaa
open Go.RowKit Go.Shelf
theorem gt_setq {α : Type} [Inhabited α] {l : List α} {i p : Int} {v : α} (hi : 0 ≤ i) (h0 : 0 ≤ p) (h : p < l.length) : gt (l.set i.toNat v) p = if p = i then v else gt l p := by
  rw [gt_eq (by simp; omega), gt_eq (by omega), List.getElem_set]
  by_cases e : p = i
  · simp [e]
  · rw [if_neg e, if_neg (by omega)]
structure RelC (c : Int) (s : List Int) (b : List Bool) : Prop where
  n : s.length = b.length
  h : ∀ p : Int, 0 ≤ p → p < (s.length : Int) → U64 (gt s p) ∧ tb (gt s p) c = gt b p
theorem RelC.step {c : Int} {s : List Int} {b : List Bool} {x : Acc} (h : RelC c s b) (hc : 0 ≤ c ∧ c ≤ 63) (hx : hapP s.length x) (hx2 : x.kind = 5 ∨ x.kind = 6 → 0 ≤ x.cont ∧ x.cont ≤ 63) : RelC c (happenS s x) (stepB c b x) := by
  refine ⟨by rw [happen_len, stepB_len, h.n], fun p h0 h1 => ?_⟩
  rw [happen_len] at h1
  have h1' : p < (b.length : Int) := by rw [← h.n]; exact h1
  obtain ⟨g1, g2, g3⟩ := hx
  obtain ⟨q1, q2⟩ := h.h p h0 h1
  unfold happenS stepB
  by_cases e5 : x.kind = 5
  · obtain ⟨a1, a2⟩ := g1 (by omega)
    obtain ⟨p1, p2⟩ := h.h x.place a1 a2
    have hb := hx2 (by omega)
    rw [if_pos e5, if_pos e5, gt_setq a1 h0 h1, gt_setq a1 h0 h1']
    by_cases e : p = x.place
    · rw [if_pos e, if_pos e]
      exact ⟨bits_or_U _ _, by rw [tb_or p1 (bitv_U hb), p2, tb_bitv hb hc.1]⟩
    · rw [if_neg e, if_neg e]; exact ⟨q1, q2⟩
  by_cases e6 : x.kind = 6
  · obtain ⟨a1, a2⟩ := g1 (by omega)
    obtain ⟨p1, p2⟩ := h.h x.place a1 a2
    have hb := hx2 (by omega)
    rw [if_neg e5, if_neg e5, if_pos e6, if_pos e6, gt_setq a1 h0 h1, gt_setq a1 h0 h1']
    by_cases e : p = x.place
    · rw [if_pos e, if_pos e]
      exact ⟨bits_an_U _ _, by rw [tb_an p1 (bitv_U hb) hc, p2, tb_bitv hb hc.1]⟩
    · rw [if_neg e, if_neg e]; exact ⟨q1, q2⟩
  by_cases e7 : x.kind = 7
  · obtain ⟨a1, a2⟩ := g1 (by omega)
    obtain ⟨p1, p2⟩ := h.h x.place a1 a2
    obtain ⟨b1, b2⟩ := g3 e7
    obtain ⟨r1, r2⟩ := h.h x.frm b1 b2
    rw [if_neg e5, if_neg e5, if_neg e6, if_neg e6, if_pos e7, if_pos e7, gt_setq a1 h0 h1, gt_setq a1 h0 h1']
    by_cases e : p = x.place
    · rw [if_pos e, if_pos e]
      exact ⟨bits_or_U _ _, by rw [tb_or p1 r1, p2, r2]⟩
    · rw [if_neg e, if_neg e]; exact ⟨q1, q2⟩
  rw [if_neg e5, if_neg e5, if_neg e6, if_neg e6, if_neg e7, if_neg e7]; exact ⟨q1, q2⟩
theorem RelC.fold {c : Int} (hc : 0 ≤ c ∧ c ≤ 63) : ∀ (l : List Acc) {s : List Int} {b : List Bool}, RelC c s b → (∀ x ∈ l, hapP s.length x ∧ (x.kind = 5 ∨ x.kind = 6 → 0 ≤ x.cont ∧ x.cont ≤ 63)) → RelC c (l.foldl happenS s) (l.foldl (stepB c) b)
  | [], s, b, h, _ => h
  | x :: l, s, b, h, hl => by
    have h1 := hl x (by simp)
    exact RelC.fold hc l (h.step hc h1.1 h1.2) fun y hy => by rw [happen_len]; exact hl y (by simp [hy])
theorem gt_rep {α : Type} [Inhabited α] {n : Nat} {v : α} {p : Int} (h0 : 0 ≤ p) (h : p < (n : Int)) : gt (List.replicate n v) p = v := by
  rw [gt_eq (by simp; omega), List.getElem_replicate]
theorem est_acc {a : Est} (h : estB a = true) : ∀ x ∈ a.evs, accP a x := fun x hx => by
  obtain ⟨_, _, _, h4⟩ := estB_iff.1 h
  obtain ⟨i, hi, rfl⟩ := mem_gt hx
  exact of_decide_eq_true (aevOk_iff.1 (h4 i hi)).2.2
theorem est_sorted {a : Est} (h : estB a = true) : a.evs.Pairwise fun x y => x.time ≤ y.time := by
  obtain ⟨_, _, _, h4⟩ := estB_iff.1 h
  rw [List.pairwise_iff_getElem]
  intro i j hi hj hij
  have step : ∀ k, i ≤ k → (hk : k < a.evs.length) → a.evs[i].time ≤ a.evs[k].time := by
    intro k
    induction k with
    | zero => intro h1 h2; have : i = 0 := by omega
              subst this; exact Int.le_refl _
    | succ k ih =>
      intro h1 h2
      by_cases e : i = k + 1
      · subst e; exact Int.le_refl _
      · have h5 := ih (by omega) (by omega)
        have h6 := (aevOk_iff.1 (h4 (k + 1) h2)).1
        rw [prevA_succ, gt_nat h2, gt_nat (by omega)] at h6
        omega
  exact step j (by omega) hj
theorem filter_tw {α : Type} {q : α → Bool} {r : α → α → Prop} (hq : ∀ x y, r x y → q y = true → q x = true) : ∀ {l : List α}, l.Pairwise r → l.filter q = l.takeWhile q
  | [], _ => rfl
  | x :: l, h => by
    rw [List.pairwise_cons] at h
    rw [List.filter_cons, List.takeWhile_cons]
    split
    · rw [filter_tw hq h.2]
    · rename_i hx
      rw [List.filter_eq_nil_iff]
      intro y hy e
      exact hx (hq x y (h.1 y hy) e)
theorem take_tw {α : Type} {q : α → Bool} : ∀ {l : List α}, l.take (l.takeWhile q).length = l.takeWhile q
  | [] => rfl
  | x :: l => by
    rw [List.takeWhile_cons]
    split
    · rw [List.length_cons, List.take_succ_cons, take_tw]
    · rfl
theorem at_rel {a : Est} (h : estB a = true) {c : Int} (hc : 0 ≤ c ∧ c ≤ 63) (t : Int) : RelC c (atS a t) (nowS a c (happS a t)) := by
  have e1 : atS a t = (a.evs.filter fun x => decide (x.time ≤ t)).foldl happenS (List.replicate a.places.toNat 0) := by
    rw [List.foldl_filter]; unfold atS; congr 1; funext s x; simp
  have e2 : nowS a c (happS a t) = (a.evs.filter fun x => decide (x.time ≤ t)).foldl (stepB c) (List.replicate a.places.toNat false) := by
    unfold nowS happS
    rw [take_tw, filter_tw (r := fun x y : Acc => x.time ≤ y.time) (fun x y h1 h2 => by simp at h2 ⊢; omega) (est_sorted h)]
  rw [e1, e2]
  refine RelC.fold hc _ ⟨by simp, fun p h0 h1 => ?_⟩ fun x hx => ?_
  · simp only [List.length_replicate] at h1
    rw [gt_rep h0 h1, gt_rep h0 h1]; exact ⟨U_zero, tb_zero c⟩
  · have hm := (List.mem_filter.1 hx).1
    rw [List.length_replicate]
    refine ⟨(est_hap h).2.2 x hm, fun hk => ?_⟩
    obtain ⟨_, h2⟩ := est_acc h x hm
    omega
theorem atS_len (a : Est) (t : Int) : (atS a t).length = a.places.toNat := by
  unfold atS
  suffices ∀ (l : List Acc) (s : List Int), (l.foldl (fun s x => if x.time ≤ t then happenS s x else s) s).length = s.length by rw [this]; simp
  intro l
  induction l with
  | nil => intro s; rfl
  | cons x l ih => intro s; rw [List.foldl_cons, ih]; split; rw [happen_len]; rfl
theorem at_tb {a : Est} (h : estB a = true) {c p : Int} (hc : 0 ≤ c ∧ c ≤ 63) (h0 : 0 ≤ p) (h1 : p < a.places) (t : Int) : U64 (gt (atS a t) p) ∧ tb (gt (atS a t) p) c = inT a c p t :=
  (at_rel h hc t).h p h0 (by rw [atS_len]; omega)
theorem and_one {x : Int} (hx : U64 x) : decide (bits .and .u64 x 1 = 1) = tb x 0 := by
  have h := and_bit hx (c := 0) (by omega)
  have e : bitv 0 = 1 := by rw [bitv_eq (by omega)]; rfl
  rw [e] at h
  have h0 : bits .and .u64 x 1 = (((BitVec.ofInt 64 x) &&& (BitVec.ofInt 64 1)).toNat : Int) := by
    show IntKind.u64.wrap (((BitVec.ofInt 64 x) &&& (BitVec.ofInt 64 1)).toNat : Int) = _; rw [u64_bv]
  have h1 : ((BitVec.ofInt 64 x) &&& (BitVec.ofInt 64 1)).toNat ≤ 1 := by
    rw [BitVec.toNat_and]; exact Nat.le_trans Nat.and_le_right (by decide)
  rw [h0] at h ⊢
  cases hb : tb x 0 with
  | true => rw [hb] at h; simp only [Bool.not_true, decide_eq_false_iff_not] at h; simp only [decide_eq_true_eq]; omega
  | false => rw [hb] at h; simp only [Bool.not_false, decide_eq_true_eq] at h; simp only [decide_eq_false_iff_not]; omega
theorem tb_half {x d : Int} (hx : U64 x) (hd : 0 ≤ d) : U64 (x.fdiv 2) ∧ tb (x.fdiv 2) d = tb x (d + 1) := by
  obtain ⟨h0, h1⟩ := hx
  have e : x.fdiv 2 = x / 2 := Int.fdiv_eq_ediv_of_nonneg x (by omega)
  rw [e]
  refine ⟨⟨by omega, by omega⟩, ?_⟩
  unfold tb
  rw [show (x / 2).toNat = x.toNat / 2 by omega, show (d + 1).toNat = d.toNat + 1 by omega, Nat.testBit_succ]
def rg' (n : Nat) : List Int := (List.range n).map fun (k : Nat) => (k : Int)
theorem rg'_succ (n : Nat) : rg' (n + 1) = rg' n ++ [(n : Int)] := by unfold rg'; rw [List.range_succ, List.map_append]; rfl
theorem rg'_mem {n : Nat} {x : Int} : x ∈ rg' n ↔ 0 ≤ x ∧ x < (n : Int) := by
  unfold rg'
  simp only [List.mem_map, List.mem_range]
  constructor
  · rintro ⟨k, h, rfl⟩; omega
  · rintro ⟨h1, h2⟩; exact ⟨x.toNat, by omega, by omega⟩
theorem fl_succ (q : Int → Bool) (n : Nat) : (rg' (n + 1)).filter q = if q n = true then (rg' n).filter q ++ [(n : Int)] else (rg' n).filter q := by
  rw [rg'_succ, List.filter_append, List.filter_cons, List.filter_nil]; split <;> simp
def holdsS (a : Est) (p t : Int) : List Int := if (estB a && inB p 0 (a.places - 1)) = true then (rg' 64).filter fun c => inT a c p t else []
def whereS (a : Est) (c t : Int) : List Int := if rightB a c = true then (rg' a.places.toNat).filter fun p => inT a c p t else []
noncomputable def Holds_V (a : Est) (p : Int) (t : Int) (Q : SV → Prop) : Σ' P : Prop, (P → ICt 22 [.agg (List.map .d (Est.row a)), .one (.d (.int .i64 p)), .one (.d (.int .i64 t))] Q) := by
  apply mkV; intro hP
  refine ic_wk (K 39) Try.func22 rfl rfl rfl rfl (fun w0 => ?_)
  apply (v_kint (x := 1)); exact rfl; exact hP; clear hP; intro hP
  apply (v_kint (x := 2)); exact rfl; exact hP; clear hP; intro hP
  repeat' (first
    | ((fail_if_success (have hTest : Hld False := hP)); (have hq := chk_c hP); (replace hP := chk_p hP))
    | ((with_reducible apply j_lst); exact rfl)
    | (with_reducible (first | apply c_seq | apply c_rg | apply j_nil | apply q_n | apply g_tt | apply g_ff | apply c_ct | apply c_cf | apply c_bl | apply c_ex | apply c_ret | apply c_sk | apply q_r | apply q_e | apply b_r | apply b_e | apply b_n | apply n_n | apply n_r | apply n_e))
    | ((with_reducible apply v_shr); exact rfl; exact rfl; exact rfl; (first | decide | (first | with_reducible assumption | (apply chk_c; exact hP; (first | (guard_target = Prop; rotate_left 1) | skip)))); exact rfl)
    | ((with_reducible apply c_l1); exact rfl; exact rfl)
    | ((with_reducible apply c_l2); exact rfl; exact rfl)
    | ((with_reducible apply c_l3); exact rfl)
    | ((with_reducible apply j_v); exact rfl; exact rfl)
    | ((with_reducible apply (v_bsf (d := 36) (irow))); exact rfl; exact rfl; exact (row_cons (irow_mk _) row_nil); exact rfl; exact rfl)
    | ((with_reducible apply (v_bs (irow))); exact rfl; exact rfl; exact (row_cons (irow_mk _) row_nil); exact rfl)
    | ((with_reducible apply j_h); exact rfl; exact rfl)
    | ((with_reducible apply j_g); exact rfl; exact rfl; (first | with_reducible assumption | with_reducible exact Eq.refl true | with_reducible exact Eq.refl false | (with_reducible refine not_t ?_; with_reducible assumption) | (with_reducible refine not_f ?_; with_reducible assumption) | (refine dec_t ?_; decide) | (refine dec_f ?_; decide)))
    | ((with_reducible apply g_tf); exact rfl)
    | ((with_reducible apply g_ft); exact rfl)
    | ((with_reducible apply j_gz); exact rfl; exact rfl; exact rfl)
    | ((with_reducible apply j_pk); exact rfl; exact rfl; (first | with_reducible assumption | with_reducible exact Eq.refl true | with_reducible exact Eq.refl false | (with_reducible refine not_t ?_; with_reducible assumption) | (with_reducible refine not_f ?_; with_reducible assumption) | (refine dec_t ?_; decide) | (refine dec_f ?_; decide)); exact rfl)
    | ((with_reducible apply j_ld_el1); exact rfl; exact rfl; exact rfl; exact rfl; (first | with_reducible assumption | exact gt_row (by omega) (by omega) | exact rfl); exact rfl)
    | ((with_reducible apply j_add); exact rfl; exact rfl; exact rfl; (first | (with_reducible apply wr_i64; (first | with_reducible assumption | (apply chk_c; exact hP; (first | (guard_target = Prop; rotate_left 1) | skip)))) | exact rfl))
    | ((with_reducible apply v_ia); exact rfl; exact rfl; exact rfl; exact rfl; (case inst => exact inferInstance); exact rfl; exact rfl; (first | with_reducible assumption | (apply chk_c; exact hP; (first | (guard_target = Prop; rotate_left 1) | skip))))
    | ((with_reducible apply v_iasl); exact rfl; exact rfl; exact rfl; exact rfl; (first | with_reducible assumption | (apply chk_c; exact hP; (first | (guard_target = Prop; rotate_left 1) | skip))))
    | ((with_reducible apply j_ia_ar); exact rfl; exact rfl; exact rfl; exact rfl; ((repeat ((fail_if_success (have hTest : Hld False := hP)); (have hq := chk_c hP); (replace hP := chk_p hP))); first | with_reducible assumption | (apply chk_c; exact hP; (first | (guard_target = Prop; rotate_left 1) | skip))); ((repeat ((fail_if_success (have hTest : Hld False := hP)); (have hq := chk_c hP); (replace hP := chk_p hP))); first | with_reducible assumption | (apply chk_c; exact hP; (first | (guard_target = Prop; rotate_left 1) | skip))); (first | with_reducible exact Int.toNat_natCast _ | exact rfl))
    | ((with_reducible apply (v_ap (irow))); exact rfl; exact rfl; exact rfl; exact rfl; exact rfl; exact rfl; exact rfl; (first | exact rfl | exact row_one (irow_mk _) | exact row_nil); exact rfl; exact rfl; exact rfl; (first | (apply src_sl; exact rfl; exact rfl; exact rfl) | (apply src_sl; exact rfl; exact rfl; rw [List.length_map]; omega) | (apply src_nil; exact rfl) | (apply src_d; exact rfl; (intro row hrow; obtain ⟨q, _, rfl⟩ := List.mem_map.1 hrow; rfl))); (first | exact rfl | exact row_one (irow_mk _) | exact row_nil); exact rfl; exact rfl; exact rfl; (first | with_reducible assumption | (apply chk_c; exact hP; (first | (guard_target = Prop; rotate_left 1) | skip))))
    | ((with_reducible apply (v_ap0 (irow))); exact rfl; exact rfl; exact rfl; exact rfl; exact rfl; exact rfl; (first | (apply src_sl; exact rfl; exact rfl; exact rfl) | (apply src_sl; exact rfl; exact rfl; rw [List.length_map]; omega) | (apply src_nil; exact rfl) | (apply src_d; exact rfl; (intro row hrow; obtain ⟨q, _, rfl⟩ := List.mem_map.1 hrow; rfl))); (first | exact rfl | exact row_one (irow_mk _) | exact row_nil); exact rfl; exact rfl; exact rfl; (first | with_reducible assumption | (apply chk_c; exact hP; (first | (guard_target = Prop; rotate_left 1) | skip))))
    | ((with_reducible apply c_c); exact rfl; (first | with_reducible assumption | with_reducible exact Eq.refl true | with_reducible exact Eq.refl false | (with_reducible refine not_t ?_; with_reducible assumption) | (with_reducible refine not_f ?_; with_reducible assumption) | (refine dec_t ?_; decide) | (refine dec_f ?_; decide)))
    | ((with_reducible apply b_o); exact rfl)
    | ((with_reducible apply r_g); exact rfl; (· repeat' (first | exact True.intro | refine And.intro ?_ ?_ | (show (_ : Nat) = _; (first | exact rfl | exact (List.length_map _).symm | omega | (simp only [List.length_set, List.length_map, List.length_append] <;> omega) | (simp; done))))); (exact hP.out))
    | ((with_reducible apply j_call (pu := false)); exact rfl; (first | (apply (aCheck_ic _); rotate_left 1)); (focus ((repeat' (first | exact .nil _ | refine PsL.cons ?_ ?_ | refine PsSL.cons ?_ ?_ | exact .one (.d _ _) | exact .one psc_nilm | exact psc_nilm | exact .one (.nil _) | exact .one (.nn _) | exact .one (.tape _) | exact .one (.fn _ _) | exact .agg (.same _ _) | refine .agg ?_ | exact .d _ _ | exact .one (.sl rfl rfl) | exact .one (.sl rfl (List.length_map _).symm) | exact .sl rfl rfl | exact .sl rfl (List.length_map _).symm | exact .same _ _)) <;> fail)); exact .inr rfl)
    | ((with_reducible apply j_call (pu := false)); exact rfl; (first | (apply (aCheck_ic ⟨_, _⟩); rotate_left 2; dsimp only [Est.v_mk])); (focus ((repeat' (first | exact .nil _ | refine PsL.cons ?_ ?_ | refine PsSL.cons ?_ ?_ | exact .one (.d _ _) | exact .one psc_nilm | exact psc_nilm | exact .one (.nil _) | exact .one (.nn _) | exact .one (.tape _) | exact .one (.fn _ _) | exact .agg (.same _ _) | refine .agg ?_ | exact .d _ _ | exact .one (.sl rfl rfl) | exact .one (.sl rfl (List.length_map _).symm) | exact .sl rfl rfl | exact .sl rfl (List.length_map _).symm | exact .same _ _)) <;> fail)); exact .inr rfl)
    | ((with_reducible apply v_call (pu := true)); exact rfl; exact ⟨rfl, rfl⟩; (first | (apply (at_ic _ _); rotate_left 2)); (focus ((repeat' (first | exact .nil _ | refine PsL.cons ?_ ?_ | refine PsSL.cons ?_ ?_ | exact .one (.d _ _) | exact .one psc_nilm | exact psc_nilm | exact .one (.nil _) | exact .one (.nn _) | exact .one (.tape _) | exact .one (.fn _ _) | exact .agg (.same _ _) | refine .agg ?_ | exact .d _ _ | exact .one (.sl rfl rfl) | exact .one (.sl rfl (List.length_map _).symm) | exact .sl rfl rfl | exact .sl rfl (List.length_map _).symm | exact .same _ _)) <;> fail)); exact .inl rfl; (first | with_reducible assumption | (apply chk_c; exact hP; (first | (guard_target = Prop; rotate_left 1) | skip))))
    | ((with_reducible apply v_call (pu := true)); exact rfl; exact ⟨rfl, rfl⟩; (first | (apply (at_ic ⟨_, _⟩ _); rotate_left 3; dsimp only [Est.v_mk])); (focus ((repeat' (first | exact .nil _ | refine PsL.cons ?_ ?_ | refine PsSL.cons ?_ ?_ | exact .one (.d _ _) | exact .one psc_nilm | exact psc_nilm | exact .one (.nil _) | exact .one (.nn _) | exact .one (.tape _) | exact .one (.fn _ _) | exact .agg (.same _ _) | refine .agg ?_ | exact .d _ _ | exact .one (.sl rfl rfl) | exact .one (.sl rfl (List.length_map _).symm) | exact .sl rfl rfl | exact .sl rfl (List.length_map _).symm | exact .same _ _)) <;> fail)); exact .inl rfl; (first | with_reducible assumption | (apply chk_c; exact hP; (first | (guard_target = Prop; rotate_left 1) | skip))))
    | ((with_reducible apply v_call (pu := false)); exact rfl; exact ⟨rfl, rfl⟩; (first | (apply (aplace_ic _ _); rotate_left 2)); (focus ((repeat' (first | exact .nil _ | refine PsL.cons ?_ ?_ | refine PsSL.cons ?_ ?_ | exact .one (.d _ _) | exact .one psc_nilm | exact psc_nilm | exact .one (.nil _) | exact .one (.nn _) | exact .one (.tape _) | exact .one (.fn _ _) | exact .agg (.same _ _) | refine .agg ?_ | exact .d _ _ | exact .one (.sl rfl rfl) | exact .one (.sl rfl (List.length_map _).symm) | exact .sl rfl rfl | exact .sl rfl (List.length_map _).symm | exact .same _ _)) <;> fail)); exact .inr rfl; (first | with_reducible assumption | (apply chk_c; exact hP; (first | (guard_target = Prop; rotate_left 1) | skip))))
    | ((with_reducible apply v_call (pu := false)); exact rfl; exact ⟨rfl, rfl⟩; (first | (apply (aplace_ic ⟨_, _⟩ _); rotate_left 3; dsimp only [Est.v_mk])); (focus ((repeat' (first | exact .nil _ | refine PsL.cons ?_ ?_ | refine PsSL.cons ?_ ?_ | exact .one (.d _ _) | exact .one psc_nilm | exact psc_nilm | exact .one (.nil _) | exact .one (.nn _) | exact .one (.tape _) | exact .one (.fn _ _) | exact .agg (.same _ _) | refine .agg ?_ | exact .d _ _ | exact .one (.sl rfl rfl) | exact .one (.sl rfl (List.length_map _).symm) | exact .sl rfl rfl | exact .sl rfl (List.length_map _).symm | exact .same _ _)) <;> fail)); exact .inr rfl; (first | with_reducible assumption | (apply chk_c; exact hP; (first | (guard_target = Prop; rotate_left 1) | skip))))
    | ((with_reducible refine v_loopat (c := (.seq (.seq (.region 5 _ _) _) _)) ?_); (apply (v_loop3 [] _ _ [] [] (fun x1 x2 x3 => [(7, .one (.sl 207 (List.length x1) 1)), (8, .one (.d (.int .i64 x2))), (9, .one (.d (.int .u64 x3)))]) (fun x1 x2 x3 => [(207, .arr 3 1 (List.map irow x1))]) [207])); exact rfl; exact rfl; (focus (refine ⟨?_, ?_⟩; rotate_left 1; (focus (repeat' (first | exact .nil | exact .nil _ | refine .cons ?_ ?_ | exact .u _ | exact SVle_pl rfl | refine .one ?_ | refine .agg ?_ | exact .d rfl | exact .ref rfl rfl | exact .sl rfl (by first | rfl | exact List.length_set.symm | exact (splT_len (by simp only [List.length_take, List.length_drop]; omega)).symm | omega | (rw [List.length_append, List.length_map]; show _ + 1 = _; omega) | simp) | exact .fn _ | exact .tape | exact .nils rfl | exact .nild | exact .nildm | exact .nil | exact .rp (by simp) | exact .clo (by simp) | exact .el rfl rfl rfl | exact .d (by first | rfl | (congr 1; omega) | (congr 1; assumption) | simp) | exact .virt rfl | exact .gone _ | refine .blk rfl ?_ | exact .arr rfl (by first | rfl | assumption | simp)))); (focus (repeat' (first | exact .nil | exact .nil _ | refine .cons ?_ ?_ | exact .u _ | exact SVle_pl rfl | refine .one ?_ | refine .agg ?_ | exact .d rfl | exact .ref rfl rfl | exact .sl rfl (by first | rfl | exact List.length_set.symm | exact (splT_len (by simp only [List.length_take, List.length_drop]; omega)).symm | omega | (rw [List.length_append, List.length_map]; show _ + 1 = _; omega) | simp) | exact .fn _ | exact .tape | exact .nils rfl | exact .nild | exact .nildm | exact .nil | exact .rp (by simp) | exact .clo (by simp) | exact .el rfl rfl rfl | exact .d (by first | rfl | (congr 1; omega) | (congr 1; assumption) | simp) | exact .virt rfl | exact .gone _ | refine .blk rfl ?_ | exact .arr rfl (by first | rfl | assumption | simp)))))); (exact hP); clear hP; intro I μ x1 x2 x3 hP)
    | ((with_reducible apply (v_nxt3 (a1 := _) (a2 := _) (a3 := _))); rotate_left 1; (focus (repeat' (first | exact .nil | exact .nil _ | refine .cons ?_ ?_ | exact .u _ | exact SVle_pl rfl | refine .one ?_ | refine .agg ?_ | exact .d rfl | exact .ref rfl rfl | exact .sl rfl (by first | rfl | exact List.length_set.symm | exact (splT_len (by simp only [List.length_take, List.length_drop]; omega)).symm | omega | (rw [List.length_append, List.length_map]; show _ + 1 = _; omega) | simp) | exact .fn _ | exact .tape | exact .nils rfl | exact .nild | exact .nildm | exact .nil | exact .rp (by simp) | exact .clo (by simp) | exact .el rfl rfl rfl | exact .d (by first | rfl | (congr 1; omega) | (congr 1; assumption) | simp) | exact .virt rfl | exact .gone _ | refine .blk rfl ?_ | exact .arr rfl (by first | rfl | assumption | simp)))); rotate_right 1; (focus (repeat' (first | exact .nil | exact .nil _ | refine .cons ?_ ?_ | exact .u _ | exact SVle_pl rfl | refine .one ?_ | refine .agg ?_ | exact .d rfl | exact .ref rfl rfl | exact .sl rfl (by first | rfl | exact List.length_set.symm | exact (splT_len (by simp only [List.length_take, List.length_drop]; omega)).symm | omega | (rw [List.length_append, List.length_map]; show _ + 1 = _; omega) | simp) | exact .fn _ | exact .tape | exact .nils rfl | exact .nild | exact .nildm | exact .nil | exact .rp (by simp) | exact .clo (by simp) | exact .el rfl rfl rfl | exact .d (by first | rfl | (congr 1; omega) | (congr 1; assumption) | simp) | exact .virt rfl | exact .gone _ | refine .blk rfl ?_ | exact .arr rfl (by first | rfl | assumption | simp)))); (exact hP))
    | ((with_reducible refine v_rgat (i := 4) ?_); (refine n_start (by kernel_rfl) ?_; (refine n_quiet none #[true, true, true, true, true, true, true, true] [0, 1, 2, 3, 4, 5, 6, 7] 0 rfl ?_; (repeat' (first | ((fail_if_success (have hTest : Hld False := hP)); (have hq := chk_c hP); (replace hP := chk_p hP)) | ((with_reducible apply (d_e (some []))); exact rfl; exact rfl; kernel_rfl; kernel_rfl; exact rfl; exact rfl; (first | ((with_reducible apply e_v); exact rfl) | ((with_reducible apply e_ld_el1); exact rfl; exact rfl; exact rfl; (first | with_reducible assumption | exact gt_row (by omega) (by omega) | exact rfl); exact rfl) | ((with_reducible apply e_ld_eln); exact rfl; exact rfl; exact rfl; (first | with_reducible assumption | exact gt_row (by omega) (by omega) | exact rfl); exact Nat.le_of_ble_eq_true rfl) | ((with_reducible apply f_ia); exact rfl; exact rfl; exact rfl; (case inst => exact inferInstance); exact rfl; exact rfl; (first | with_reducible assumption | (apply chk_c; exact hP; (first | (guard_target = Prop; rotate_left 1) | skip)))) | ((with_reducible apply f_iasl); exact rfl; exact rfl; exact rfl; (first | with_reducible assumption | (apply chk_c; exact hP; (first | (guard_target = Prop; rotate_left 1) | skip)))) | ((with_reducible apply e_ia_ar); exact rfl; exact rfl; exact rfl; ((repeat ((fail_if_success (have hTest : Hld False := hP)); (have hq := chk_c hP); (replace hP := chk_p hP))); first | with_reducible assumption | (apply chk_c; exact hP; (first | (guard_target = Prop; rotate_left 1) | skip))); ((repeat ((fail_if_success (have hTest : Hld False := hP)); (have hq := chk_c hP); (replace hP := chk_p hP))); first | with_reducible assumption | (apply chk_c; exact hP; (first | (guard_target = Prop; rotate_left 1) | skip))); (first | with_reducible exact Int.toNat_natCast _ | exact rfl)) | ((with_reducible apply f_call (pu := true)); exact rfl; exact ⟨rfl, rfl⟩; apply (at_ic _ _); rotate_left 2; (focus ((repeat' (first | exact .nil _ | refine PsL.cons ?_ ?_ | refine PsSL.cons ?_ ?_ | exact .one (.d _ _) | exact .one psc_nilm | exact psc_nilm | exact .one (.nil _) | exact .one (.nn _) | exact .one (.tape _) | exact .one (.fn _ _) | exact .agg (.same _ _) | refine .agg ?_ | exact .d _ _ | exact .one (.sl rfl rfl) | exact .one (.sl rfl (List.length_map _).symm) | exact .sl rfl rfl | exact .sl rfl (List.length_map _).symm | exact .same _ _)) <;> fail)); exact .inl rfl; (first | with_reducible assumption | (apply chk_c; exact hP; (first | (guard_target = Prop; rotate_left 1) | skip)))) | ((with_reducible apply f_call (pu := true)); exact rfl; exact ⟨rfl, rfl⟩; apply (at_ic ⟨_, _⟩ _); rotate_left 3; dsimp only [Est.v_mk]; (focus ((repeat' (first | exact .nil _ | refine PsL.cons ?_ ?_ | refine PsSL.cons ?_ ?_ | exact .one (.d _ _) | exact .one psc_nilm | exact psc_nilm | exact .one (.nil _) | exact .one (.nn _) | exact .one (.tape _) | exact .one (.fn _ _) | exact .agg (.same _ _) | refine .agg ?_ | exact .d _ _ | exact .one (.sl rfl rfl) | exact .one (.sl rfl (List.length_map _).symm) | exact .sl rfl rfl | exact .sl rfl (List.length_map _).symm | exact .same _ _)) <;> fail)); exact .inl rfl; (first | with_reducible assumption | (apply chk_c; exact hP; (first | (guard_target = Prop; rotate_left 1) | skip)))))) | ((with_reducible apply d_leaf); exact (by decide +kernel)) | ((fail_if_success (have hTest : Hld False := hP)); (replace hP := bth_b hP)))); all_goals (first | ((with_reducible apply n_doneZ); exact rfl; exact (by decide +kernel)) | skip))))
    | ((with_reducible apply v_gs); exact rfl; exact rfl; (exact hP); all_goals (clear hP; intro hg hP))
    | ((with_reducible apply v_if); exact rfl; (exact hP); all_goals (clear hP; intro hc hP)))
noncomputable def rHolds_V (a : Est) (p : Int) (t : Int) (Q : SV → Prop) : Σ' P : Prop, (P → ICt 26 [.agg (List.map .d (Est.row a)), .one (.d (.int .i64 p)), .one (.d (.int .i64 t))] Q) := by
  apply mkV; intro hP
  refine ic_wk (K 31) Try.func26 rfl rfl rfl rfl (fun w0 => ?_)
  apply (v_kint (x := 1)); exact rfl; exact hP; clear hP; intro hP
  apply (v_kint (x := 2)); exact rfl; exact hP; clear hP; intro hP
  repeat' (first
    | ((fail_if_success (have hTest : Hld False := hP)); (have hq := chk_c hP); (replace hP := chk_p hP))
    | ((with_reducible apply j_lst); exact rfl)
    | (with_reducible (first | apply c_seq | apply c_rg | apply j_nil | apply q_n | apply c_ct | apply c_cf | apply c_bl | apply c_ex | apply c_ret | apply c_sk | apply q_r | apply q_e | apply b_r | apply b_e | apply b_n | apply n_n | apply n_r | apply n_e))
    | ((with_reducible apply c_l1); exact rfl; exact rfl)
    | ((with_reducible apply c_l2); exact rfl; exact rfl)
    | ((with_reducible apply c_l3); exact rfl)
    | ((with_reducible apply j_v); exact rfl; exact rfl)
    | ((with_reducible apply (v_bsf (d := 28) (irow))); exact rfl; exact rfl; exact (row_cons (irow_mk _) row_nil); exact rfl; exact rfl)
    | ((with_reducible apply (v_bs (irow))); exact rfl; exact rfl; exact (row_cons (irow_mk _) row_nil); exact rfl)
    | ((with_reducible apply j_h); exact rfl; exact rfl)
    | ((with_reducible apply j_ld_el1); exact rfl; exact rfl; exact rfl; exact rfl; (first | with_reducible assumption | exact gt_row (by omega) (by omega) | exact rfl); exact rfl)
    | ((with_reducible apply j_add); exact rfl; exact rfl; exact rfl; (first | (with_reducible apply wr_i64; (first | with_reducible assumption | (apply chk_c; exact hP; (first | (guard_target = Prop; rotate_left 1) | skip)))) | exact rfl))
    | ((with_reducible apply v_ia); exact rfl; exact rfl; exact rfl; exact rfl; (case inst => exact inferInstance); exact rfl; exact rfl; (first | with_reducible assumption | (apply chk_c; exact hP; (first | (guard_target = Prop; rotate_left 1) | skip))))
    | ((with_reducible apply v_iasl); exact rfl; exact rfl; exact rfl; exact rfl; (first | with_reducible assumption | (apply chk_c; exact hP; (first | (guard_target = Prop; rotate_left 1) | skip))))
    | ((with_reducible apply j_ia_ar); exact rfl; exact rfl; exact rfl; exact rfl; ((repeat ((fail_if_success (have hTest : Hld False := hP)); (have hq := chk_c hP); (replace hP := chk_p hP))); first | with_reducible assumption | (apply chk_c; exact hP; (first | (guard_target = Prop; rotate_left 1) | skip))); ((repeat ((fail_if_success (have hTest : Hld False := hP)); (have hq := chk_c hP); (replace hP := chk_p hP))); first | with_reducible assumption | (apply chk_c; exact hP; (first | (guard_target = Prop; rotate_left 1) | skip))); (first | with_reducible exact Int.toNat_natCast _ | exact rfl))
    | ((with_reducible apply (v_ap (irow))); exact rfl; exact rfl; exact rfl; exact rfl; exact rfl; exact rfl; exact rfl; (first | exact rfl | exact row_one (irow_mk _) | exact row_nil); exact rfl; exact rfl; exact rfl; (first | (apply src_sl; exact rfl; exact rfl; exact rfl) | (apply src_sl; exact rfl; exact rfl; rw [List.length_map]; omega) | (apply src_nil; exact rfl) | (apply src_d; exact rfl; (intro row hrow; obtain ⟨q, _, rfl⟩ := List.mem_map.1 hrow; rfl))); (first | exact rfl | exact row_one (irow_mk _) | exact row_nil); exact rfl; exact rfl; exact rfl; (first | with_reducible assumption | (apply chk_c; exact hP; (first | (guard_target = Prop; rotate_left 1) | skip))))
    | ((with_reducible apply (v_ap0 (irow))); exact rfl; exact rfl; exact rfl; exact rfl; exact rfl; exact rfl; (first | (apply src_sl; exact rfl; exact rfl; exact rfl) | (apply src_sl; exact rfl; exact rfl; rw [List.length_map]; omega) | (apply src_nil; exact rfl) | (apply src_d; exact rfl; (intro row hrow; obtain ⟨q, _, rfl⟩ := List.mem_map.1 hrow; rfl))); (first | exact rfl | exact row_one (irow_mk _) | exact row_nil); exact rfl; exact rfl; exact rfl; (first | with_reducible assumption | (apply chk_c; exact hP; (first | (guard_target = Prop; rotate_left 1) | skip))))
    | ((with_reducible apply c_c); exact rfl; (first | with_reducible assumption | with_reducible exact Eq.refl true | with_reducible exact Eq.refl false | (with_reducible refine not_t ?_; with_reducible assumption) | (with_reducible refine not_f ?_; with_reducible assumption) | (refine dec_t ?_; decide) | (refine dec_f ?_; decide)))
    | ((with_reducible apply b_o); exact rfl)
    | ((with_reducible apply r_g); exact rfl; (· repeat' (first | exact True.intro | refine And.intro ?_ ?_ | (show (_ : Nat) = _; (first | exact rfl | exact (List.length_map _).symm | omega | (simp only [List.length_set, List.length_map, List.length_append] <;> omega) | (simp; done))))); (exact hP.out))
    | ((with_reducible apply j_call (pu := false)); exact rfl; (first | (apply (rPlace27_ic _ _); rotate_left 2) | (apply (rhappened_ic _ _); rotate_left 2)); (focus ((repeat' (first | exact .nil _ | refine PsL.cons ?_ ?_ | refine PsSL.cons ?_ ?_ | exact .one (.d _ _) | exact .one psc_nilm | exact psc_nilm | exact .one (.nil _) | exact .one (.nn _) | exact .one (.tape _) | exact .one (.fn _ _) | exact .agg (.same _ _) | refine .agg ?_ | exact .d _ _ | exact .one (.sl rfl rfl) | exact .one (.sl rfl (List.length_map _).symm) | exact .sl rfl rfl | exact .sl rfl (List.length_map _).symm | exact .same _ _)) <;> fail)); exact .inr rfl)
    | ((with_reducible apply j_call (pu := false)); exact rfl; (first | (apply (rPlace27_ic ⟨_, _⟩ _); rotate_left 3; dsimp only [Est.v_mk]) | (apply (rhappened_ic ⟨_, _⟩ _); rotate_left 3; dsimp only [Est.v_mk])); (focus ((repeat' (first | exact .nil _ | refine PsL.cons ?_ ?_ | refine PsSL.cons ?_ ?_ | exact .one (.d _ _) | exact .one psc_nilm | exact psc_nilm | exact .one (.nil _) | exact .one (.nn _) | exact .one (.tape _) | exact .one (.fn _ _) | exact .agg (.same _ _) | refine .agg ?_ | exact .d _ _ | exact .one (.sl rfl rfl) | exact .one (.sl rfl (List.length_map _).symm) | exact .sl rfl rfl | exact .sl rfl (List.length_map _).symm | exact .same _ _)) <;> fail)); exact .inr rfl)
    | ((with_reducible apply v_call (pu := true)); exact rfl; exact ⟨rfl, rfl⟩; (first | (apply (rnow_ic _ _ _); rotate_left 3)); (focus ((repeat' (first | exact .nil _ | refine PsL.cons ?_ ?_ | refine PsSL.cons ?_ ?_ | exact .one (.d _ _) | exact .one psc_nilm | exact psc_nilm | exact .one (.nil _) | exact .one (.nn _) | exact .one (.tape _) | exact .one (.fn _ _) | exact .agg (.same _ _) | refine .agg ?_ | exact .d _ _ | exact .one (.sl rfl rfl) | exact .one (.sl rfl (List.length_map _).symm) | exact .sl rfl rfl | exact .sl rfl (List.length_map _).symm | exact .same _ _)) <;> fail)); exact .inl rfl; (first | with_reducible assumption | (apply chk_c; exact hP; (first | (guard_target = Prop; rotate_left 1) | skip))))
    | ((with_reducible apply v_call (pu := true)); exact rfl; exact ⟨rfl, rfl⟩; (first | (apply (rnow_ic ⟨_, _⟩ _ _); rotate_left 4; dsimp only [Est.v_mk])); (focus ((repeat' (first | exact .nil _ | refine PsL.cons ?_ ?_ | refine PsSL.cons ?_ ?_ | exact .one (.d _ _) | exact .one psc_nilm | exact psc_nilm | exact .one (.nil _) | exact .one (.nn _) | exact .one (.tape _) | exact .one (.fn _ _) | exact .agg (.same _ _) | refine .agg ?_ | exact .d _ _ | exact .one (.sl rfl rfl) | exact .one (.sl rfl (List.length_map _).symm) | exact .sl rfl rfl | exact .sl rfl (List.length_map _).symm | exact .same _ _)) <;> fail)); exact .inl rfl; (first | with_reducible assumption | (apply chk_c; exact hP; (first | (guard_target = Prop; rotate_left 1) | skip))))
    | ((with_reducible refine v_loopat (c := (.seq (.seq (.region 5 _ _) _) _)) ?_); (apply (v_loop2 [] _ [1, 2, 3] [3] (fun x1 x2 => [(7, .one (.sl 207 (List.length x1) 1)), (8, .one (.d (.int .i64 x2)))]) (fun x1 x2 => [(207, .arr 3 1 (List.map irow x1))]) [207])); exact rfl; exact rfl; (focus (refine ⟨?_, ?_⟩; rotate_left 1; (focus (repeat' (first | exact .nil | exact .nil _ | refine .cons ?_ ?_ | exact .u _ | exact SVle_pl rfl | refine .one ?_ | refine .agg ?_ | exact .d rfl | exact .ref rfl rfl | exact .sl rfl (by first | rfl | exact List.length_set.symm | exact (splT_len (by simp only [List.length_take, List.length_drop]; omega)).symm | omega | (rw [List.length_append, List.length_map]; show _ + 1 = _; omega) | simp) | exact .fn _ | exact .tape | exact .nils rfl | exact .nild | exact .nildm | exact .nil | exact .rp (by simp) | exact .clo (by simp) | exact .el rfl rfl rfl | exact .d (by first | rfl | (congr 1; omega) | (congr 1; assumption) | simp) | exact .virt rfl | exact .gone _ | refine .blk rfl ?_ | exact .arr rfl (by first | rfl | assumption | simp)))); (focus (repeat' (first | exact .nil | exact .nil _ | refine .cons ?_ ?_ | exact .u _ | exact SVle_pl rfl | refine .one ?_ | refine .agg ?_ | exact .d rfl | exact .ref rfl rfl | exact .sl rfl (by first | rfl | exact List.length_set.symm | exact (splT_len (by simp only [List.length_take, List.length_drop]; omega)).symm | omega | (rw [List.length_append, List.length_map]; show _ + 1 = _; omega) | simp) | exact .fn _ | exact .tape | exact .nils rfl | exact .nild | exact .nildm | exact .nil | exact .rp (by simp) | exact .clo (by simp) | exact .el rfl rfl rfl | exact .d (by first | rfl | (congr 1; omega) | (congr 1; assumption) | simp) | exact .virt rfl | exact .gone _ | refine .blk rfl ?_ | exact .arr rfl (by first | rfl | assumption | simp)))))); (exact hP); clear hP; intro I μ x1 x2 hP)
    | ((with_reducible apply (v_nxt2 (a1 := _) (a2 := _))); rotate_left 1; (focus (repeat' (first | exact .nil | exact .nil _ | refine .cons ?_ ?_ | exact .u _ | exact SVle_pl rfl | refine .one ?_ | refine .agg ?_ | exact .d rfl | exact .ref rfl rfl | exact .sl rfl (by first | rfl | exact List.length_set.symm | exact (splT_len (by simp only [List.length_take, List.length_drop]; omega)).symm | omega | (rw [List.length_append, List.length_map]; show _ + 1 = _; omega) | simp) | exact .fn _ | exact .tape | exact .nils rfl | exact .nild | exact .nildm | exact .nil | exact .rp (by simp) | exact .clo (by simp) | exact .el rfl rfl rfl | exact .d (by first | rfl | (congr 1; omega) | (congr 1; assumption) | simp) | exact .virt rfl | exact .gone _ | refine .blk rfl ?_ | exact .arr rfl (by first | rfl | assumption | simp)))); rotate_right 1; (focus (repeat' (first | exact .nil | exact .nil _ | refine .cons ?_ ?_ | exact .u _ | exact SVle_pl rfl | refine .one ?_ | refine .agg ?_ | exact .d rfl | exact .ref rfl rfl | exact .sl rfl (by first | rfl | exact List.length_set.symm | exact (splT_len (by simp only [List.length_take, List.length_drop]; omega)).symm | omega | (rw [List.length_append, List.length_map]; show _ + 1 = _; omega) | simp) | exact .fn _ | exact .tape | exact .nils rfl | exact .nild | exact .nildm | exact .nil | exact .rp (by simp) | exact .clo (by simp) | exact .el rfl rfl rfl | exact .d (by first | rfl | (congr 1; omega) | (congr 1; assumption) | simp) | exact .virt rfl | exact .gone _ | refine .blk rfl ?_ | exact .arr rfl (by first | rfl | assumption | simp)))); (exact hP))
    | ((with_reducible refine v_rgat (i := 7) ?_); (refine n_start (by kernel_rfl) ?_; (refine n_quiet none #[true, true, true, true, true, true, true, true, true] [0, 1, 2, 3, 4, 5, 6, 7, 8] 0 rfl ?_; (repeat' (first | ((fail_if_success (have hTest : Hld False := hP)); (have hq := chk_c hP); (replace hP := chk_p hP)) | ((with_reducible apply (d_e (some []))); exact rfl; exact rfl; kernel_rfl; kernel_rfl; exact rfl; exact rfl; (first | ((with_reducible apply e_v); exact rfl) | ((with_reducible apply e_ld_el1); exact rfl; exact rfl; exact rfl; (first | with_reducible assumption | exact gt_row (by omega) (by omega) | exact rfl); exact rfl) | ((with_reducible apply e_ld_eln); exact rfl; exact rfl; exact rfl; (first | with_reducible assumption | exact gt_row (by omega) (by omega) | exact rfl); exact Nat.le_of_ble_eq_true rfl) | ((with_reducible apply f_ia); exact rfl; exact rfl; exact rfl; (case inst => exact inferInstance); exact rfl; exact rfl; (first | with_reducible assumption | (apply chk_c; exact hP; (first | (guard_target = Prop; rotate_left 1) | skip)))) | ((with_reducible apply f_iasl); exact rfl; exact rfl; exact rfl; (first | with_reducible assumption | (apply chk_c; exact hP; (first | (guard_target = Prop; rotate_left 1) | skip)))) | ((with_reducible apply e_ia_ar); exact rfl; exact rfl; exact rfl; ((repeat ((fail_if_success (have hTest : Hld False := hP)); (have hq := chk_c hP); (replace hP := chk_p hP))); first | with_reducible assumption | (apply chk_c; exact hP; (first | (guard_target = Prop; rotate_left 1) | skip))); ((repeat ((fail_if_success (have hTest : Hld False := hP)); (have hq := chk_c hP); (replace hP := chk_p hP))); first | with_reducible assumption | (apply chk_c; exact hP; (first | (guard_target = Prop; rotate_left 1) | skip))); (first | with_reducible exact Int.toNat_natCast _ | exact rfl)) | ((with_reducible apply f_call (pu := true)); exact rfl; exact ⟨rfl, rfl⟩; apply (rnow_ic _ _ _); rotate_left 3; (focus ((repeat' (first | exact .nil _ | refine PsL.cons ?_ ?_ | refine PsSL.cons ?_ ?_ | exact .one (.d _ _) | exact .one psc_nilm | exact psc_nilm | exact .one (.nil _) | exact .one (.nn _) | exact .one (.tape _) | exact .one (.fn _ _) | exact .agg (.same _ _) | refine .agg ?_ | exact .d _ _ | exact .one (.sl rfl rfl) | exact .one (.sl rfl (List.length_map _).symm) | exact .sl rfl rfl | exact .sl rfl (List.length_map _).symm | exact .same _ _)) <;> fail)); exact .inl rfl; (first | with_reducible assumption | (apply chk_c; exact hP; (first | (guard_target = Prop; rotate_left 1) | skip)))) | ((with_reducible apply f_call (pu := true)); exact rfl; exact ⟨rfl, rfl⟩; apply (rnow_ic ⟨_, _⟩ _ _); rotate_left 4; dsimp only [Est.v_mk]; (focus ((repeat' (first | exact .nil _ | refine PsL.cons ?_ ?_ | refine PsSL.cons ?_ ?_ | exact .one (.d _ _) | exact .one psc_nilm | exact psc_nilm | exact .one (.nil _) | exact .one (.nn _) | exact .one (.tape _) | exact .one (.fn _ _) | exact .agg (.same _ _) | refine .agg ?_ | exact .d _ _ | exact .one (.sl rfl rfl) | exact .one (.sl rfl (List.length_map _).symm) | exact .sl rfl rfl | exact .sl rfl (List.length_map _).symm | exact .same _ _)) <;> fail)); exact .inl rfl; (first | with_reducible assumption | (apply chk_c; exact hP; (first | (guard_target = Prop; rotate_left 1) | skip)))) | ((with_reducible apply e_call (pu := false)); exact rfl; apply (rhappened_ic _ _); rotate_left 2; (focus ((repeat' (first | exact .nil _ | refine PsL.cons ?_ ?_ | refine PsSL.cons ?_ ?_ | exact .one (.d _ _) | exact .one psc_nilm | exact psc_nilm | exact .one (.nil _) | exact .one (.nn _) | exact .one (.tape _) | exact .one (.fn _ _) | exact .agg (.same _ _) | refine .agg ?_ | exact .d _ _ | exact .one (.sl rfl rfl) | exact .one (.sl rfl (List.length_map _).symm) | exact .sl rfl rfl | exact .sl rfl (List.length_map _).symm | exact .same _ _)) <;> fail)); exact .inr rfl) | ((with_reducible apply e_call (pu := false)); exact rfl; apply (rhappened_ic ⟨_, _⟩ _); rotate_left 3; dsimp only [Est.v_mk]; (focus ((repeat' (first | exact .nil _ | refine PsL.cons ?_ ?_ | refine PsSL.cons ?_ ?_ | exact .one (.d _ _) | exact .one psc_nilm | exact psc_nilm | exact .one (.nil _) | exact .one (.nn _) | exact .one (.tape _) | exact .one (.fn _ _) | exact .agg (.same _ _) | refine .agg ?_ | exact .d _ _ | exact .one (.sl rfl rfl) | exact .one (.sl rfl (List.length_map _).symm) | exact .sl rfl rfl | exact .sl rfl (List.length_map _).symm | exact .same _ _)) <;> fail)); exact .inr rfl))) | ((with_reducible apply d_leaf); exact (by decide +kernel)) | ((fail_if_success (have hTest : Hld False := hP)); (replace hP := bth_b hP)))); all_goals (first | ((with_reducible apply n_doneZ); exact rfl; exact (by decide +kernel)) | skip))))
    | ((with_reducible apply v_gs); exact rfl; exact rfl; (exact hP); all_goals (clear hP; intro hg hP))
    | ((with_reducible apply v_if); exact rfl; (exact hP); all_goals (clear hP; intro hc hP)))
noncomputable def Where_V (a : Est) (c : Int) (t : Int) (Q : SV → Prop) : Σ' P : Prop, (P → ICt 20 [.agg (List.map .d (Est.row a)), .one (.d (.int .i64 c)), .one (.d (.int .i64 t))] Q) := by
  apply mkV; intro hP
  refine ic_wk (K 38) Try.func20 rfl rfl rfl rfl (fun w0 => ?_)
  apply (v_kint (x := 1)); exact rfl; exact hP; clear hP; intro hP
  apply (v_kint (x := 2)); exact rfl; exact hP; clear hP; intro hP
  repeat' (first
    | ((fail_if_success (have hTest : Hld False := hP)); (have hq := chk_c hP); (replace hP := chk_p hP))
    | ((with_reducible apply j_lst); exact rfl)
    | (with_reducible (first | apply c_seq | apply c_rg | apply j_nil | apply q_n | apply g_tt | apply g_ff | apply c_ct | apply c_cf | apply c_bl | apply c_ex | apply c_ret | apply c_sk | apply q_r | apply q_e | apply b_r | apply b_e | apply b_n | apply n_n | apply n_r | apply n_e))
    | ((with_reducible apply v_lenstr); exact rfl; exact rfl; kernel_rfl)
    | ((with_reducible apply c_l1); exact rfl; exact rfl)
    | ((with_reducible apply c_l2); exact rfl; exact rfl)
    | ((with_reducible apply c_l3); exact rfl)
    | ((with_reducible apply j_v); exact rfl; exact rfl)
    | ((with_reducible apply (v_bsf (d := 34) (irow))); exact rfl; exact rfl; exact (row_cons (irow_mk _) row_nil); exact rfl; exact rfl)
    | ((with_reducible apply (v_bs (irow))); exact rfl; exact rfl; exact (row_cons (irow_mk _) row_nil); exact rfl)
    | ((with_reducible apply j_h); exact rfl; exact rfl)
    | ((with_reducible apply j_g); exact rfl; exact rfl; (first | with_reducible assumption | with_reducible exact Eq.refl true | with_reducible exact Eq.refl false | (with_reducible refine not_t ?_; with_reducible assumption) | (with_reducible refine not_f ?_; with_reducible assumption) | (refine dec_t ?_; decide) | (refine dec_f ?_; decide)))
    | ((with_reducible apply g_tf); exact rfl)
    | ((with_reducible apply g_ft); exact rfl)
    | ((with_reducible apply j_gz); exact rfl; exact rfl; exact rfl)
    | ((with_reducible apply v_lenm); exact rfl; exact rfl; exact rfl; (exact hP); clear hP; intro hP)
    | ((with_reducible apply v_lens); exact rfl; exact rfl; exact rfl; (exact hP); clear hP; intro hP)
    | ((with_reducible apply j_len); exact rfl; exact rfl; exact rfl)
    | ((with_reducible apply j_len0); exact rfl; exact rfl; exact rfl)
    | ((with_reducible apply j_pk); exact rfl; exact rfl; (first | with_reducible assumption | with_reducible exact Eq.refl true | with_reducible exact Eq.refl false | (with_reducible refine not_t ?_; with_reducible assumption) | (with_reducible refine not_f ?_; with_reducible assumption) | (refine dec_t ?_; decide) | (refine dec_f ?_; decide)); exact rfl)
    | ((with_reducible apply j_ld_el1); exact rfl; exact rfl; exact rfl; exact rfl; (first | with_reducible assumption | exact gt_row (by omega) (by omega) | exact rfl); exact rfl)
    | ((with_reducible apply j_add); exact rfl; exact rfl; exact rfl; (first | (with_reducible apply wr_i64; (first | with_reducible assumption | (apply chk_c; exact hP; (first | (guard_target = Prop; rotate_left 1) | skip)))) | exact rfl))
    | ((with_reducible apply v_ia); exact rfl; exact rfl; exact rfl; exact rfl; (case inst => exact inferInstance); exact rfl; exact rfl; (first | with_reducible assumption | (apply chk_c; exact hP; (first | (guard_target = Prop; rotate_left 1) | skip))))
    | ((with_reducible apply v_iasl); exact rfl; exact rfl; exact rfl; exact rfl; (first | with_reducible assumption | (apply chk_c; exact hP; (first | (guard_target = Prop; rotate_left 1) | skip))))
    | ((with_reducible apply j_ia_ar); exact rfl; exact rfl; exact rfl; exact rfl; ((repeat ((fail_if_success (have hTest : Hld False := hP)); (have hq := chk_c hP); (replace hP := chk_p hP))); first | with_reducible assumption | (apply chk_c; exact hP; (first | (guard_target = Prop; rotate_left 1) | skip))); ((repeat ((fail_if_success (have hTest : Hld False := hP)); (have hq := chk_c hP); (replace hP := chk_p hP))); first | with_reducible assumption | (apply chk_c; exact hP; (first | (guard_target = Prop; rotate_left 1) | skip))); (first | with_reducible exact Int.toNat_natCast _ | exact rfl))
    | ((with_reducible apply (v_ap (irow))); exact rfl; exact rfl; exact rfl; exact rfl; exact rfl; exact rfl; exact rfl; (first | exact rfl | exact row_one (irow_mk _) | exact row_nil); exact rfl; exact rfl; exact rfl; (first | (apply src_sl; exact rfl; exact rfl; exact rfl) | (apply src_sl; exact rfl; exact rfl; rw [List.length_map]; omega) | (apply src_nil; exact rfl) | (apply src_d; exact rfl; (intro row hrow; obtain ⟨q, _, rfl⟩ := List.mem_map.1 hrow; rfl))); (first | exact rfl | exact row_one (irow_mk _) | exact row_nil); exact rfl; exact rfl; exact rfl; (first | with_reducible assumption | (apply chk_c; exact hP; (first | (guard_target = Prop; rotate_left 1) | skip))))
    | ((with_reducible apply (v_ap0 (irow))); exact rfl; exact rfl; exact rfl; exact rfl; exact rfl; exact rfl; (first | (apply src_sl; exact rfl; exact rfl; exact rfl) | (apply src_sl; exact rfl; exact rfl; rw [List.length_map]; omega) | (apply src_nil; exact rfl) | (apply src_d; exact rfl; (intro row hrow; obtain ⟨q, _, rfl⟩ := List.mem_map.1 hrow; rfl))); (first | exact rfl | exact row_one (irow_mk _) | exact row_nil); exact rfl; exact rfl; exact rfl; (first | with_reducible assumption | (apply chk_c; exact hP; (first | (guard_target = Prop; rotate_left 1) | skip))))
    | ((with_reducible apply c_c); exact rfl; (first | with_reducible assumption | with_reducible exact Eq.refl true | with_reducible exact Eq.refl false | (with_reducible refine not_t ?_; with_reducible assumption) | (with_reducible refine not_f ?_; with_reducible assumption) | (refine dec_t ?_; decide) | (refine dec_f ?_; decide)))
    | ((with_reducible apply b_o); exact rfl)
    | ((with_reducible apply r_g); exact rfl; (· repeat' (first | exact True.intro | refine And.intro ?_ ?_ | (show (_ : Nat) = _; (first | exact rfl | exact (List.length_map _).symm | omega | (simp only [List.length_set, List.length_map, List.length_append] <;> omega) | (simp; done))))); (exact hP.out))
    | ((with_reducible apply j_call (pu := false)); exact rfl; (first | (apply (aCheck_ic _); rotate_left 1) | (apply (acont_ic _); rotate_left 1)); (focus ((repeat' (first | exact .nil _ | refine PsL.cons ?_ ?_ | refine PsSL.cons ?_ ?_ | exact .one (.d _ _) | exact .one psc_nilm | exact psc_nilm | exact .one (.nil _) | exact .one (.nn _) | exact .one (.tape _) | exact .one (.fn _ _) | exact .agg (.same _ _) | refine .agg ?_ | exact .d _ _ | exact .one (.sl rfl rfl) | exact .one (.sl rfl (List.length_map _).symm) | exact .sl rfl rfl | exact .sl rfl (List.length_map _).symm | exact .same _ _)) <;> fail)); exact .inr rfl)
    | ((with_reducible apply j_call (pu := false)); exact rfl; (first | (apply (aCheck_ic ⟨_, _⟩); rotate_left 2; dsimp only [Est.v_mk])); (focus ((repeat' (first | exact .nil _ | refine PsL.cons ?_ ?_ | refine PsSL.cons ?_ ?_ | exact .one (.d _ _) | exact .one psc_nilm | exact psc_nilm | exact .one (.nil _) | exact .one (.nn _) | exact .one (.tape _) | exact .one (.fn _ _) | exact .agg (.same _ _) | refine .agg ?_ | exact .d _ _ | exact .one (.sl rfl rfl) | exact .one (.sl rfl (List.length_map _).symm) | exact .sl rfl rfl | exact .sl rfl (List.length_map _).symm | exact .same _ _)) <;> fail)); exact .inr rfl)
    | ((with_reducible apply v_call (pu := true)); exact rfl; exact ⟨rfl, rfl⟩; (first | (apply (at_ic _ _); rotate_left 2) | (apply (bit_ic _); rotate_left 1)); (focus ((repeat' (first | exact .nil _ | refine PsL.cons ?_ ?_ | refine PsSL.cons ?_ ?_ | exact .one (.d _ _) | exact .one psc_nilm | exact psc_nilm | exact .one (.nil _) | exact .one (.nn _) | exact .one (.tape _) | exact .one (.fn _ _) | exact .agg (.same _ _) | refine .agg ?_ | exact .d _ _ | exact .one (.sl rfl rfl) | exact .one (.sl rfl (List.length_map _).symm) | exact .sl rfl rfl | exact .sl rfl (List.length_map _).symm | exact .same _ _)) <;> fail)); exact .inl rfl; (first | with_reducible assumption | (apply chk_c; exact hP; (first | (guard_target = Prop; rotate_left 1) | skip))))
    | ((with_reducible apply v_call (pu := true)); exact rfl; exact ⟨rfl, rfl⟩; (first | (apply (at_ic ⟨_, _⟩ _); rotate_left 3; dsimp only [Est.v_mk])); (focus ((repeat' (first | exact .nil _ | refine PsL.cons ?_ ?_ | refine PsSL.cons ?_ ?_ | exact .one (.d _ _) | exact .one psc_nilm | exact psc_nilm | exact .one (.nil _) | exact .one (.nn _) | exact .one (.tape _) | exact .one (.fn _ _) | exact .agg (.same _ _) | refine .agg ?_ | exact .d _ _ | exact .one (.sl rfl rfl) | exact .one (.sl rfl (List.length_map _).symm) | exact .sl rfl rfl | exact .sl rfl (List.length_map _).symm | exact .same _ _)) <;> fail)); exact .inl rfl; (first | with_reducible assumption | (apply chk_c; exact hP; (first | (guard_target = Prop; rotate_left 1) | skip))))
    | ((with_reducible refine v_loopat (c := (.seq (.region 5 _ _) _)) ?_); (apply (v_loop2 [] _ [1, 20, 21] [] (fun x1 x2 => [(7, .one (.sl 207 (List.length x1) 1)), (22, .one (.d (.int .i64 x2)))]) (fun x1 x2 => [(207, .arr 3 1 (List.map irow x1))]) [207])); exact rfl; exact rfl; (focus (refine ⟨?_, ?_⟩; rotate_left 1; (focus (repeat' (first | exact .nil | exact .nil _ | refine .cons ?_ ?_ | exact .u _ | exact SVle_pl rfl | refine .one ?_ | refine .agg ?_ | exact .d rfl | exact .ref rfl rfl | exact .sl rfl (by first | rfl | exact List.length_set.symm | exact (splT_len (by simp only [List.length_take, List.length_drop]; omega)).symm | omega | (rw [List.length_append, List.length_map]; show _ + 1 = _; omega) | simp) | exact .fn _ | exact .tape | exact .nils rfl | exact .nild | exact .nildm | exact .nil | exact .rp (by simp) | exact .clo (by simp) | exact .el rfl rfl rfl | exact .d (by first | rfl | (congr 1; omega) | (congr 1; assumption) | simp) | exact .virt rfl | exact .gone _ | refine .blk rfl ?_ | exact .arr rfl (by first | rfl | assumption | simp)))); (focus (repeat' (first | exact .nil | exact .nil _ | refine .cons ?_ ?_ | exact .u _ | exact SVle_pl rfl | refine .one ?_ | refine .agg ?_ | exact .d rfl | exact .ref rfl rfl | exact .sl rfl (by first | rfl | exact List.length_set.symm | exact (splT_len (by simp only [List.length_take, List.length_drop]; omega)).symm | omega | (rw [List.length_append, List.length_map]; show _ + 1 = _; omega) | simp) | exact .fn _ | exact .tape | exact .nils rfl | exact .nild | exact .nildm | exact .nil | exact .rp (by simp) | exact .clo (by simp) | exact .el rfl rfl rfl | exact .d (by first | rfl | (congr 1; omega) | (congr 1; assumption) | simp) | exact .virt rfl | exact .gone _ | refine .blk rfl ?_ | exact .arr rfl (by first | rfl | assumption | simp)))))); (exact hP); clear hP; intro I μ x1 x2 hP)
    | ((with_reducible apply (v_nxt2 (a1 := _) (a2 := _))); rotate_left 1; (focus (repeat' (first | exact .nil | exact .nil _ | refine .cons ?_ ?_ | exact .u _ | exact SVle_pl rfl | refine .one ?_ | refine .agg ?_ | exact .d rfl | exact .ref rfl rfl | exact .sl rfl (by first | rfl | exact List.length_set.symm | exact (splT_len (by simp only [List.length_take, List.length_drop]; omega)).symm | omega | (rw [List.length_append, List.length_map]; show _ + 1 = _; omega) | simp) | exact .fn _ | exact .tape | exact .nils rfl | exact .nild | exact .nildm | exact .nil | exact .rp (by simp) | exact .clo (by simp) | exact .el rfl rfl rfl | exact .d (by first | rfl | (congr 1; omega) | (congr 1; assumption) | simp) | exact .virt rfl | exact .gone _ | refine .blk rfl ?_ | exact .arr rfl (by first | rfl | assumption | simp)))); rotate_right 1; (focus (repeat' (first | exact .nil | exact .nil _ | refine .cons ?_ ?_ | exact .u _ | exact SVle_pl rfl | refine .one ?_ | refine .agg ?_ | exact .d rfl | exact .ref rfl rfl | exact .sl rfl (by first | rfl | exact List.length_set.symm | exact (splT_len (by simp only [List.length_take, List.length_drop]; omega)).symm | omega | (rw [List.length_append, List.length_map]; show _ + 1 = _; omega) | simp) | exact .fn _ | exact .tape | exact .nils rfl | exact .nild | exact .nildm | exact .nil | exact .rp (by simp) | exact .clo (by simp) | exact .el rfl rfl rfl | exact .d (by first | rfl | (congr 1; omega) | (congr 1; assumption) | simp) | exact .virt rfl | exact .gone _ | refine .blk rfl ?_ | exact .arr rfl (by first | rfl | assumption | simp)))); (exact hP))
    | ((with_reducible apply v_gs); exact rfl; exact rfl; (exact hP); all_goals (clear hP; intro hg hP))
    | ((with_reducible apply v_if); exact rfl; (exact hP); all_goals (clear hP; intro hc hP)))
noncomputable def rWhere_V (a : Est) (c : Int) (t : Int) (Q : SV → Prop) : Σ' P : Prop, (P → ICt 27 [.agg (List.map .d (Est.row a)), .one (.d (.int .i64 c)), .one (.d (.int .i64 t))] Q) := by
  apply mkV; intro hP
  refine ic_wk (K 33) Try.func27 rfl rfl rfl rfl (fun w0 => ?_)
  apply (v_kint (x := 1)); exact rfl; exact hP; clear hP; intro hP
  apply (v_kint (x := 2)); exact rfl; exact hP; clear hP; intro hP
  repeat' (first
    | ((fail_if_success (have hTest : Hld False := hP)); (have hq := chk_c hP); (replace hP := chk_p hP))
    | ((with_reducible apply j_lst); exact rfl)
    | (with_reducible (first | apply c_seq | apply c_rg | apply j_nil | apply q_n | apply c_ct | apply c_cf | apply c_bl | apply c_ex | apply c_ret | apply c_sk | apply q_r | apply q_e | apply b_r | apply b_e | apply b_n | apply n_n | apply n_r | apply n_e))
    | ((with_reducible apply v_lenstr); exact rfl; exact rfl; kernel_rfl)
    | ((with_reducible apply c_l1); exact rfl; exact rfl)
    | ((with_reducible apply c_l2); exact rfl; exact rfl)
    | ((with_reducible apply c_l3); exact rfl)
    | ((with_reducible apply j_v); exact rfl; exact rfl)
    | ((with_reducible apply (v_bsf (d := 29) (irow))); exact rfl; exact rfl; exact (row_cons (irow_mk _) row_nil); exact rfl; exact rfl)
    | ((with_reducible apply (v_bs (irow))); exact rfl; exact rfl; exact (row_cons (irow_mk _) row_nil); exact rfl)
    | ((with_reducible apply j_h); exact rfl; exact rfl)
    | ((with_reducible apply v_lenm); exact rfl; exact rfl; exact rfl; (exact hP); clear hP; intro hP)
    | ((with_reducible apply v_lens); exact rfl; exact rfl; exact rfl; (exact hP); clear hP; intro hP)
    | ((with_reducible apply j_len); exact rfl; exact rfl; exact rfl)
    | ((with_reducible apply j_len0); exact rfl; exact rfl; exact rfl)
    | ((with_reducible apply j_ld_el1); exact rfl; exact rfl; exact rfl; exact rfl; (first | with_reducible assumption | exact gt_row (by omega) (by omega) | exact rfl); exact rfl)
    | ((with_reducible apply j_add); exact rfl; exact rfl; exact rfl; (first | (with_reducible apply wr_i64; (first | with_reducible assumption | (apply chk_c; exact hP; (first | (guard_target = Prop; rotate_left 1) | skip)))) | exact rfl))
    | ((with_reducible apply v_ia); exact rfl; exact rfl; exact rfl; exact rfl; (case inst => exact inferInstance); exact rfl; exact rfl; (first | with_reducible assumption | (apply chk_c; exact hP; (first | (guard_target = Prop; rotate_left 1) | skip))))
    | ((with_reducible apply v_iasl); exact rfl; exact rfl; exact rfl; exact rfl; (first | with_reducible assumption | (apply chk_c; exact hP; (first | (guard_target = Prop; rotate_left 1) | skip))))
    | ((with_reducible apply j_ia_ar); exact rfl; exact rfl; exact rfl; exact rfl; ((repeat ((fail_if_success (have hTest : Hld False := hP)); (have hq := chk_c hP); (replace hP := chk_p hP))); first | with_reducible assumption | (apply chk_c; exact hP; (first | (guard_target = Prop; rotate_left 1) | skip))); ((repeat ((fail_if_success (have hTest : Hld False := hP)); (have hq := chk_c hP); (replace hP := chk_p hP))); first | with_reducible assumption | (apply chk_c; exact hP; (first | (guard_target = Prop; rotate_left 1) | skip))); (first | with_reducible exact Int.toNat_natCast _ | exact rfl))
    | ((with_reducible apply (v_ap (irow))); exact rfl; exact rfl; exact rfl; exact rfl; exact rfl; exact rfl; exact rfl; (first | exact rfl | exact row_one (irow_mk _) | exact row_nil); exact rfl; exact rfl; exact rfl; (first | (apply src_sl; exact rfl; exact rfl; exact rfl) | (apply src_sl; exact rfl; exact rfl; rw [List.length_map]; omega) | (apply src_nil; exact rfl) | (apply src_d; exact rfl; (intro row hrow; obtain ⟨q, _, rfl⟩ := List.mem_map.1 hrow; rfl))); (first | exact rfl | exact row_one (irow_mk _) | exact row_nil); exact rfl; exact rfl; exact rfl; (first | with_reducible assumption | (apply chk_c; exact hP; (first | (guard_target = Prop; rotate_left 1) | skip))))
    | ((with_reducible apply (v_ap0 (irow))); exact rfl; exact rfl; exact rfl; exact rfl; exact rfl; exact rfl; (first | (apply src_sl; exact rfl; exact rfl; exact rfl) | (apply src_sl; exact rfl; exact rfl; rw [List.length_map]; omega) | (apply src_nil; exact rfl) | (apply src_d; exact rfl; (intro row hrow; obtain ⟨q, _, rfl⟩ := List.mem_map.1 hrow; rfl))); (first | exact rfl | exact row_one (irow_mk _) | exact row_nil); exact rfl; exact rfl; exact rfl; (first | with_reducible assumption | (apply chk_c; exact hP; (first | (guard_target = Prop; rotate_left 1) | skip))))
    | ((with_reducible apply c_c); exact rfl; (first | with_reducible assumption | with_reducible exact Eq.refl true | with_reducible exact Eq.refl false | (with_reducible refine not_t ?_; with_reducible assumption) | (with_reducible refine not_f ?_; with_reducible assumption) | (refine dec_t ?_; decide) | (refine dec_f ?_; decide)))
    | ((with_reducible apply b_o); exact rfl)
    | ((with_reducible apply r_g); exact rfl; (· repeat' (first | exact True.intro | refine And.intro ?_ ?_ | (show (_ : Nat) = _; (first | exact rfl | exact (List.length_map _).symm | omega | (simp only [List.length_set, List.length_map, List.length_append] <;> omega) | (simp; done))))); (exact hP.out))
    | ((with_reducible apply v_call (pu := true)); exact rfl; exact ⟨rfl, rfl⟩; (first | (apply (rnow_ic _ _ _); rotate_left 3)); (focus ((repeat' (first | exact .nil _ | refine PsL.cons ?_ ?_ | refine PsSL.cons ?_ ?_ | exact .one (.d _ _) | exact .one psc_nilm | exact psc_nilm | exact .one (.nil _) | exact .one (.nn _) | exact .one (.tape _) | exact .one (.fn _ _) | exact .agg (.same _ _) | refine .agg ?_ | exact .d _ _ | exact .one (.sl rfl rfl) | exact .one (.sl rfl (List.length_map _).symm) | exact .sl rfl rfl | exact .sl rfl (List.length_map _).symm | exact .same _ _)) <;> fail)); exact .inl rfl; (first | with_reducible assumption | (apply chk_c; exact hP; (first | (guard_target = Prop; rotate_left 1) | skip))))
    | ((with_reducible apply v_call (pu := true)); exact rfl; exact ⟨rfl, rfl⟩; (first | (apply (rnow_ic ⟨_, _⟩ _ _); rotate_left 4; dsimp only [Est.v_mk])); (focus ((repeat' (first | exact .nil _ | refine PsL.cons ?_ ?_ | refine PsSL.cons ?_ ?_ | exact .one (.d _ _) | exact .one psc_nilm | exact psc_nilm | exact .one (.nil _) | exact .one (.nn _) | exact .one (.tape _) | exact .one (.fn _ _) | exact .agg (.same _ _) | refine .agg ?_ | exact .d _ _ | exact .one (.sl rfl rfl) | exact .one (.sl rfl (List.length_map _).symm) | exact .sl rfl rfl | exact .sl rfl (List.length_map _).symm | exact .same _ _)) <;> fail)); exact .inl rfl; (first | with_reducible assumption | (apply chk_c; exact hP; (first | (guard_target = Prop; rotate_left 1) | skip))))
    | ((with_reducible apply j_call (pu := false)); exact rfl; (first | (apply (rhappened_ic _ _); rotate_left 2) | (apply (rright_ic _ _); rotate_left 2)); (focus ((repeat' (first | exact .nil _ | refine PsL.cons ?_ ?_ | refine PsSL.cons ?_ ?_ | exact .one (.d _ _) | exact .one psc_nilm | exact psc_nilm | exact .one (.nil _) | exact .one (.nn _) | exact .one (.tape _) | exact .one (.fn _ _) | exact .agg (.same _ _) | refine .agg ?_ | exact .d _ _ | exact .one (.sl rfl rfl) | exact .one (.sl rfl (List.length_map _).symm) | exact .sl rfl rfl | exact .sl rfl (List.length_map _).symm | exact .same _ _)) <;> fail)); exact .inr rfl)
    | ((with_reducible apply j_call (pu := false)); exact rfl; (first | (apply (rhappened_ic ⟨_, _⟩ _); rotate_left 3; dsimp only [Est.v_mk]) | (apply (rright_ic ⟨_, _⟩ _); rotate_left 3; dsimp only [Est.v_mk])); (focus ((repeat' (first | exact .nil _ | refine PsL.cons ?_ ?_ | refine PsSL.cons ?_ ?_ | exact .one (.d _ _) | exact .one psc_nilm | exact psc_nilm | exact .one (.nil _) | exact .one (.nn _) | exact .one (.tape _) | exact .one (.fn _ _) | exact .agg (.same _ _) | refine .agg ?_ | exact .d _ _ | exact .one (.sl rfl rfl) | exact .one (.sl rfl (List.length_map _).symm) | exact .sl rfl rfl | exact .sl rfl (List.length_map _).symm | exact .same _ _)) <;> fail)); exact .inr rfl)
    | ((with_reducible refine v_loopat (c := (.seq (.region 5 _ _) _)) ?_); (apply (v_loop2 [] _ [19, 20] [] (fun x1 x2 => [(7, .one (.sl 207 (List.length x1) 1)), (21, .one (.d (.int .i64 x2)))]) (fun x1 x2 => [(207, .arr 3 1 (List.map irow x1))]) [207])); exact rfl; exact rfl; (focus (refine ⟨?_, ?_⟩; rotate_left 1; (focus (repeat' (first | exact .nil | exact .nil _ | refine .cons ?_ ?_ | exact .u _ | exact SVle_pl rfl | refine .one ?_ | refine .agg ?_ | exact .d rfl | exact .ref rfl rfl | exact .sl rfl (by first | rfl | exact List.length_set.symm | exact (splT_len (by simp only [List.length_take, List.length_drop]; omega)).symm | omega | (rw [List.length_append, List.length_map]; show _ + 1 = _; omega) | simp) | exact .fn _ | exact .tape | exact .nils rfl | exact .nild | exact .nildm | exact .nil | exact .rp (by simp) | exact .clo (by simp) | exact .el rfl rfl rfl | exact .d (by first | rfl | (congr 1; omega) | (congr 1; assumption) | simp) | exact .virt rfl | exact .gone _ | refine .blk rfl ?_ | exact .arr rfl (by first | rfl | assumption | simp)))); (focus (repeat' (first | exact .nil | exact .nil _ | refine .cons ?_ ?_ | exact .u _ | exact SVle_pl rfl | refine .one ?_ | refine .agg ?_ | exact .d rfl | exact .ref rfl rfl | exact .sl rfl (by first | rfl | exact List.length_set.symm | exact (splT_len (by simp only [List.length_take, List.length_drop]; omega)).symm | omega | (rw [List.length_append, List.length_map]; show _ + 1 = _; omega) | simp) | exact .fn _ | exact .tape | exact .nils rfl | exact .nild | exact .nildm | exact .nil | exact .rp (by simp) | exact .clo (by simp) | exact .el rfl rfl rfl | exact .d (by first | rfl | (congr 1; omega) | (congr 1; assumption) | simp) | exact .virt rfl | exact .gone _ | refine .blk rfl ?_ | exact .arr rfl (by first | rfl | assumption | simp)))))); (exact hP); clear hP; intro I μ x1 x2 hP)
    | ((with_reducible apply (v_nxt2 (a1 := _) (a2 := _))); rotate_left 1; (focus (repeat' (first | exact .nil | exact .nil _ | refine .cons ?_ ?_ | exact .u _ | exact SVle_pl rfl | refine .one ?_ | refine .agg ?_ | exact .d rfl | exact .ref rfl rfl | exact .sl rfl (by first | rfl | exact List.length_set.symm | exact (splT_len (by simp only [List.length_take, List.length_drop]; omega)).symm | omega | (rw [List.length_append, List.length_map]; show _ + 1 = _; omega) | simp) | exact .fn _ | exact .tape | exact .nils rfl | exact .nild | exact .nildm | exact .nil | exact .rp (by simp) | exact .clo (by simp) | exact .el rfl rfl rfl | exact .d (by first | rfl | (congr 1; omega) | (congr 1; assumption) | simp) | exact .virt rfl | exact .gone _ | refine .blk rfl ?_ | exact .arr rfl (by first | rfl | assumption | simp)))); rotate_right 1; (focus (repeat' (first | exact .nil | exact .nil _ | refine .cons ?_ ?_ | exact .u _ | exact SVle_pl rfl | refine .one ?_ | refine .agg ?_ | exact .d rfl | exact .ref rfl rfl | exact .sl rfl (by first | rfl | exact List.length_set.symm | exact (splT_len (by simp only [List.length_take, List.length_drop]; omega)).symm | omega | (rw [List.length_append, List.length_map]; show _ + 1 = _; omega) | simp) | exact .fn _ | exact .tape | exact .nils rfl | exact .nild | exact .nildm | exact .nil | exact .rp (by simp) | exact .clo (by simp) | exact .el rfl rfl rfl | exact .d (by first | rfl | (congr 1; omega) | (congr 1; assumption) | simp) | exact .virt rfl | exact .gone _ | refine .blk rfl ?_ | exact .arr rfl (by first | rfl | assumption | simp)))); (exact hP))
    | ((with_reducible refine v_rgat (i := 4) ?_); (refine n_start (by kernel_rfl) ?_; (refine n_quiet none #[true, true, true, true, true, true, true, true] [0, 1, 2, 3, 4, 5, 6, 7] 0 rfl ?_; (repeat' (first | ((fail_if_success (have hTest : Hld False := hP)); (have hq := chk_c hP); (replace hP := chk_p hP)) | ((with_reducible apply (d_e (some []))); exact rfl; exact rfl; kernel_rfl; kernel_rfl; exact rfl; exact rfl; (first | ((with_reducible apply e_v); exact rfl) | ((with_reducible apply e_lenm); exact rfl; exact rfl) | ((with_reducible apply e_lens); exact rfl; exact rfl) | ((with_reducible apply e_len); exact rfl; exact rfl) | ((with_reducible apply e_len0); exact rfl; exact rfl) | ((with_reducible apply e_ld_el1); exact rfl; exact rfl; exact rfl; (first | with_reducible assumption | exact gt_row (by omega) (by omega) | exact rfl); exact rfl) | ((with_reducible apply e_ld_eln); exact rfl; exact rfl; exact rfl; (first | with_reducible assumption | exact gt_row (by omega) (by omega) | exact rfl); exact Nat.le_of_ble_eq_true rfl) | ((with_reducible apply f_ia); exact rfl; exact rfl; exact rfl; (case inst => exact inferInstance); exact rfl; exact rfl; (first | with_reducible assumption | (apply chk_c; exact hP; (first | (guard_target = Prop; rotate_left 1) | skip)))) | ((with_reducible apply f_iasl); exact rfl; exact rfl; exact rfl; (first | with_reducible assumption | (apply chk_c; exact hP; (first | (guard_target = Prop; rotate_left 1) | skip)))) | ((with_reducible apply e_ia_ar); exact rfl; exact rfl; exact rfl; ((repeat ((fail_if_success (have hTest : Hld False := hP)); (have hq := chk_c hP); (replace hP := chk_p hP))); first | with_reducible assumption | (apply chk_c; exact hP; (first | (guard_target = Prop; rotate_left 1) | skip))); ((repeat ((fail_if_success (have hTest : Hld False := hP)); (have hq := chk_c hP); (replace hP := chk_p hP))); first | with_reducible assumption | (apply chk_c; exact hP; (first | (guard_target = Prop; rotate_left 1) | skip))); (first | with_reducible exact Int.toNat_natCast _ | exact rfl)) | ((with_reducible apply f_lenstr); exact rfl; kernel_rfl) | ((with_reducible apply f_call (pu := true)); exact rfl; exact ⟨rfl, rfl⟩; apply (rnow_ic _ _ _); rotate_left 3; (focus ((repeat' (first | exact .nil _ | refine PsL.cons ?_ ?_ | refine PsSL.cons ?_ ?_ | exact .one (.d _ _) | exact .one psc_nilm | exact psc_nilm | exact .one (.nil _) | exact .one (.nn _) | exact .one (.tape _) | exact .one (.fn _ _) | exact .agg (.same _ _) | refine .agg ?_ | exact .d _ _ | exact .one (.sl rfl rfl) | exact .one (.sl rfl (List.length_map _).symm) | exact .sl rfl rfl | exact .sl rfl (List.length_map _).symm | exact .same _ _)) <;> fail)); exact .inl rfl; (first | with_reducible assumption | (apply chk_c; exact hP; (first | (guard_target = Prop; rotate_left 1) | skip)))) | ((with_reducible apply f_call (pu := true)); exact rfl; exact ⟨rfl, rfl⟩; apply (rnow_ic ⟨_, _⟩ _ _); rotate_left 4; dsimp only [Est.v_mk]; (focus ((repeat' (first | exact .nil _ | refine PsL.cons ?_ ?_ | refine PsSL.cons ?_ ?_ | exact .one (.d _ _) | exact .one psc_nilm | exact psc_nilm | exact .one (.nil _) | exact .one (.nn _) | exact .one (.tape _) | exact .one (.fn _ _) | exact .agg (.same _ _) | refine .agg ?_ | exact .d _ _ | exact .one (.sl rfl rfl) | exact .one (.sl rfl (List.length_map _).symm) | exact .sl rfl rfl | exact .sl rfl (List.length_map _).symm | exact .same _ _)) <;> fail)); exact .inl rfl; (first | with_reducible assumption | (apply chk_c; exact hP; (first | (guard_target = Prop; rotate_left 1) | skip)))) | ((with_reducible apply e_call (pu := false)); exact rfl; apply (rhappened_ic _ _); rotate_left 2; (focus ((repeat' (first | exact .nil _ | refine PsL.cons ?_ ?_ | refine PsSL.cons ?_ ?_ | exact .one (.d _ _) | exact .one psc_nilm | exact psc_nilm | exact .one (.nil _) | exact .one (.nn _) | exact .one (.tape _) | exact .one (.fn _ _) | exact .agg (.same _ _) | refine .agg ?_ | exact .d _ _ | exact .one (.sl rfl rfl) | exact .one (.sl rfl (List.length_map _).symm) | exact .sl rfl rfl | exact .sl rfl (List.length_map _).symm | exact .same _ _)) <;> fail)); exact .inr rfl) | ((with_reducible apply e_call (pu := false)); exact rfl; apply (rhappened_ic ⟨_, _⟩ _); rotate_left 3; dsimp only [Est.v_mk]; (focus ((repeat' (first | exact .nil _ | refine PsL.cons ?_ ?_ | refine PsSL.cons ?_ ?_ | exact .one (.d _ _) | exact .one psc_nilm | exact psc_nilm | exact .one (.nil _) | exact .one (.nn _) | exact .one (.tape _) | exact .one (.fn _ _) | exact .agg (.same _ _) | refine .agg ?_ | exact .d _ _ | exact .one (.sl rfl rfl) | exact .one (.sl rfl (List.length_map _).symm) | exact .sl rfl rfl | exact .sl rfl (List.length_map _).symm | exact .same _ _)) <;> fail)); exact .inr rfl))) | ((with_reducible apply d_leaf); exact (by decide +kernel)) | ((fail_if_success (have hTest : Hld False := hP)); (replace hP := bth_b hP)))); all_goals (first | ((with_reducible apply n_doneZ); exact rfl; exact (by decide +kernel)) | skip))))
    | ((with_reducible apply v_gs); exact rfl; exact rfl; (exact hP); all_goals (clear hP; intro hg hP))
    | ((with_reducible apply v_if); exact rfl; (exact hP); all_goals (clear hP; intro hc hP)))
theorem est0 {a : Est} (h : (if estB a = true then (0 : Int) else 34) = 0) : estB a = true := by
  cases e : estB a with
  | true => rfl
  | false => rw [e] at h; simp at h
theorem est1 {a : Est} (h : ¬ (if estB a = true then (0 : Int) else 34) = 0) : estB a = false := by
  cases e : estB a with
  | false => rfl
  | true => rw [e] at h; simp at h
theorem fl_ext {q : Int → Bool} {n m : Nat} (h : n ≤ m) (hq : ∀ k : Int, (n : Int) ≤ k → k < m → q k = false) : (rg' m).filter q = (rg' n).filter q := by
  induction m with
  | zero => obtain rfl : n = 0 := by omega
            rfl
  | succ m ih =>
    by_cases e : n = m + 1
    · subst e; rfl
    · rw [fl_succ, hq m (by omega) (by omega), if_neg (by simp), ih (by omega) fun k h1 h2 => hq k h1 (by omega)]
theorem tb_big {x d : Int} (hx : U64 x) (hd : 64 ≤ d) : tb x d = false := by
  obtain ⟨h0, h1⟩ := hx
  unfold tb
  apply Nat.testBit_lt_two_pow
  have h2 : (2 : Nat) ^ 64 ≤ 2 ^ d.toNat := Nat.pow_le_pow_right (by omega) (by omega)
  generalize (2 : Nat) ^ d.toNat = k at *
  omega
theorem tb_all {x : Int} (hx : U64 x) (h : ∀ d : Int, 0 ≤ d → tb x d = false) : x = 0 := by
  obtain ⟨h0, h1⟩ := hx
  have : x.toNat = 0 := Nat.eq_of_testBit_eq fun i => by
    have := h i (by omega)
    unfold tb at this
    rw [Int.toNat_natCast] at this
    rw [this, Nat.zero_testBit]
  omega
theorem fl_len (q : Int → Bool) (n : Nat) : ((rg' n).filter q).length ≤ n := by
  refine Nat.le_trans (List.length_filter_le _ _) ?_
  simp [rg']
theorem Holds_ic (a : Est) (p t : Int) : ICt 22 [a.v, iv p, iv t] (fun v => v = lv (holdsS a p t)) := (Holds_V a p t _).2 (by
  (delta Holds_V; dsimp only [mkV])
  (repeat' (first | with_reducible refine brn_nd (fun h => ?_) (fun h => ?_) | with_reducible refine brn_d (fun h => ?_) (fun h => ?_) | with_reducible refine brn_nn (fun h => ?_) (fun h => ?_) | with_reducible refine brn_nb (fun h => ?_) (fun h => ?_) | with_reducible refine Brn.mk (fun h => ?_) (fun h => ?_) | with_reducible refine Chk.mk ?_ ?_ | with_reducible refine Bth.mk ?_ ?_ | with_reducible refine Fct.mk (fun hf => ?_)))
  · have h1 := est1 (by assumption); simp [holdsS, h1]
  · have h1 := est0 (by assumption); have := estB_iff.1 h1; omega
  · have h1 : inB p 0 (a.places - 1) = false := by assumption
    simp [holdsS, h1]
  · exact est_hap (est0 (by assumption))
  · have h1 : inB p 0 (a.places - 1) = true := by assumption
    rw [inB_iff] at h1; rw [atS_len]; omega
  have he := est0 (a := a) (by assumption)
  have hi : inB p 0 (a.places - 1) = true := by assumption
  have hi2 := (inB_iff _ _ _).1 hi
  have hx := at_tb he (c := 0) (by omega) hi2.1 (by omega) t
  have hU := hx.1
  have hin : ∀ c : Int, 0 ≤ c → c < 64 → tb (gt (atS a t) p) c = inT a c p t := fun c h1 h2 => (at_tb he (by omega) hi2.1 (by omega) t).2
  generalize gt (atS a t) p = x at *
  refine lp3 (fun o c l => 0 ≤ c ∧ c ≤ 64 ∧ U64 l ∧ (∀ d : Int, 0 ≤ d → tb l d = tb x (c + d)) ∧ o = (rg' c.toNat).filter fun k => tb x k) (fun _ c _ => (64 - c).toNat) ⟨by omega, by omega, hU, fun d hd => by rw [Int.zero_add], rfl⟩ ?_
  rintro I μ nx o c l ⟨h0, h1, h2, h3, rfl⟩
  obtain ⟨n, rfl⟩ : ∃ n : Nat, c = n := ⟨c.toNat, by omega⟩
  have hc : ¬ l = 0 → n < 64 := fun hl => by
    by_cases e : n < 64
    · exact e
    · exact absurd (tb_all h2 fun d hd => by rw [h3 d hd]; exact tb_big hU (by omega)) hl
  have h3' : tb l 0 = tb x n := by have := h3 0 (by omega); rwa [Int.add_zero] at this
  have e1 : ((n : Int) + 1).toNat = n + 1 := by omega
  have hl := fl_len (fun k => tb x k) n
  have nx' : n < 64 → ∀ o', o' = (rg' (n + 1)).filter (fun k => tb x k) → I o' ((n : Int) + 1) (l.fdiv (2 ^ min (Int.toNat 1) IntKind.u64.bits)) ∧ μ o' ((n : Int) + 1) (l.fdiv (2 ^ min (Int.toNat 1) IntKind.u64.bits)) < μ ((rg' (n : Int).toNat).filter fun k => tb x k) n l := fun hn o' ho' => by
    refine nx _ _ _ _ _ _ ⟨h0, h1, h2, h3, rfl⟩ ⟨by omega, by omega, (tb_half h2 (Int.le_refl 0)).1, fun d hd => ?_, by rw [e1]; exact ho'⟩ (by omega)
    have := (tb_half h2 hd).2
    show tb (l.fdiv 2) d = _
    rw [this, h3 _ (by omega)]; congr 1; omega
  simp only [Int.toNat_natCast] at nx' ⊢
  rw [and_one h2, h3']
  (repeat' (first | with_reducible refine brn_nd (fun h => ?_) (fun h => ?_) | with_reducible refine brn_d (fun h => ?_) (fun h => ?_) | with_reducible refine brn_nn (fun h => ?_) (fun h => ?_) | with_reducible refine brn_nb (fun h => ?_) (fun h => ?_) | with_reducible refine Brn.mk (fun h => ?_) (fun h => ?_) | with_reducible refine Chk.mk ?_ ?_ | with_reducible refine Bth.mk ?_ ?_ | with_reducible refine Fct.mk (fun hf => ?_)))
  · simp; omega
  · omega
  · refine nx' (hc (by assumption)) _ ?_
    rw [fl_succ, if_pos (by assumption)]
  · have := hc (by assumption); omega
  · refine nx' (hc (by assumption)) _ ?_
    have h9 : tb x n = false := by assumption
    rw [fl_succ, if_neg (by rw [h9]; simp)]
  · have h9 : l = 0 := by assumption
    subst h9
    refine congrArg lv ?_
    unfold holdsS
    rw [if_pos (by simp [he, hi]), fl_ext (q := fun c => inT a c p t) (n := n) (m := 64) (by omega) fun k q1 q2 => by
      show inT a k p t = false
      rw [← hin k (by omega) (by omega)]
      have := h3 (k - n) (by omega)
      rw [show (n : Int) + (k - n) = k by omega] at this
      rw [← this, tb_zero]]
    apply List.filter_congr
    intro k hk
    rw [rg'_mem] at hk
    exact hin k hk.1 (by omega))
theorem rHolds_ic (a : Est) (p t : Int) : ICt 26 [a.v, iv p, iv t] (fun v => v = lv (holdsS a p t)) := (rHolds_V a p t _).2 (by
  (delta rHolds_V; dsimp only [mkV])
  (repeat' (first | with_reducible refine brn_nd (fun h => ?_) (fun h => ?_) | with_reducible refine brn_d (fun h => ?_) (fun h => ?_) | with_reducible refine brn_nn (fun h => ?_) (fun h => ?_) | with_reducible refine brn_nb (fun h => ?_) (fun h => ?_) | with_reducible refine Brn.mk (fun h => ?_) (fun h => ?_) | with_reducible refine Chk.mk ?_ ?_ | with_reducible refine Bth.mk ?_ ?_ | with_reducible refine Fct.mk (fun hf => ?_)))
  · have h1 : (estB a && inB p 0 (a.places - 1)) = false := by assumption
    simp [holdsS, h1]
  have h1 : (estB a && inB p 0 (a.places - 1)) = true := by assumption
  have h2 := h1
  rw [Bool.and_eq_true, inB_iff] at h2
  refine lp2 (fun o c => 0 ≤ c ∧ c ≤ 64 ∧ o = (rg' c.toNat).filter fun k => inT a k p t) (fun _ c => (64 - c).toNat) ⟨by omega, by omega, rfl⟩ ?_
  rintro I μ nx o c ⟨h3, h4, rfl⟩
  obtain ⟨n, rfl⟩ : ∃ n : Nat, c = n := ⟨c.toNat, by omega⟩
  have e1 : ((n : Int) + 1).toNat = n + 1 := by omega
  have hl := fl_len (fun k => inT a k p t) n
  have hs := happS_le a t
  have nx' := fun (hn : n < 64) o' (ho' : o' = (rg' (n + 1)).filter fun k => inT a k p t) => nx o' ((n : Int) + 1) _ _ ⟨h3, h4, rfl⟩ ⟨by omega, by omega, by rw [e1]; exact ho'⟩ (by omega)
  simp only [Int.toNat_natCast] at nx' ⊢
  (repeat' (first | with_reducible refine brn_nd (fun h => ?_) (fun h => ?_) | with_reducible refine brn_d (fun h => ?_) (fun h => ?_) | with_reducible refine brn_nn (fun h => ?_) (fun h => ?_) | with_reducible refine brn_nb (fun h => ?_) (fun h => ?_) | with_reducible refine Brn.mk (fun h => ?_) (fun h => ?_) | with_reducible refine Chk.mk ?_ ?_ | with_reducible refine Bth.mk ?_ ?_ | with_reducible refine Fct.mk (fun hf => ?_)))
  · exact ⟨est_hap h2.1, by omega, by omega⟩
  · rw [nowS_len]; omega
  · simp; omega
  · omega
  · refine nx' (by omega) _ ?_
    have h9 : gt (nowS a n (happS a t)) p = true := by assumption
    rw [fl_succ, if_pos (by exact h9)]
  · omega
  · refine nx' (by omega) _ ?_
    have h9 : gt (nowS a n (happS a t)) p = false := by assumption
    rw [fl_succ, if_neg (by unfold inT; rw [h9]; simp)]
  · obtain rfl : n = 64 := by omega
    unfold holdsS
    rw [if_pos h1])
theorem Where_ic (a : Est) (c t : Int) : ICt 20 [a.v, iv c, iv t] (fun v => v = lv (whereS a c t)) := (Where_V a c t _).2 (by
  (delta Where_V; dsimp only [mkV])
  (repeat' (first | with_reducible refine brn_nd (fun h => ?_) (fun h => ?_) | with_reducible refine brn_d (fun h => ?_) (fun h => ?_) | with_reducible refine brn_nn (fun h => ?_) (fun h => ?_) | with_reducible refine brn_nb (fun h => ?_) (fun h => ?_) | with_reducible refine Brn.mk (fun h => ?_) (fun h => ?_) | with_reducible refine Chk.mk ?_ ?_ | with_reducible refine Bth.mk ?_ ?_ | with_reducible refine Fct.mk (fun hf => ?_)))
  · have h1 := est1 (by assumption); simp [whereS, rightB, h1]
  · have h1 : inB c 0 63 = false := by assumption
    simp [whereS, rightB, h1]
  · exact est_hap (est0 (by assumption))
  have he := est0 (a := a) (by assumption)
  have hi : inB c 0 63 = true := by assumption
  have hi2 := (inB_iff _ _ _).1 hi
  have hpl := estB_iff.1 he
  refine up2 (fun o z => o = (rg' z.toNat).filter fun k => inT a c k t) (by omega) rfl ?_ ?_
  · rintro I μ o z h0 h1 rfl nx
    rw [atS_len] at h1
    obtain ⟨n, rfl, hn⟩ := natz h0 h1
    have e1 : ((n : Int) + 1).toNat = n + 1 := by omega
    have hl := fl_len (fun k => inT a c k t) n
    obtain ⟨g1, g2⟩ := at_tb he hi2 h0 (by omega) t
    rw [and_bit g1 hi2, g2]
    simp only [e1, Int.toNat_natCast] at nx ⊢
    (repeat' (first | with_reducible refine brn_nd (fun h => ?_) (fun h => ?_) | with_reducible refine brn_d (fun h => ?_) (fun h => ?_) | with_reducible refine brn_nn (fun h => ?_) (fun h => ?_) | with_reducible refine brn_nb (fun h => ?_) (fun h => ?_) | with_reducible refine Brn.mk (fun h => ?_) (fun h => ?_) | with_reducible refine Chk.mk ?_ ?_ | with_reducible refine Bth.mk ?_ ?_ | with_reducible refine Fct.mk (fun hf => ?_)))
    · rw [atS_len]; omega
    · omega
    · simp; omega
    · omega
    · refine nx _ ?_
      rw [fl_succ, if_pos (by assumption)]
    · omega
    · refine nx _ ?_
      have h9 : inT a c n t = false := by assumption
      rw [fl_succ, if_neg (by rw [h9]; simp)]
  · rintro I μ o rfl
    rw [Int.toNat_natCast, atS_len]
    unfold whereS rightB
    rw [if_pos (by simp [he, hi])])
theorem rWhere_ic (a : Est) (c t : Int) : ICt 27 [a.v, iv c, iv t] (fun v => v = lv (whereS a c t)) := (rWhere_V a c t _).2 (by
  (delta rWhere_V; dsimp only [mkV])
  (repeat' (first | with_reducible refine brn_nd (fun h => ?_) (fun h => ?_) | with_reducible refine brn_d (fun h => ?_) (fun h => ?_) | with_reducible refine brn_nn (fun h => ?_) (fun h => ?_) | with_reducible refine brn_nb (fun h => ?_) (fun h => ?_) | with_reducible refine Brn.mk (fun h => ?_) (fun h => ?_) | with_reducible refine Chk.mk ?_ ?_ | with_reducible refine Bth.mk ?_ ?_ | with_reducible refine Fct.mk (fun hf => ?_)))
  · have h1 : rightB a c = false := by assumption
    simp [whereS, h1]
  · have h1 : rightB a c = true := by assumption
    unfold rightB at h1; rw [Bool.and_eq_true] at h1
    have := happS_le a t
    exact ⟨est_hap h1.1, by omega, by omega⟩
  have hr : rightB a c = true := by assumption
  have h1 := hr
  unfold rightB at h1; rw [Bool.and_eq_true, inB_iff] at h1
  have hpl := estB_iff.1 h1.1
  rw [Int.toNat_natCast]
  refine up2 (fun o z => o = (rg' z.toNat).filter fun k => inT a c k t) (by rw [nowS_len]; omega) rfl ?_ ?_
  · rintro I μ o z h0 h1 rfl nx
    rw [nowS_len] at h1
    obtain ⟨n, rfl, hn⟩ := natz h0 h1
    have e1 : ((n : Int) + 1).toNat = n + 1 := by omega
    have hl := fl_len (fun k => inT a c k t) n
    simp only [e1, Int.toNat_natCast] at nx ⊢
    (repeat' (first | with_reducible refine brn_nd (fun h => ?_) (fun h => ?_) | with_reducible refine brn_d (fun h => ?_) (fun h => ?_) | with_reducible refine brn_nn (fun h => ?_) (fun h => ?_) | with_reducible refine brn_nb (fun h => ?_) (fun h => ?_) | with_reducible refine Brn.mk (fun h => ?_) (fun h => ?_) | with_reducible refine Chk.mk ?_ ?_ | with_reducible refine Bth.mk ?_ ?_ | with_reducible refine Fct.mk (fun hf => ?_)))
    · rw [nowS_len]; omega
    · simp; omega
    · omega
    · refine nx _ ?_
      have h9 : inT a c n t = true := by assumption
      rw [fl_succ, if_pos (by exact h9)]
    · omega
    · refine nx _ ?_
      have h9 : inT a c n t = false := by assumption
      rw [fl_succ, if_neg (by rw [h9]; simp)]
  · rintro I μ o rfl
    rw [Int.toNat_natCast, nowS_len]
    unfold whereS
    rw [if_pos hr])
end Go.Proofs.Ytoflahjlnbligaa
