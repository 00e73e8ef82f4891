/- Estates: Holds, Where. -/
import Derived.Test.YtcbppkfnfbdkhaaQCg
set_option linter.all false
set_option maxRecDepth 20000
set_option maxHeartbeats 4000000
namespace Go.Proofs.Ytcbppkfnfbdkhaa
open Go.RowKit Go.Shelf
theorem gt_setq {α : Type} [Inhabited α] {l : List α} {i p : Int} {v : α} (hi : 0 ≤ i) (h0 : 0 ≤ p) (h : p < l.length) : gt (l.set i.toNat v) p = if p = i then v else gt l p := by
  rw [gt_eq (by simp; omega), gt_eq (by omega), List.getElem_set]
  by_cases e : p = i
  · simp [e]
  · rw [if_neg e, if_neg (by omega)]
structure RelC (c : Int) (s : List Int) (b : List Bool) : Prop where
  n : s.length = b.length
  h : ∀ p : Int, 0 ≤ p → p < (s.length : Int) → U64 (gt s p) ∧ tb (gt s p) c = gt b p
theorem RelC.step {c : Int} {s : List Int} {b : List Bool} {x : Acc} (h : RelC c s b) (hc : 0 ≤ c ∧ c ≤ 63) (hx : hapP s.length x) (hx2 : x.kind = 5 ∨ x.kind = 6 → 0 ≤ x.cont ∧ x.cont ≤ 63) : RelC c (happenS s x) (stepB c b x) := by
  refine ⟨by rw [happen_len, stepB_len, h.n], fun p h0 h1 => ?_⟩
  rw [happen_len] at h1
  have h1' : p < (b.length : Int) := by rw [← h.n]; exact h1
  obtain ⟨g1, g2, g3⟩ := hx
  obtain ⟨q1, q2⟩ := h.h p h0 h1
  unfold happenS stepB
  by_cases e5 : x.kind = 5
  · obtain ⟨a1, a2⟩ := g1 (by omega)
    obtain ⟨p1, p2⟩ := h.h x.place a1 a2
    have hb := hx2 (by omega)
    rw [if_pos e5, if_pos e5, gt_setq a1 h0 h1, gt_setq a1 h0 h1']
    by_cases e : p = x.place
    · rw [if_pos e, if_pos e]
      exact ⟨bits_or_U _ _, by rw [tb_or p1 (bitv_U hb), p2, tb_bitv hb hc.1]⟩
    · rw [if_neg e, if_neg e]; exact ⟨q1, q2⟩
  by_cases e6 : x.kind = 6
  · obtain ⟨a1, a2⟩ := g1 (by omega)
    obtain ⟨p1, p2⟩ := h.h x.place a1 a2
    have hb := hx2 (by omega)
    rw [if_neg e5, if_neg e5, if_pos e6, if_pos e6, gt_setq a1 h0 h1, gt_setq a1 h0 h1']
    by_cases e : p = x.place
    · rw [if_pos e, if_pos e]
      exact ⟨bits_an_U _ _, by rw [tb_an p1 (bitv_U hb) hc, p2, tb_bitv hb hc.1]⟩
    · rw [if_neg e, if_neg e]; exact ⟨q1, q2⟩
  by_cases e7 : x.kind = 7
  · obtain ⟨a1, a2⟩ := g1 (by omega)
    obtain ⟨p1, p2⟩ := h.h x.place a1 a2
    obtain ⟨b1, b2⟩ := g3 e7
    obtain ⟨r1, r2⟩ := h.h x.frm b1 b2
    rw [if_neg e5, if_neg e5, if_neg e6, if_neg e6, if_pos e7, if_pos e7, gt_setq a1 h0 h1, gt_setq a1 h0 h1']
    by_cases e : p = x.place
    · rw [if_pos e, if_pos e]
      exact ⟨bits_or_U _ _, by rw [tb_or p1 r1, p2, r2]⟩
    · rw [if_neg e, if_neg e]; exact ⟨q1, q2⟩
  rw [if_neg e5, if_neg e5, if_neg e6, if_neg e6, if_neg e7, if_neg e7]; exact ⟨q1, q2⟩
theorem RelC.fold {c : Int} (hc : 0 ≤ c ∧ c ≤ 63) : ∀ (l : List Acc) {s : List Int} {b : List Bool}, RelC c s b → (∀ x ∈ l, hapP s.length x ∧ (x.kind = 5 ∨ x.kind = 6 → 0 ≤ x.cont ∧ x.cont ≤ 63)) → RelC c (l.foldl happenS s) (l.foldl (stepB c) b)
  | [], s, b, h, _ => h
  | x :: l, s, b, h, hl => by
    have h1 := hl x (by simp)
    exact RelC.fold hc l (h.step hc h1.1 h1.2) fun y hy => by rw [happen_len]; exact hl y (by simp [hy])
theorem gt_rep {α : Type} [Inhabited α] {n : Nat} {v : α} {p : Int} (h0 : 0 ≤ p) (h : p < (n : Int)) : gt (List.replicate n v) p = v := by
  rw [gt_eq (by simp; omega), List.getElem_replicate]
theorem est_acc {a : Est} (h : estB a = true) : ∀ x ∈ a.evs, accP a x := fun x hx => by
  obtain ⟨_, _, _, h4⟩ := estB_iff.1 h
  obtain ⟨i, hi, rfl⟩ := mem_gt hx
  exact of_decide_eq_true (aevOk_iff.1 (h4 i hi)).2.2
theorem est_sorted {a : Est} (h : estB a = true) : a.evs.Pairwise fun x y => x.time ≤ y.time := by
  obtain ⟨_, _, _, h4⟩ := estB_iff.1 h
  rw [List.pairwise_iff_getElem]
  intro i j hi hj hij
  have step : ∀ k, i ≤ k → (hk : k < a.evs.length) → a.evs[i].time ≤ a.evs[k].time := by
    intro k
    induction k with
    | zero => intro h1 h2; have : i = 0 := by omega
              subst this; exact Int.le_refl _
    | succ k ih =>
      intro h1 h2
      by_cases e : i = k + 1
      · subst e; exact Int.le_refl _
      · have h5 := ih (by omega) (by omega)
        have h6 := (aevOk_iff.1 (h4 (k + 1) h2)).1
        rw [prevA_succ, gt_nat h2, gt_nat (by omega)] at h6
        omega
  exact step j (by omega) hj
theorem filter_tw {α : Type} {q : α → Bool} {r : α → α → Prop} (hq : ∀ x y, r x y → q y = true → q x = true) : ∀ {l : List α}, l.Pairwise r → l.filter q = l.takeWhile q
  | [], _ => rfl
  | x :: l, h => by
    rw [List.pairwise_cons] at h
    rw [List.filter_cons, List.takeWhile_cons]
    split
    · rw [filter_tw hq h.2]
    · rename_i hx
      rw [List.filter_eq_nil_iff]
      intro y hy e
      exact hx (hq x y (h.1 y hy) e)
theorem take_tw {α : Type} {q : α → Bool} : ∀ {l : List α}, l.take (l.takeWhile q).length = l.takeWhile q
  | [] => rfl
  | x :: l => by
    rw [List.takeWhile_cons]
    split
    · rw [List.length_cons, List.take_succ_cons, take_tw]
    · rfl
theorem at_rel {a : Est} (h : estB a = true) {c : Int} (hc : 0 ≤ c ∧ c ≤ 63) (t : Int) : RelC c (atS a t) (nowS a c (happS a t)) := by
  have e1 : atS a t = (a.evs.filter fun x => decide (x.time ≤ t)).foldl happenS (List.replicate a.places.toNat 0) := by
    rw [List.foldl_filter]; unfold atS; congr 1; funext s x; simp
  have e2 : nowS a c (happS a t) = (a.evs.filter fun x => decide (x.time ≤ t)).foldl (stepB c) (List.replicate a.places.toNat false) := by
    unfold nowS happS
    rw [take_tw, filter_tw (r := fun x y : Acc => x.time ≤ y.time) (fun x y h1 h2 => by simp at h2 ⊢; omega) (est_sorted h)]
  rw [e1, e2]
  refine RelC.fold hc _ ⟨by simp, fun p h0 h1 => ?_⟩ fun x hx => ?_
  · simp only [List.length_replicate] at h1
    rw [gt_rep h0 h1, gt_rep h0 h1]; exact ⟨U_zero, tb_zero c⟩
  · have hm := (List.mem_filter.1 hx).1
    rw [List.length_replicate]
    refine ⟨(est_hap h).2.2 x hm, fun hk => ?_⟩
    obtain ⟨_, h2⟩ := est_acc h x hm
    omega
theorem atS_len (a : Est) (t : Int) : (atS a t).length = a.places.toNat := by
  unfold atS
  suffices ∀ (l : List Acc) (s : List Int), (l.foldl (fun s x => if x.time ≤ t then happenS s x else s) s).length = s.length by rw [this]; simp
  intro l
  induction l with
  | nil => intro s; rfl
  | cons x l ih => intro s; rw [List.foldl_cons, ih]; split; rw [happen_len]; rfl
theorem at_tb {a : Est} (h : estB a = true) {c p : Int} (hc : 0 ≤ c ∧ c ≤ 63) (h0 : 0 ≤ p) (h1 : p < a.places) (t : Int) : U64 (gt (atS a t) p) ∧ tb (gt (atS a t) p) c = inT a c p t :=
  (at_rel h hc t).h p h0 (by rw [atS_len]; omega)
def rg' (n : Nat) : List Int := (List.range n).map fun (k : Nat) => (k : Int)
theorem rg'_succ (n : Nat) : rg' (n + 1) = rg' n ++ [(n : Int)] := by unfold rg'; rw [List.range_succ, List.map_append]; rfl
theorem rg'_mem {n : Nat} {x : Int} : x ∈ rg' n ↔ 0 ≤ x ∧ x < (n : Int) := by
  unfold rg'
  simp only [List.mem_map, List.mem_range]
  constructor
  · rintro ⟨k, h, rfl⟩; omega
  · rintro ⟨h1, h2⟩; exact ⟨x.toNat, by omega, by omega⟩
theorem fl_succ (q : Int → Bool) (n : Nat) : (rg' (n + 1)).filter q = if q n = true then (rg' n).filter q ++ [(n : Int)] else (rg' n).filter q := by
  rw [rg'_succ, List.filter_append, List.filter_cons, List.filter_nil]; split <;> simp
def whereS (a : Est) (c t : Int) : List Int := if rightB a c = true then (rg' a.places.toNat).filter fun p => inT a c p t else []
noncomputable def Where_V (a : Est) (c : Int) (t : Int) (Q : SV → Prop) : Σ' P : Prop, (P → ICt 30 [.agg (List.map .d (Est.row a)), .one (.d (.int .i64 c)), .one (.d (.int .i64 t))] Q) := by
  apply mkV; intro hP
  refine ic_wk (K 38) Try.func30 rfl rfl rfl rfl (fun w0 => ?_)
  apply (v_kint (x := 1)); exact rfl; exact hP; clear hP; intro hP
  apply (v_kint (x := 2)); exact rfl; exact hP; clear hP; intro hP
  repeat' (first
    | ((fail_if_success (have hTest : Hld False := hP)); (have hq := chk_c hP); (replace hP := chk_p hP))
    | ((with_reducible apply j_lst); exact rfl)
    | (with_reducible (first | apply c_seq | apply c_rg | apply j_nil | apply q_n | apply g_tt | apply g_ff | apply c_ct | apply c_cf | apply c_bl | apply c_ex | apply c_ret | apply c_sk | apply q_r | apply q_e | apply b_r | apply b_e | apply b_n | apply n_n | apply n_r | apply n_e))
    | ((with_reducible apply v_lenstr); exact rfl; exact rfl; kernel_rfl)
    | ((with_reducible apply c_l1); exact rfl; exact rfl)
    | ((with_reducible apply c_l2); exact rfl; exact rfl)
    | ((with_reducible apply c_l3); exact rfl)
    | ((with_reducible apply j_v); exact rfl; exact rfl)
    | ((with_reducible apply (v_bsf (d := 34) (irow))); exact rfl; exact rfl; exact (row_cons (irow_mk _) row_nil); exact rfl; exact rfl)
    | ((with_reducible apply (v_bs (irow))); exact rfl; exact rfl; exact (row_cons (irow_mk _) row_nil); exact rfl)
    | ((with_reducible apply j_h); exact rfl; exact rfl)
    | ((with_reducible apply j_g); exact rfl; exact rfl; (first | with_reducible assumption | with_reducible exact Eq.refl true | with_reducible exact Eq.refl false | (with_reducible refine not_t ?_; with_reducible assumption) | (with_reducible refine not_f ?_; with_reducible assumption) | (refine dec_t ?_; decide) | (refine dec_f ?_; decide)))
    | ((with_reducible apply g_tf); exact rfl)
    | ((with_reducible apply g_ft); exact rfl)
    | ((with_reducible apply j_gz); exact rfl; exact rfl; exact rfl)
    | ((with_reducible apply v_lenm); exact rfl; exact rfl; exact rfl; (exact hP); clear hP; intro hP)
    | ((with_reducible apply v_lens); exact rfl; exact rfl; exact rfl; (exact hP); clear hP; intro hP)
    | ((with_reducible apply j_len); exact rfl; exact rfl; exact rfl)
    | ((with_reducible apply j_len0); exact rfl; exact rfl; exact rfl)
    | ((with_reducible apply j_pk); exact rfl; exact rfl; (first | with_reducible assumption | with_reducible exact Eq.refl true | with_reducible exact Eq.refl false | (with_reducible refine not_t ?_; with_reducible assumption) | (with_reducible refine not_f ?_; with_reducible assumption) | (refine dec_t ?_; decide) | (refine dec_f ?_; decide)); exact rfl)
    | ((with_reducible apply j_ld_el1); exact rfl; exact rfl; exact rfl; exact rfl; (first | with_reducible assumption | exact gt_row (by omega) (by omega) | exact rfl); exact rfl)
    | ((with_reducible apply j_add); exact rfl; exact rfl; exact rfl; (first | (with_reducible apply wr_i64; (first | with_reducible assumption | (apply chk_c; exact hP; (first | (guard_target = Prop; rotate_left 1) | skip)))) | exact rfl))
    | ((with_reducible apply v_ia); exact rfl; exact rfl; exact rfl; exact rfl; (case inst => exact inferInstance); exact rfl; exact rfl; (first | with_reducible assumption | (apply chk_c; exact hP; (first | (guard_target = Prop; rotate_left 1) | skip))))
    | ((with_reducible apply v_iasl); exact rfl; exact rfl; exact rfl; exact rfl; (first | with_reducible assumption | (apply chk_c; exact hP; (first | (guard_target = Prop; rotate_left 1) | skip))))
    | ((with_reducible apply j_ia_ar); exact rfl; exact rfl; exact rfl; exact rfl; ((repeat ((fail_if_success (have hTest : Hld False := hP)); (have hq := chk_c hP); (replace hP := chk_p hP))); first | with_reducible assumption | (apply chk_c; exact hP; (first | (guard_target = Prop; rotate_left 1) | skip))); ((repeat ((fail_if_success (have hTest : Hld False := hP)); (have hq := chk_c hP); (replace hP := chk_p hP))); first | with_reducible assumption | (apply chk_c; exact hP; (first | (guard_target = Prop; rotate_left 1) | skip))); (first | with_reducible exact Int.toNat_natCast _ | exact rfl))
    | ((with_reducible apply (v_ap (irow))); exact rfl; exact rfl; exact rfl; exact rfl; exact rfl; exact rfl; exact rfl; (first | exact rfl | exact row_one (irow_mk _) | exact row_nil); exact rfl; exact rfl; exact rfl; (first | (apply src_sl; exact rfl; exact rfl; exact rfl) | (apply src_sl; exact rfl; exact rfl; rw [List.length_map]; omega) | (apply src_sl; exact rfl; exact rfl; exact List.length_map _) | (apply src_nil; exact rfl) | (apply src_d; exact rfl; (intro row hrow; obtain ⟨q, _, rfl⟩ := List.mem_map.1 hrow; rfl))); (first | exact rfl | exact row_one (irow_mk _) | exact row_nil); exact rfl; exact rfl; exact rfl; (first | with_reducible assumption | (apply chk_c; exact hP; (first | (guard_target = Prop; rotate_left 1) | skip))))
    | ((with_reducible apply (v_ap0 (irow))); exact rfl; exact rfl; exact rfl; exact rfl; exact rfl; exact rfl; (first | (apply src_sl; exact rfl; exact rfl; exact rfl) | (apply src_sl; exact rfl; exact rfl; rw [List.length_map]; omega) | (apply src_sl; exact rfl; exact rfl; exact List.length_map _) | (apply src_nil; exact rfl) | (apply src_d; exact rfl; (intro row hrow; obtain ⟨q, _, rfl⟩ := List.mem_map.1 hrow; rfl))); (first | exact rfl | exact row_one (irow_mk _) | exact row_nil); exact rfl; exact rfl; exact rfl; (first | with_reducible assumption | (apply chk_c; exact hP; (first | (guard_target = Prop; rotate_left 1) | skip))))
    | ((with_reducible apply c_c); exact rfl; (first | with_reducible assumption | with_reducible exact Eq.refl true | with_reducible exact Eq.refl false | (with_reducible refine not_t ?_; with_reducible assumption) | (with_reducible refine not_f ?_; with_reducible assumption) | (refine dec_t ?_; decide) | (refine dec_f ?_; decide)))
    | ((with_reducible apply b_o); exact rfl)
    | ((with_reducible apply r_g); exact rfl; (· repeat' (first | exact True.intro | refine And.intro ?_ ?_ | (show (_ : Nat) = _; (first | exact rfl | exact (List.length_map _).symm | omega | (simp only [List.length_set, List.length_map, List.length_append] <;> omega) | (simp; done))))); (exact hP.out))
    | ((with_reducible apply j_call (pu := false)); exact rfl; (first | (apply (aCheck_ic _); rotate_left 1) | (apply (acont_ic _); rotate_left 1)); (focus ((repeat' (first | exact .nil _ | refine PsL.cons ?_ ?_ | refine PsSL.cons ?_ ?_ | exact .one (.d _ _) | exact .one psc_nilm | exact psc_nilm | exact .one (.nil _) | exact .one (.nn _) | exact .one (.tape _) | exact .one (.fn _ _) | exact .agg (.same _ _) | refine .agg ?_ | exact .d _ _ | exact .one (.sl rfl rfl) | exact .one (.sl rfl (List.length_map _).symm) | exact .sl rfl rfl | exact .sl rfl (List.length_map _).symm | exact .same _ _)) <;> fail)); exact .inr rfl)
    | ((with_reducible apply j_call (pu := false)); exact rfl; (first | (apply (aCheck_ic ⟨_, _⟩); rotate_left 2; dsimp only [Est.v_mk])); (focus ((repeat' (first | exact .nil _ | refine PsL.cons ?_ ?_ | refine PsSL.cons ?_ ?_ | exact .one (.d _ _) | exact .one psc_nilm | exact psc_nilm | exact .one (.nil _) | exact .one (.nn _) | exact .one (.tape _) | exact .one (.fn _ _) | exact .agg (.same _ _) | refine .agg ?_ | exact .d _ _ | exact .one (.sl rfl rfl) | exact .one (.sl rfl (List.length_map _).symm) | exact .sl rfl rfl | exact .sl rfl (List.length_map _).symm | exact .same _ _)) <;> fail)); exact .inr rfl)
    | ((with_reducible apply v_call (pu := true)); exact rfl; exact ⟨rfl, rfl⟩; (first | (apply (at_ic _ _); rotate_left 2) | (apply (bit_ic _); rotate_left 1)); (focus ((repeat' (first | exact .nil _ | refine PsL.cons ?_ ?_ | refine PsSL.cons ?_ ?_ | exact .one (.d _ _) | exact .one psc_nilm | exact psc_nilm | exact .one (.nil _) | exact .one (.nn _) | exact .one (.tape _) | exact .one (.fn _ _) | exact .agg (.same _ _) | refine .agg ?_ | exact .d _ _ | exact .one (.sl rfl rfl) | exact .one (.sl rfl (List.length_map _).symm) | exact .sl rfl rfl | exact .sl rfl (List.length_map _).symm | exact .same _ _)) <;> fail)); exact .inl rfl; (first | with_reducible assumption | (apply chk_c; exact hP; (first | (guard_target = Prop; rotate_left 1) | skip))))
    | ((with_reducible apply v_call (pu := true)); exact rfl; exact ⟨rfl, rfl⟩; (first | (apply (at_ic ⟨_, _⟩ _); rotate_left 3; dsimp only [Est.v_mk])); (focus ((repeat' (first | exact .nil _ | refine PsL.cons ?_ ?_ | refine PsSL.cons ?_ ?_ | exact .one (.d _ _) | exact .one psc_nilm | exact psc_nilm | exact .one (.nil _) | exact .one (.nn _) | exact .one (.tape _) | exact .one (.fn _ _) | exact .agg (.same _ _) | refine .agg ?_ | exact .d _ _ | exact .one (.sl rfl rfl) | exact .one (.sl rfl (List.length_map _).symm) | exact .sl rfl rfl | exact .sl rfl (List.length_map _).symm | exact .same _ _)) <;> fail)); exact .inl rfl; (first | with_reducible assumption | (apply chk_c; exact hP; (first | (guard_target = Prop; rotate_left 1) | skip))))
    | ((with_reducible refine v_loopat (c := (.seq (.region 5 _ _) _)) ?_); (apply (v_loop2 [] _ [1, 20, 21] [] (fun x1 x2 => [(7, .one (.sl 207 (List.length x1) 1)), (22, .one (.d (.int .i64 x2)))]) (fun x1 x2 => [(207, .arr 3 1 (List.map irow x1))]) [207])); exact rfl; exact rfl; (focus (refine ⟨?_, ?_⟩; rotate_left 1; (focus (repeat' (first | exact .nil | exact .nil _ | refine .cons ?_ ?_ | exact .u _ | exact SVle_pl rfl | refine .one ?_ | refine .agg ?_ | exact .d rfl | exact .ref rfl rfl | exact .sl rfl (by first | rfl | exact List.length_set.symm | exact (splT_len (by simp only [List.length_take, List.length_drop]; omega)).symm | omega | (rw [List.length_append, List.length_map]; show _ + 1 = _; omega) | simp) | exact .fn _ | exact .tape | exact .nils rfl | exact .nild | exact .nildm | exact .nil | exact .rp (by simp) | exact .clo (by simp) | exact .el rfl rfl rfl | exact .d (by first | rfl | (congr 1; omega) | (congr 1; assumption) | simp) | exact .virt rfl | exact .gone _ | refine .blk rfl ?_ | exact .arr rfl (by first | rfl | assumption | simp)))); (focus (repeat' (first | exact .nil | exact .nil _ | refine .cons ?_ ?_ | exact .u _ | exact SVle_pl rfl | refine .one ?_ | refine .agg ?_ | exact .d rfl | exact .ref rfl rfl | exact .sl rfl (by first | rfl | exact List.length_set.symm | exact (splT_len (by simp only [List.length_take, List.length_drop]; omega)).symm | omega | (rw [List.length_append, List.length_map]; show _ + 1 = _; omega) | simp) | exact .fn _ | exact .tape | exact .nils rfl | exact .nild | exact .nildm | exact .nil | exact .rp (by simp) | exact .clo (by simp) | exact .el rfl rfl rfl | exact .d (by first | rfl | (congr 1; omega) | (congr 1; assumption) | simp) | exact .virt rfl | exact .gone _ | refine .blk rfl ?_ | exact .arr rfl (by first | rfl | assumption | simp)))))); (exact hP); clear hP; intro I μ x1 x2 hP)
    | ((with_reducible apply (v_nxt2 (a1 := _) (a2 := _))); rotate_left 1; (focus (repeat' (first | exact .nil | exact .nil _ | refine .cons ?_ ?_ | exact .u _ | exact SVle_pl rfl | refine .one ?_ | refine .agg ?_ | exact .d rfl | exact .ref rfl rfl | exact .sl rfl (by first | rfl | exact List.length_set.symm | exact (splT_len (by simp only [List.length_take, List.length_drop]; omega)).symm | omega | (rw [List.length_append, List.length_map]; show _ + 1 = _; omega) | simp) | exact .fn _ | exact .tape | exact .nils rfl | exact .nild | exact .nildm | exact .nil | exact .rp (by simp) | exact .clo (by simp) | exact .el rfl rfl rfl | exact .d (by first | rfl | (congr 1; omega) | (congr 1; assumption) | simp) | exact .virt rfl | exact .gone _ | refine .blk rfl ?_ | exact .arr rfl (by first | rfl | assumption | simp)))); rotate_right 1; (focus (repeat' (first | exact .nil | exact .nil _ | refine .cons ?_ ?_ | exact .u _ | exact SVle_pl rfl | refine .one ?_ | refine .agg ?_ | exact .d rfl | exact .ref rfl rfl | exact .sl rfl (by first | rfl | exact List.length_set.symm | exact (splT_len (by simp only [List.length_take, List.length_drop]; omega)).symm | omega | (rw [List.length_append, List.length_map]; show _ + 1 = _; omega) | simp) | exact .fn _ | exact .tape | exact .nils rfl | exact .nild | exact .nildm | exact .nil | exact .rp (by simp) | exact .clo (by simp) | exact .el rfl rfl rfl | exact .d (by first | rfl | (congr 1; omega) | (congr 1; assumption) | simp) | exact .virt rfl | exact .gone _ | refine .blk rfl ?_ | exact .arr rfl (by first | rfl | assumption | simp)))); (exact hP))
    | ((with_reducible apply v_gs); exact rfl; exact rfl; (exact hP); all_goals (clear hP; intro hg hP))
    | ((with_reducible apply v_if); exact rfl; (exact hP); all_goals (clear hP; intro hc hP)))
theorem est0 {a : Est} (h : (if estB a = true then (0 : Int) else 34) = 0) : estB a = true := by
  cases e : estB a with
  | true => rfl
  | false => rw [e] at h; simp at h
theorem est1 {a : Est} (h : ¬ (if estB a = true then (0 : Int) else 34) = 0) : estB a = false := by
  cases e : estB a with
  | false => rfl
  | true => rw [e] at h; simp at h
theorem fl_len (q : Int → Bool) (n : Nat) : ((rg' n).filter q).length ≤ n := by
  refine Nat.le_trans (List.length_filter_le _ _) ?_
  simp [rg']
theorem Where_ic (a : Est) (c t : Int) : ICt 30 [a.v, iv c, iv t] (fun v => v = lv (whereS a c t)) := (Where_V a c t _).2 (by
  (delta Where_V; dsimp only [mkV])
  (repeat' (first | with_reducible refine brn_nd (fun h => ?_) (fun h => ?_) | with_reducible refine brn_d (fun h => ?_) (fun h => ?_) | with_reducible refine brn_nn (fun h => ?_) (fun h => ?_) | with_reducible refine brn_nb (fun h => ?_) (fun h => ?_) | with_reducible refine Brn.mk (fun h => ?_) (fun h => ?_) | with_reducible refine Chk.mk ?_ ?_ | with_reducible refine Bth.mk ?_ ?_ | with_reducible refine Fct.mk (fun hf => ?_)))
  · have h1 := est1 (by assumption); simp [whereS, rightB, h1]
  · have h1 : inB c 0 63 = false := by assumption
    simp [whereS, rightB, h1]
  · exact est_hap (est0 (by assumption))
  have he := est0 (a := a) (by assumption)
  have hi : inB c 0 63 = true := by assumption
  have hi2 := (inB_iff _ _ _).1 hi
  have hpl := estB_iff.1 he
  refine up2 (fun o z => o = (rg' z.toNat).filter fun k => inT a c k t) (by omega) rfl ?_ ?_
  · rintro I μ o z h0 h1 rfl nx
    rw [atS_len] at h1
    obtain ⟨n, rfl, hn⟩ := natz h0 h1
    have e1 : ((n : Int) + 1).toNat = n + 1 := by omega
    have hl := fl_len (fun k => inT a c k t) n
    obtain ⟨g1, g2⟩ := at_tb he hi2 h0 (by omega) t
    rw [and_bit g1 hi2, g2]
    simp only [e1, Int.toNat_natCast] at nx ⊢
    (repeat' (first | with_reducible refine brn_nd (fun h => ?_) (fun h => ?_) | with_reducible refine brn_d (fun h => ?_) (fun h => ?_) | with_reducible refine brn_nn (fun h => ?_) (fun h => ?_) | with_reducible refine brn_nb (fun h => ?_) (fun h => ?_) | with_reducible refine Brn.mk (fun h => ?_) (fun h => ?_) | with_reducible refine Chk.mk ?_ ?_ | with_reducible refine Bth.mk ?_ ?_ | with_reducible refine Fct.mk (fun hf => ?_)))
    · rw [atS_len]; omega
    · omega
    · simp; omega
    · omega
    · refine nx _ ?_
      rw [fl_succ, if_pos (by assumption)]
    · omega
    · refine nx _ ?_
      have h9 : inT a c n t = false := by assumption
      rw [fl_succ, if_neg (by rw [h9]; simp)]
  · rintro I μ o rfl
    rw [Int.toNat_natCast, atS_len]
    unfold whereS rightB
    rw [if_pos (by simp [he, hi])])
end Go.Proofs.Ytcbppkfnfbdkhaa
