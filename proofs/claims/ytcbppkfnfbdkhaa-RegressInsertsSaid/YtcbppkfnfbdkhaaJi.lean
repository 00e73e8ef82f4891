/- Regress: verdicts, changes, what is open, what is idle. -/
import Derived.Test.YtcbppkfnfbdkhaaJh
set_option linter.all false
set_option maxRecDepth 20000
set_option maxHeartbeats 4000000
namespace Go.Proofs.Ytcbppkfnfbdkhaa
open Go.RowKit Go.Shelf
noncomputable def chk_V (l : List Rul) (f : List Fnd) (Q : SV → Prop) : Σ' P : Prop, (P → ICt 45 [.one (.d (.list (List.map Rul.row l))), .one (.d (.list (List.map Fnd.row f)))] Q) := by
  apply mkV; intro hP
  refine ic_wk (K 14) Try.func45 rfl rfl rfl rfl (fun w0 => ?_)
  repeat' (first
    | ((fail_if_success (have hTest : Hld False := hP)); (have hq := chk_c hP); (replace hP := chk_p hP))
    | (with_reducible (first | apply c_seq | apply c_rg | apply j_nil | apply q_n | apply c_cf | apply c_ret | apply c_sk))
    | ((with_reducible apply j_v); exact rfl; exact rfl)
    | ((with_reducible apply c_c); exact rfl; (refine dec_f ?_; decide))
    | ((with_reducible apply r_g); exact rfl; (· repeat' (first | exact True.intro | refine And.intro ?_ ?_)); (exact hP.out))
    | ((with_reducible apply v_call (pu := false)); exact rfl; exact ⟨rfl, rfl⟩; (first | (apply (valid_ic _); rotate_left 1) | (apply (ordered_ic _); rotate_left 1)); (focus ((repeat' (first | exact .nil _ | refine PsSL.cons ?_ ?_ | exact .one (.d _ _))) <;> fail)); exact .inr rfl; (apply chk_c; exact hP; (first | skip))))
theorem chk_ic (l : List Rul) (f : List Fnd) : ICp (RulOk l ∧ FndOk f) 45 [rlv l, fnv f] (fun v => v = iv 0) := fun hh => (chk_V l f _).2 (by
  (delta chk_V; dsimp only [mkV])
  (repeat' (first | with_reducible refine brn_nd (fun h => ?_) (fun h => ?_) | with_reducible refine brn_d (fun h => ?_) (fun h => ?_) | with_reducible refine brn_nn (fun h => ?_) (fun h => ?_) | with_reducible refine brn_nb (fun h => ?_) (fun h => ?_) | with_reducible refine Brn.mk (fun h => ?_) (fun h => ?_) | with_reducible refine Chk.mk ?_ ?_ | with_reducible refine Bth.mk ?_ ?_ | with_reducible refine Fct.mk (fun hf => ?_)))
  all_goals first | exact hh.1 | exact hh.2 | rfl | (exfalso; simp_all; done))
def FndA (f : List Fnd) : Prop := f.length ≤ 1000 ∧ ∀ x ∈ f, x.wh.length ≤ 1000 ∧ ∀ s ∈ x.wh, SpOk s
def upto {α : Type} (g : Int → List α) (n : Int) : List α := (List.range n.toNat).flatMap fun i : Nat => g (i : Int)
theorem upto_s {α : Type} (g : Int → List α) {n : Int} (h : 0 ≤ n) : upto g (n + 1) = upto g n ++ g n := by
  unfold upto
  rw [show (n + 1).toNat = n.toNat + 1 by omega, List.range_succ, List.flatMap_append]
  simp [show (max n 0) = n by omega]
theorem upto_le {α : Type} {g : Int → List α} {c : Nat} {n : Int} (h : ∀ i : Int, 0 ≤ i → i < n → (g i).length ≤ c) : (upto g n).length ≤ c * n.toNat := by
  unfold upto
  have h' : ∀ i : Nat, i < n.toNat → (g i).length ≤ c := fun i hi => h i (by omega) (by omega)
  clear h
  generalize n.toNat = m at *
  induction m with
  | zero => simp
  | succ m ih =>
    rw [List.range_succ, List.flatMap_append, List.length_append]
    have h1 := ih fun i hi => h' i (by omega)
    have h2 := h' m (by omega)
    simp only [List.flatMap_cons, List.flatMap_nil, List.append_nil]
    rw [Nat.mul_add]
    omega
noncomputable def cgOne (l l2 : List Rul) (kinds : List Knd) (f : List Fnd) (i k : Int) : List Chg :=
  if decV l kinds (gt f i) (gt (gt f i).wh k) = decV l2 kinds (gt f i) (gt (gt f i).wh k) then []
  else [⟨i, k, decV l kinds (gt f i) (gt (gt f i).wh k), decV l2 kinds (gt f i) (gt (gt f i).wh k), decN l kinds (gt f i) (gt (gt f i).wh k), decN l2 kinds (gt f i) (gt (gt f i).wh k)⟩]
theorem cgOne_le (l l2 : List Rul) (kinds : List Knd) (f : List Fnd) (i k : Int) : (cgOne l l2 kinds f i k).length ≤ 1 := by unfold cgOne; split <;> simp
noncomputable def cgRow (l l2 : List Rul) (kinds : List Knd) (f : List Fnd) (i : Int) : List Chg := upto (cgOne l l2 kinds f i) (gt f i).wh.length
noncomputable def chgS (l l2 : List Rul) (kinds : List Knd) (f : List Fnd) : List Chg := upto (cgRow l l2 kinds f) f.length
abbrev cgv (l : List Chg) : SV := .one (.d (.list (l.map Chg.row)))
noncomputable def chg_V (l : List Rul) (l2 : List Rul) (kinds : List Knd) (f : List Fnd) (Q : SV → Prop) : Σ' P : Prop, (P → ICt 13 [.one (.d (.list (List.map Rul.row l))), .one (.d (.list (List.map Rul.row l2))), .one (.d (.list (List.map Knd.row kinds))), .one (.d (.list (List.map Fnd.row f)))] Q) := by
  apply mkV; intro hP
  refine ic_wk (K 79) Try.func13 rfl rfl rfl rfl (fun w0 => ?_)
  repeat' (first
    | ((fail_if_success (have hTest : Hld False := hP)); (have hq := chk_c hP); (replace hP := chk_p hP))
    | (with_reducible (first | apply c_seq | apply c_rg | apply j_nil | apply q_n | apply c_cf | apply c_bl | apply c_ex | apply c_ret | apply c_sk | apply q_e | apply b_e | apply b_n | apply n_n | apply n_e))
    | ((with_reducible apply c_l1); exact rfl; exact rfl)
    | ((with_reducible apply j_v); exact rfl; exact rfl)
    | ((with_reducible apply (v_bsf (d := 74) (Chg.row))); exact rfl; exact rfl; exact (row_cons (Chg.row_mk _ _ _ _ _ _) row_nil); exact rfl; exact rfl)
    | ((with_reducible apply j_h); exact rfl; exact rfl)
    | ((with_reducible apply j_s); exact rfl)
    | ((with_reducible apply v_lenm); exact rfl; exact rfl; exact rfl; (exact hP); clear hP; intro hP)
    | ((with_reducible apply j_add); exact rfl; exact rfl; exact rfl; (with_reducible apply wr_i64; (apply chk_c; exact hP; (first | skip))))
    | ((with_reducible apply v_ia); exact rfl; exact rfl; exact rfl; exact rfl; (case inst => exact inferInstance); exact rfl; exact rfl; (apply chk_c; exact hP; (first | skip)))
    | ((with_reducible apply (v_ap (Chg.row))); exact rfl; exact rfl; exact rfl; exact rfl; exact rfl; exact rfl; exact rfl; (first | exact rfl); exact rfl; exact rfl; exact rfl; (apply src_d; exact rfl; (intro row hrow; obtain ⟨q, _, rfl⟩ := List.mem_map.1 hrow; rfl)); (first | exact rfl); exact rfl; exact rfl; exact rfl; (apply chk_c; exact hP; (first | skip)))
    | ((with_reducible apply c_c); exact rfl; (refine dec_f ?_; decide))
    | ((with_reducible apply r_g); exact rfl; (· repeat' (first | exact True.intro | refine And.intro ?_ ?_ | (show (_ : Nat) = _; (first | exact (List.length_map _).symm)))); (exact hP.out))
    | ((with_reducible apply v_call (pu := false)); exact rfl; exact ⟨rfl, rfl⟩; (first | (apply (valid_ic _); rotate_left 1) | (apply (chk_ic _ _); rotate_left 2) | (apply (decide_ic _ _ _ _); rotate_left 4)); (focus ((repeat' (first | exact .nil _ | refine PsL.cons ?_ ?_ | refine PsSL.cons ?_ ?_ | exact .one (.d _ _) | refine .agg ?_ | exact .d _ _)) <;> fail)); exact .inr rfl; (apply chk_c; exact hP; (first | skip)))
    | ((with_reducible refine v_loopat (c := (.seq (.region 9 _ _) _)) ?_); (apply (v_loop2 [] _ [0, 1, 2, 29, 30] [] (fun x1 x2 => [(12, .one (.sl 212 (List.length x1) 6)), (31, .one (.d (.int .i64 x2)))]) (fun x1 x2 => [(212, .arr 45 6 (List.map Chg.row x1))]) [212])); exact rfl; exact rfl; (focus (refine ⟨?_, ?_⟩; rotate_left 1; (focus (repeat' (first | exact .nil | refine .cons ?_ ?_ | exact .virt rfl))); (focus (repeat' (first | exact .nil | refine .cons ?_ ?_ | exact SVle_pl rfl | refine .one ?_ | exact .nils rfl))))); (exact hP); clear hP; intro I μ x1 x2 hP)
    | ((with_reducible apply (v_nxt2 (a1 := _) (a2 := _))); rotate_left 1; (focus (repeat' (first | exact .nil | refine .cons ?_ ?_ | exact .d rfl | refine .blk rfl ?_ | exact .arr rfl (by first | rfl | assumption | simp)))); rotate_right 1; (focus (repeat' (first | exact .nil | refine .cons ?_ ?_ | exact SVle_pl rfl | refine .one ?_ | exact .ref rfl rfl | exact .sl rfl (by first | rfl | exact List.length_set.symm | exact (splT_len (by simp only [List.length_take, List.length_drop]; omega)).symm | omega | (rw [List.length_append, List.length_map]; show _ + 1 = _; omega) | simp)))); (exact hP))
    | ((with_reducible refine v_loopat (c := (.seq (.region 12 _ _) _)) ?_); (apply (v_loop2 _ _ [0, 1, 2, 13, 14, 29, 30, 31, 37, 38] [14] (fun x1 x2 => [(12, .one (.sl 212 (List.length x1) 6)), (39, .one (.d (.int .i64 x2)))]) (fun x1 x2 => [(212, .arr 45 6 (List.map Chg.row x1))]) [])); exact rfl; exact rfl; (focus (refine ⟨?_, ?_⟩; rotate_left 1; (focus (repeat' (first | exact .nil | refine .cons ?_ ?_ | exact .d rfl | refine .blk rfl ?_ | exact .arr rfl (by first | rfl | assumption | simp)))); (focus (repeat' (first | exact .nil | refine .cons ?_ ?_ | exact SVle_pl rfl | refine .one ?_ | exact .ref rfl rfl | exact .sl rfl (by first | rfl | exact List.length_set.symm | exact (splT_len (by simp only [List.length_take, List.length_drop]; omega)).symm | omega | (rw [List.length_append, List.length_map]; show _ + 1 = _; omega) | simp)))))); (exact hP); clear hP; intro I μ x1 x2 hP)
    | ((with_reducible apply v_if); exact rfl; (exact hP); all_goals (clear hP; intro hc hP)))
theorem chg_ic (l l2 : List Rul) (kinds : List Knd) (f : List Fnd) : ICp (RulOk l ∧ RulOk l2 ∧ FndOk f ∧ FndA f) 13 [rlv l, rlv l2, knv kinds, fnv f] (fun v => v = .tup [cgv (chgS l l2 kinds f), iv 0]) := fun hh => (chg_V l l2 kinds f _).2 (by
  obtain ⟨g1, g5, g2, g3, g4⟩ := hh
  have hrow : ∀ i : Int, 0 ≤ i → i < f.length → (cgRow l l2 kinds f i).length ≤ 1000 := fun i h0 h1 => by
    have h2 := (g4 _ (gt_mem h0 h1)).1
    have h3 := upto_le (g := cgOne l l2 kinds f i) (c := 1) (n := (gt f i).wh.length) fun k _ _ => cgOne_le ..
    unfold cgRow; omega
  (delta chg_V; dsimp only [mkV])
  (repeat' (first | with_reducible refine brn_nd (fun h => ?_) (fun h => ?_) | with_reducible refine brn_d (fun h => ?_) (fun h => ?_) | with_reducible refine brn_nn (fun h => ?_) (fun h => ?_) | with_reducible refine brn_nb (fun h => ?_) (fun h => ?_) | with_reducible refine Brn.mk (fun h => ?_) (fun h => ?_) | with_reducible refine Chk.mk ?_ ?_ | with_reducible refine Bth.mk ?_ ?_ | with_reducible refine Fct.mk (fun hf => ?_)))
  · exact g1
  · exact ⟨g5, g2⟩
  refine up2 (fun (x : List Chg) z => x = upto (cgRow l l2 kinds f) z) (by omega) rfl (fun I μ x z h0 h1 hx nx => ?_) (fun I μ x hx => ?_)
  · obtain ⟨q1, q2⟩ := g4 _ (gt_mem h0 h1)
    have hxl : x.length ≤ 1000 * z.toNat := by rw [hx]; exact upto_le fun i i0 i1 => hrow i i0 (by omega)
    (repeat' (first | with_reducible refine brn_nd (fun h => ?_) (fun h => ?_) | with_reducible refine brn_d (fun h => ?_) (fun h => ?_) | with_reducible refine brn_nn (fun h => ?_) (fun h => ?_) | with_reducible refine brn_nb (fun h => ?_) (fun h => ?_) | with_reducible refine Brn.mk (fun h => ?_) (fun h => ?_) | with_reducible refine Chk.mk ?_ ?_ | with_reducible refine Bth.mk ?_ ?_ | with_reducible refine Fct.mk (fun hf => ?_)))
    · exact ⟨h0, h1⟩
    refine up2 (fun (y : List Chg) k => y = x ++ upto (cgOne l l2 kinds f z) k) (by omega) (by simp [upto]) (fun I2 μ2 y k k0 k1 hy nx2 => ?_) (fun I2 μ2 y hy => ?_)
    · have hyl := upto_le (g := cgOne l l2 kinds f z) (c := 1) (n := k) fun k _ _ => cgOne_le ..
      (repeat' (first | with_reducible refine brn_nd (fun h => ?_) (fun h => ?_) | with_reducible refine brn_d (fun h => ?_) (fun h => ?_) | with_reducible refine brn_nn (fun h => ?_) (fun h => ?_) | with_reducible refine brn_nb (fun h => ?_) (fun h => ?_) | with_reducible refine Brn.mk (fun h => ?_) (fun h => ?_) | with_reducible refine Chk.mk ?_ ?_ | with_reducible refine Bth.mk ?_ ?_ | with_reducible refine Fct.mk (fun hf => ?_)))
      · exact ⟨k0, k1⟩
      · exact ⟨q2 _ (gt_mem k0 k1), g1.asks⟩
      · exact ⟨q2 _ (gt_mem k0 k1), g5.asks⟩
      · rw [hy]; simp; omega
      · unfold InI; omega
      · have hn : ¬ decV l kinds (gt f z) (gt (gt f z).wh k) = decV l2 kinds (gt f z) (gt (gt f z).wh k) := by assumption
        refine nx2 _ ?_
        rw [upto_s _ k0, hy, List.append_assoc]
        congr 2
        unfold cgOne; rw [if_neg hn]
      · unfold InI; omega
      · have hn : decV l kinds (gt f z) (gt (gt f z).wh k) = decV l2 kinds (gt f z) (gt (gt f z).wh k) := by assumption
        refine nx2 _ ?_
        rw [upto_s _ k0, hy]
        unfold cgOne; rw [if_pos hn]; simp
    · (repeat' (first | with_reducible refine brn_nd (fun h => ?_) (fun h => ?_) | with_reducible refine brn_d (fun h => ?_) (fun h => ?_) | with_reducible refine brn_nn (fun h => ?_) (fun h => ?_) | with_reducible refine brn_nb (fun h => ?_) (fun h => ?_) | with_reducible refine Brn.mk (fun h => ?_) (fun h => ?_) | with_reducible refine Chk.mk ?_ ?_ | with_reducible refine Bth.mk ?_ ?_ | with_reducible refine Fct.mk (fun hf => ?_)))
      · unfold InI; omega
      · exact nx _ (by rw [upto_s _ h0, hy, ← hx]; rfl)
  · rw [hx]; rfl)
noncomputable def nuRow (l : List Rul) (kinds : List Knd) (f : List Fnd) (i : Int) : List Int := upto (fun k => [decN l kinds (gt f i) (gt (gt f i).wh k)]) (gt f i).wh.length
noncomputable def nums (l : List Rul) (kinds : List Knd) (f : List Fnd) : List Int := upto (nuRow l kinds f) f.length
noncomputable def usd (n : Nat) (l : List Int) : List Bool := (List.range n).map fun i : Nat => decide ((i : Int) ∈ l)
theorem usd_set (n : Nat) (l : List Int) {z : Int} (h0 : 0 ≤ z) : (usd n l).set z.toNat true = usd n (l ++ [z]) := by
  unfold usd
  apply List.ext_getElem (by simp)
  intro i h1 h2
  rw [List.getElem_set]
  simp only [List.getElem_map, List.getElem_range, List.mem_append, List.mem_singleton]
  by_cases e : z.toNat = i
  · rw [if_pos e]; simp; right; omega
  · rw [if_neg e]; congr 1; simp; intro e2; omega
theorem usd_neg (n : Nat) (l : List Int) {z : Int} (h0 : ¬ 0 ≤ z) : usd n l = usd n (l ++ [z]) := by
  unfold usd
  apply List.map_congr_left
  intro i _
  simp only [List.mem_append, List.mem_singleton]
  congr 1; simp; omega
noncomputable def idlS (l : List Rul) (kinds : List Knd) (f : List Fnd) : List Int := upto (fun i => if i ∈ nums l kinds f then [] else [i]) l.length
noncomputable def idle_V (l : List Rul) (kinds : List Knd) (f : List Fnd) (Q : SV → Prop) : Σ' P : Prop, (P → ICt 25 [.one (.d (.list (List.map Rul.row l))), .one (.d (.list (List.map Knd.row kinds))), .one (.d (.list (List.map Fnd.row f)))] Q) := by
  apply mkV; intro hP
  refine ic_wk (K 71) Try.func25 rfl rfl rfl rfl (fun w0 => ?_)
  repeat' (first
    | ((fail_if_success (have hTest : Hld False := hP)); (have hq := chk_c hP); (replace hP := chk_p hP))
    | (with_reducible (first | apply c_seq | apply c_rg | apply j_nil | apply q_n | apply c_cf | apply c_bl | apply c_ex | apply c_ret | apply c_sk | apply q_e | apply b_e | apply b_n | apply n_n | apply n_e))
    | ((with_reducible apply (v_make brow (false))); exact rfl; exact rfl; exact rfl; exact rfl; exact rfl; exact rfl; exact rfl; exact rfl; exact rfl; exact rfl; exact rfl; exact rfl; (apply chk_c; exact hP; (first | skip)))
    | ((with_reducible apply c_l1); exact rfl; exact rfl)
    | ((with_reducible apply j_v); exact rfl; exact rfl)
    | ((with_reducible apply (v_bsf (d := 67) (irow))); exact rfl; exact rfl; exact (row_cons (irow_mk _) row_nil); exact rfl; exact rfl)
    | ((with_reducible apply j_h); exact rfl; exact rfl)
    | ((with_reducible apply j_s); exact rfl)
    | ((with_reducible apply v_lenm); exact rfl; exact rfl; exact rfl; (exact hP); clear hP; intro hP)
    | ((with_reducible apply v_lens); exact rfl; exact rfl; exact rfl; (exact hP); clear hP; intro hP)
    | ((with_reducible apply j_ld_el1); exact rfl; exact rfl; exact rfl; exact rfl; (first | exact gt_row (by omega) (by omega)); exact rfl)
    | ((with_reducible apply j_add); exact rfl; exact rfl; exact rfl; (with_reducible apply wr_i64; (apply chk_c; exact hP; (first | skip))))
    | ((with_reducible apply v_ia); exact rfl; exact rfl; exact rfl; exact rfl; (case inst => exact inferInstance); exact rfl; exact rfl; (apply chk_c; exact hP; (first | skip)))
    | ((with_reducible apply v_iasl); exact rfl; exact rfl; exact rfl; exact rfl; (apply chk_c; exact hP; (first | skip)))
    | ((apply (v_ste (f := brow))); exact rfl; exact rfl; (case inst => exact inferInstance); exact rfl; exact rfl; exact rfl; exact rfl; exact rfl; exact congrArg some (brow_mk _); (first | with_reducible assumption))
    | ((with_reducible apply (v_ap (irow))); exact rfl; exact rfl; exact rfl; exact rfl; exact rfl; exact rfl; exact rfl; (first | exact rfl); exact rfl; exact rfl; exact rfl; (apply src_d; exact rfl; (intro row hrow; obtain ⟨q, _, rfl⟩ := List.mem_map.1 hrow; rfl)); (first | exact rfl); exact rfl; exact rfl; exact rfl; (apply chk_c; exact hP; (first | skip)))
    | ((with_reducible apply c_c); exact rfl; (refine dec_f ?_; decide))
    | ((with_reducible apply r_g); exact rfl; (· repeat' (first | exact True.intro | refine And.intro ?_ ?_ | (show (_ : Nat) = _; (first | exact (List.length_map _).symm)))); (exact hP.out))
    | ((with_reducible apply v_call (pu := false)); exact rfl; exact ⟨rfl, rfl⟩; (first | (apply (chk_ic _ _); rotate_left 2) | (apply (decide_ic _ _ _ _); rotate_left 4)); (focus ((repeat' (first | exact .nil _ | refine PsL.cons ?_ ?_ | refine PsSL.cons ?_ ?_ | exact .one (.d _ _) | refine .agg ?_ | exact .d _ _)) <;> fail)); exact .inr rfl; (apply chk_c; exact hP; (first | skip)))
    | ((with_reducible refine v_loopat (c := (.seq (.region 6 _ _) _)) ?_); (apply (v_loop2 _ _ [0, 1, 28, 29] [] (fun x1 x2 => [(9, .one (.sl 27 (List.length x1) 1)), (30, .one (.d (.int .i64 x2)))]) (fun x1 x2 => [(27, .arr 4 1 (List.map brow x1))]) [])); exact rfl; exact rfl; (focus (refine ⟨?_, ?_⟩; rotate_left 1; (focus (repeat' (first | exact .nil | refine .cons ?_ ?_ | exact .arr rfl (by first | rfl | assumption | simp)))); (focus (repeat' (first | exact .nil | refine .cons ?_ ?_ | exact SVle_pl rfl | refine .one ?_ | exact .sl rfl (by first | rfl | exact List.length_set.symm | exact (splT_len (by simp only [List.length_take, List.length_drop]; omega)).symm | omega | (rw [List.length_append, List.length_map]; show _ + 1 = _; omega) | simp)))))); (exact hP); clear hP; intro I μ x1 x2 hP)
    | ((with_reducible apply (v_nxt2 (a1 := _) (a2 := _))); rotate_left 1; (focus (repeat' (first | exact .nil | refine .cons ?_ ?_ | exact .d rfl | refine .blk rfl ?_ | exact .arr rfl (by first | rfl | assumption | simp)))); rotate_right 1; (focus (repeat' (first | exact .nil | refine .cons ?_ ?_ | exact SVle_pl rfl | refine .one ?_ | exact .ref rfl rfl | exact .sl rfl (by first | rfl | exact List.length_set.symm | exact (splT_len (by simp only [List.length_take, List.length_drop]; omega)).symm | omega | (rw [List.length_append, List.length_map]; show _ + 1 = _; omega) | simp)))); (exact hP))
    | ((with_reducible refine v_loopat (c := (.seq (.region 9 _ _) _)) ?_); (apply (v_loop2 _ _ [0, 1, 11, 28, 29, 30, 35, 36] [11] (fun x1 x2 => [(9, .one (.sl 27 (List.length x1) 1)), (37, .one (.d (.int .i64 x2)))]) (fun x1 x2 => [(27, .arr 4 1 (List.map brow x1))]) [])); exact rfl; exact rfl; (focus (refine ⟨?_, ?_⟩; rotate_left 1; (focus (repeat' (first | exact .nil | refine .cons ?_ ?_ | exact .d rfl | refine .blk rfl ?_ | exact .arr rfl (by first | rfl | assumption | simp)))); (focus (repeat' (first | exact .nil | refine .cons ?_ ?_ | exact SVle_pl rfl | refine .one ?_ | exact .ref rfl rfl | exact .sl rfl (by first | rfl | exact List.length_set.symm | exact (splT_len (by simp only [List.length_take, List.length_drop]; omega)).symm | omega | (rw [List.length_append, List.length_map]; show _ + 1 = _; omega) | simp)))))); (exact hP); clear hP; intro I μ x1 x2 hP)
    | ((with_reducible refine v_loopat (c := (.seq (.region 18 _ _) _)) ?_); (apply (v_loop2 [] _ [56, 57] [27] (fun x1 x2 => [(16, .one (.sl 216 (List.length x1) 1)), (58, .one (.d (.int .i64 x2)))]) (fun x1 x2 => [(216, .arr 3 1 (List.map irow x1))]) [216])); exact rfl; exact rfl; (focus (refine ⟨?_, ?_⟩; rotate_left 1; (focus (repeat' (first | exact .nil | refine .cons ?_ ?_ | exact .virt rfl | exact .arr rfl (by first | rfl | assumption | simp)))); (focus (repeat' (first | exact .nil | refine .cons ?_ ?_ | exact SVle_pl rfl | refine .one ?_ | exact .sl rfl (by first | rfl | exact List.length_set.symm | exact (splT_len (by simp only [List.length_take, List.length_drop]; omega)).symm | omega | (rw [List.length_append, List.length_map]; show _ + 1 = _; omega) | simp) | exact .nils rfl))))); (exact hP); clear hP; intro I μ x1 x2 hP)
    | ((with_reducible apply v_if); exact rfl; (exact hP); all_goals (clear hP; intro hc hP)))
theorem idle_ic (l : List Rul) (kinds : List Knd) (f : List Fnd) : ICp (RulOk l ∧ FndOk f ∧ FndA f) 25 [rlv l, knv kinds, fnv f] (fun v => v = .tup [lv (idlS l kinds f), iv 0]) := fun hh => (idle_V l kinds f _).2 (by
  obtain ⟨g1, g2, g3, g4⟩ := hh
  have gl := g1.1
  (delta idle_V; dsimp only [mkV])
  (repeat' (first | with_reducible refine brn_nd (fun h => ?_) (fun h => ?_) | with_reducible refine brn_d (fun h => ?_) (fun h => ?_) | with_reducible refine brn_nn (fun h => ?_) (fun h => ?_) | with_reducible refine brn_nb (fun h => ?_) (fun h => ?_) | with_reducible refine Brn.mk (fun h => ?_) (fun h => ?_) | with_reducible refine Chk.mk ?_ ?_ | with_reducible refine Bth.mk ?_ ?_ | with_reducible refine Fct.mk (fun hf => ?_)))
  · exact ⟨g1, g2⟩
  · omega
  refine up2 (fun (x : List Bool) z => x = usd l.length (upto (nuRow l kinds f) z)) (by omega) (by simp [usd, upto]; rw [List.map_const']; simp) (fun I μ x z h0 h1 hx nx => ?_) (fun I μ x hx => ?_)
  · obtain ⟨q1, q2⟩ := g4 _ (gt_mem h0 h1)
    (repeat' (first | with_reducible refine brn_nd (fun h => ?_) (fun h => ?_) | with_reducible refine brn_d (fun h => ?_) (fun h => ?_) | with_reducible refine brn_nn (fun h => ?_) (fun h => ?_) | with_reducible refine brn_nb (fun h => ?_) (fun h => ?_) | with_reducible refine Brn.mk (fun h => ?_) (fun h => ?_) | with_reducible refine Chk.mk ?_ ?_ | with_reducible refine Bth.mk ?_ ?_ | with_reducible refine Fct.mk (fun hf => ?_)))
    · exact ⟨h0, h1⟩
    refine up2 (fun (y : List Bool) k => y = usd l.length (upto (nuRow l kinds f) z ++ upto (fun k => [decN l kinds (gt f z) (gt (gt f z).wh k)]) k)) (by omega) (by rw [hx]; simp [upto]) (fun I2 μ2 y k k0 k1 hy nx2 => ?_) (fun I2 μ2 y hy => ?_)
    · have hd : decN l kinds (gt f z) (gt (gt f z).wh k) < l.length := (idxOf_bd _ _).2
      have hyl : y.length = l.length := by rw [hy]; simp [usd]
      (repeat' (first | with_reducible refine brn_nd (fun h => ?_) (fun h => ?_) | with_reducible refine brn_d (fun h => ?_) (fun h => ?_) | with_reducible refine brn_nn (fun h => ?_) (fun h => ?_) | with_reducible refine brn_nb (fun h => ?_) (fun h => ?_) | with_reducible refine Brn.mk (fun h => ?_) (fun h => ?_) | with_reducible refine Chk.mk ?_ ?_ | with_reducible refine Bth.mk ?_ ?_ | with_reducible refine Fct.mk (fun hf => ?_)))
      · exact ⟨k0, k1⟩
      · exact ⟨q2 _ (gt_mem k0 k1), g1.asks⟩
      · omega
      · unfold InI; omega
      · exact nx2 _ (by rw [upto_s _ k0, hy, usd_set _ _ (by assumption), List.append_assoc])
      · unfold InI; omega
      · exact nx2 _ (by rw [upto_s _ k0, hy, usd_neg _ _ (by assumption), List.append_assoc])
    · (repeat' (first | with_reducible refine brn_nd (fun h => ?_) (fun h => ?_) | with_reducible refine brn_d (fun h => ?_) (fun h => ?_) | with_reducible refine brn_nn (fun h => ?_) (fun h => ?_) | with_reducible refine brn_nb (fun h => ?_) (fun h => ?_) | with_reducible refine Brn.mk (fun h => ?_) (fun h => ?_) | with_reducible refine Chk.mk ?_ ?_ | with_reducible refine Bth.mk ?_ ?_ | with_reducible refine Fct.mk (fun hf => ?_)))
      · unfold InI; omega
      · exact nx _ (by rw [upto_s _ h0, hy]; rfl)
  · have hx2 : x = usd l.length (nums l kinds f) := hx
    have hxl : x.length = l.length := by rw [hx]; simp [usd]
    (repeat' (first | with_reducible refine brn_nd (fun h => ?_) (fun h => ?_) | with_reducible refine brn_d (fun h => ?_) (fun h => ?_) | with_reducible refine brn_nn (fun h => ?_) (fun h => ?_) | with_reducible refine brn_nb (fun h => ?_) (fun h => ?_) | with_reducible refine Brn.mk (fun h => ?_) (fun h => ?_) | with_reducible refine Chk.mk ?_ ?_ | with_reducible refine Bth.mk ?_ ?_ | with_reducible refine Fct.mk (fun hf => ?_)))
    refine up2 (fun (y : List Int) k => y = upto (fun i => if i ∈ nums l kinds f then [] else [i]) k) (by omega) (by simp [upto]) (fun I2 μ2 y k k0 k1 hy nx2 => ?_) (fun I2 μ2 y hy => ?_)
    · have hyl : y.length ≤ 1 * k.toNat := by rw [hy]; exact upto_le fun i _ _ => by split <;> simp
      have hg : gt x k = decide (k ∈ nums l kinds f) := by
        rw [gt_eq (by omega)]
        simp only [hx2, usd, List.getElem_map, List.getElem_range]
        rw [show ((k.toNat : Nat) : Int) = k by omega]
      (repeat' (first | with_reducible refine brn_nd (fun h => ?_) (fun h => ?_) | with_reducible refine brn_d (fun h => ?_) (fun h => ?_) | with_reducible refine brn_nn (fun h => ?_) (fun h => ?_) | with_reducible refine brn_nb (fun h => ?_) (fun h => ?_) | with_reducible refine Brn.mk (fun h => ?_) (fun h => ?_) | with_reducible refine Chk.mk ?_ ?_ | with_reducible refine Bth.mk ?_ ?_ | with_reducible refine Fct.mk (fun hf => ?_)))
      · exact ⟨k0, k1⟩
      · simp; omega
      · unfold InI; omega
      · have hn : gt x k = false := by assumption
        rw [hg] at hn
        exact nx2 _ (by rw [upto_s _ k0, hy, if_neg (of_decide_eq_false hn)])
      · unfold InI; omega
      · have hn : gt x k = true := by assumption
        rw [hg] at hn
        exact nx2 _ (by rw [upto_s _ k0, hy, if_pos (of_decide_eq_true hn)]; simp)
    · rw [hy, hxl]; rfl)
end Go.Proofs.Ytcbppkfnfbdkhaa
