/- Archives: which entries are right; reading them. -/
import Derived.Test.YtbnmcdnkeipdhaaFh
set_option linter.all false
set_option maxRecDepth 20000
set_option maxHeartbeats 4000000
namespace Go.Proofs.Ytbnmcdnkeipdhaa
open Go.RowKit Go.Shelf
def okC (c : Int) : Bool := decide (34 ≤ c) && decide (c ≤ 126)
def nmB (s : ByteArray) : Bool := (bytI s).all okC && (decide (1 ≤ s.size) && decide (s.size ≤ 40))
noncomputable def named_V (s : ByteArray) (Q : SV → Prop) : Σ' P : Prop, (P → ICt 65 [.one (.d (.str s))] Q) := by
  apply mkV; intro hP
  refine ic_wk (K 31) Try.func65 rfl rfl rfl rfl (fun w0 => ?_)
  repeat' (first
    | ((fail_if_success (have hTest : Hld False := hP)); (have hq := chk_c hP); (replace hP := chk_p hP))
    | (with_reducible (first | apply c_seq | apply c_rg | apply j_nil | apply q_n | apply g_tt | apply g_ff | apply c_ct | apply c_bl | apply c_ex | apply c_ret | apply c_sk | apply q_r | apply q_e | apply b_r | apply b_e | apply b_n | apply n_n | apply n_r | apply n_e))
    | ((with_reducible apply v_sby); exact rfl; kernel_rfl; exact rfl; kernel_rfl; exact rfl; exact rfl; exact rfl; exact rfl; (apply chk_c; exact hP; (first | skip)))
    | ((with_reducible apply v_lenstr); exact rfl; exact rfl; kernel_rfl)
    | ((with_reducible apply c_l1); exact rfl; exact rfl)
    | ((with_reducible apply j_v); exact rfl; exact rfl)
    | ((with_reducible apply j_g); exact rfl; exact rfl; (first | with_reducible assumption | with_reducible exact Eq.refl true))
    | ((with_reducible apply g_tf); exact rfl)
    | ((with_reducible apply g_ft); exact rfl)
    | ((with_reducible apply v_lenm); exact rfl; exact rfl; exact rfl; (exact hP); clear hP; intro hP)
    | ((with_reducible apply j_pk); exact rfl; exact rfl; (first | with_reducible assumption | with_reducible exact Eq.refl true); exact rfl)
    | ((with_reducible apply j_add); exact rfl; exact rfl; exact rfl; (with_reducible apply wr_i64; (apply chk_c; exact hP; (first | skip))))
    | ((with_reducible apply v_ia); exact rfl; exact rfl; exact rfl; exact rfl; (case inst => exact inferInstance); exact rfl; exact rfl; (apply chk_c; exact hP; (first | skip)))
    | ((with_reducible apply c_c); exact rfl; (first | with_reducible exact Eq.refl true))
    | ((with_reducible apply r_g); exact rfl; (· repeat' (first | exact True.intro | refine And.intro ?_ ?_)); (exact hP.out))
    | ((with_reducible refine v_loopat (c := (.seq (.region 2 _ _) _)) ?_); (apply (v_loop1 _ [0, 6, 7] [] (fun x1 => [(8, .one (.d (.int .i64 x1)))]) (fun x1 => []) [])); exact rfl; exact rfl; exact ⟨(by repeat' (first | exact .nil | refine .cons ?_ ?_ | exact SVle_pl rfl)), (by repeat' (first | exact .nil))⟩; (exact hP); clear hP; intro I μ x1 hP)
    | ((with_reducible apply (v_nxt1 (a1 := _))); (repeat' (first | exact .nil | refine .cons ?_ ?_ | exact SVle_pl rfl)); (repeat' (first | exact .nil | exact .nil _ | refine .cons ?_ ?_ | exact .u _ | exact SVle_pl rfl | refine .one ?_ | refine .agg ?_ | exact .d rfl | exact .ref rfl rfl | exact .sl rfl (by first | rfl | exact List.length_set.symm | exact (splT_len (by simp only [List.length_take, List.length_drop]; omega)).symm | omega | (rw [List.length_append, List.length_map]; show _ + 1 = _; omega) | simp) | exact .fn _ | exact .tape | exact .nils rfl | exact .nild | exact .nildm | exact .nil | exact .rp (by simp) | exact .clo (by simp) | exact .el rfl rfl rfl | exact .d (by first | rfl | (congr 1; omega) | (congr 1; assumption) | simp) | exact .virt rfl | exact .gone _ | refine .blk rfl ?_ | exact .arr rfl (by first | rfl | assumption | simp))); (exact hP))
    | ((with_reducible apply v_gs); exact rfl; exact rfl; (exact hP); all_goals (clear hP; intro hg hP))
    | ((with_reducible apply v_if); exact rfl; (exact hP); all_goals (clear hP; intro hc hP)))
theorem mem_gt {α : Type} [Inhabited α] {l : List α} {x : α} (h : x ∈ l) : ∃ i : Nat, i < l.length ∧ x = gt l (i : Int) := by
  obtain ⟨i, hi, rfl⟩ := List.getElem_of_mem h
  exact ⟨i, hi, (gt_nat hi).symm⟩
theorem take_snoc {α : Type} [Inhabited α] {l : List α} {i : Nat} (h : i < l.length) : l.take (i + 1) = l.take i ++ [gt l (i : Int)] := by
  rw [List.take_succ_eq_append_getElem h, gt_nat h]
theorem named_ic (s : ByteArray) : ICp (s.size ≤ 1000000000) 65 [.one (.d (.str s))] (fun v => v = bv (nmB s)) := fun hs => (named_V s _).2 (by
  (delta named_V; dsimp only [mkV])
  (repeat' (first | with_reducible refine brn_nd (fun h => ?_) (fun h => ?_) | with_reducible refine brn_d (fun h => ?_) (fun h => ?_) | with_reducible refine brn_nn (fun h => ?_) (fun h => ?_) | with_reducible refine brn_nb (fun h => ?_) (fun h => ?_) | with_reducible refine Brn.mk (fun h => ?_) (fun h => ?_) | with_reducible refine Chk.mk ?_ ?_ | with_reducible refine Bth.mk ?_ ?_ | with_reducible refine Fct.mk (fun hf => ?_)))
  · exact hs
  have no : ∀ z : Int, 0 ≤ z → z < (bytI s).length → okC (gt (bytI s) z) = false → SV.one (CV.d (Cell.bool false)) = bv (nmB s) := fun z h0 h1 hz => by
    have : (bytI s).all okC = false := List.all_eq_false.2 ⟨_, gt_mem h0 h1, by simp [hz]⟩
    rw [nmB, this]; rfl
  refine up1 (fun z => ∀ i : Nat, (i : Int) < z → okC (gt (bytI s) (i : Int)) = true) (by omega) (fun i hi => by omega) (fun I μ z h0 h1 hj nx => ?_) (fun I μ hj => ?_)
  · (repeat' (first | with_reducible refine brn_nd (fun h => ?_) (fun h => ?_) | with_reducible refine brn_d (fun h => ?_) (fun h => ?_) | with_reducible refine brn_nn (fun h => ?_) (fun h => ?_) | with_reducible refine brn_nb (fun h => ?_) (fun h => ?_) | with_reducible refine Brn.mk (fun h => ?_) (fun h => ?_) | with_reducible refine Chk.mk ?_ ?_ | with_reducible refine Bth.mk ?_ ?_ | with_reducible refine Fct.mk (fun hf => ?_)))
    · omega
    · exact no z h0 h1 (by unfold okC; simp; omega)
    · exact no z h0 h1 (by unfold okC; simp; omega)
    · exact no z h0 h1 (by unfold okC; simp; omega)
    · unfold InI; omega
    · refine nx fun i hi => ?_
      by_cases e : (i : Int) < z
      · exact hj i e
      · rw [show (i : Int) = z by omega]; unfold okC; simp; omega
  · have ha : (bytI s).all okC = true := List.all_eq_true.2 fun x hx => by
      obtain ⟨i, hi, rfl⟩ := mem_gt hx
      exact hj i (by omega)
    (repeat' (first | with_reducible refine brn_nd (fun h => ?_) (fun h => ?_) | with_reducible refine brn_d (fun h => ?_) (fun h => ?_) | with_reducible refine brn_nn (fun h => ?_) (fun h => ?_) | with_reducible refine brn_nb (fun h => ?_) (fun h => ?_) | with_reducible refine Brn.mk (fun h => ?_) (fun h => ?_) | with_reducible refine Chk.mk ?_ ?_ | with_reducible refine Bth.mk ?_ ?_ | with_reducible refine Fct.mk (fun hf => ?_)))
    · rw [nmB, ha, show decide (1 ≤ s.size) = true by simp; omega, Bool.true_and, Bool.true_and]
      refine congrArg bv ?_
      rw [decide_eq_decide]; omega
    · rw [nmB, ha, show decide (1 ≤ s.size) = false from decide_eq_false (by omega)]; rfl)
def sumE (l : List Ent) : Int := (l.map fun x => (x.dat.length : Int)).sum
noncomputable def valS (l : List Ent) : Int := if 64 < l.length ∨ 65536 < sumE l then 3 else if l.all (fun x => nmB x.nm) = false then 1 else if ¬ (l.map Ent.nm).Nodup then 7 else 0
def qNm (q : ByteArray → Bool) (x : Ent) : Bool := q x.nm
def pEnt (q : ByteArray → Bool) : List DV → Option Cell
  | [.agg [.str a, .list _]] => some (.bool (q a))
  | _ => none
theorem fnEnt {f : Nat} {caps : List CV} {q : ByteArray → Bool} (h : ∀ (a : ByteArray) (rows : List (List Cell)), ICt f (.agg [.d (.str a), .d (.list rows)] :: caps.map .one) (fun v => v = bv (q a))) (hn : CV.ntL caps = true := by rfl) : FnC f caps (pEnt q) := by
  refine ⟨(h ByteArray.empty []).1, hn, ?_⟩
  intro args r hr
  unfold pEnt at hr
  split at hr
  · cases hr; exact ⟨⟨_, rfl⟩, h _ _⟩
  · cases hr
noncomputable def idxE_V (l : List Ent) (q : ByteArray → Bool) (Q : SV → Prop) : Σ' P : Prop, (P → ICt 82 [.one (.d (.list (l.map Ent.row))), .one (.fn (pEnt q))] Q) := by
  apply mkV; intro hP
  refine ic_wk (K 19) Try.func82 rfl rfl rfl rfl (fun w0 => ?_)
  repeat' (first
    | ((fail_if_success (have hTest : Hld False := hP)); (have hq := chk_c hP); (replace hP := chk_p hP))
    | (with_reducible (first | apply c_seq | apply c_rg | apply j_nil | apply q_n | apply c_bl | apply c_ex | apply c_ret | apply c_sk | apply q_r | apply q_e | apply b_r | apply b_e | apply b_n | apply n_n | apply n_r | apply n_e))
    | ((with_reducible apply c_l1); exact rfl; exact rfl)
    | ((with_reducible apply j_v); exact rfl; exact rfl)
    | ((with_reducible apply v_lenm); exact rfl; exact rfl; exact rfl; (exact hP); clear hP; intro hP)
    | ((with_reducible apply j_add); exact rfl; exact rfl; exact rfl; (with_reducible apply wr_i64; (apply chk_c; exact hP; (first | skip))))
    | ((with_reducible apply v_ia); exact rfl; exact rfl; exact rfl; exact rfl; (case inst => exact inferInstance); exact rfl; exact rfl; (apply chk_c; exact hP; (first | skip)))
    | ((with_reducible apply r_g); exact rfl; (· repeat' (first | exact True.intro | refine And.intro ?_ ?_)); (exact hP.out))
    | ((apply (j_callf (args := [.agg [.str _, .list _]]))); exact rfl; exact rfl; exact ⟨rfl, trivial⟩; exact rfl; exact (fun _ _ h => by cases h); exact (fun _ h => by cases h))
    | ((with_reducible refine v_loopat (c := (.seq (.region 2 _ _) _)) ?_); (apply (v_loop1 _ [0, 1, 7] [] (fun x1 => [(8, .one (.d (.int .i64 x1)))]) (fun x1 => []) [])); exact rfl; exact rfl; exact ⟨(by repeat' (first | exact .nil | refine .cons ?_ ?_ | exact SVle_pl rfl | refine .one ?_ | exact .fn _)), (by repeat' (first | exact .nil))⟩; (exact hP); clear hP; intro I μ x1 hP)
    | ((with_reducible apply (v_nxt1 (a1 := _))); (repeat' (first | exact .nil | refine .cons ?_ ?_ | exact SVle_pl rfl | refine .one ?_ | exact .fn _)); (repeat' (first | exact .nil | exact .nil _ | refine .cons ?_ ?_ | exact .u _ | exact SVle_pl rfl | refine .one ?_ | refine .agg ?_ | exact .d rfl | exact .ref rfl rfl | exact .sl rfl (by first | rfl | exact List.length_set.symm | exact (splT_len (by simp only [List.length_take, List.length_drop]; omega)).symm | omega | (rw [List.length_append, List.length_map]; show _ + 1 = _; omega) | simp) | exact .fn _ | exact .tape | exact .nils rfl | exact .nild | exact .nildm | exact .nil | exact .rp (by simp) | exact .clo (by simp) | exact .el rfl rfl rfl | exact .d (by first | rfl | (congr 1; omega) | (congr 1; assumption) | simp) | exact .virt rfl | exact .gone _ | refine .blk rfl ?_ | exact .arr rfl (by first | rfl | assumption | simp))); (exact hP))
    | ((with_reducible apply v_if); exact rfl; (exact hP); all_goals (clear hP; intro hc hP)))
theorem idxE_ic (l : List Ent) (q : ByteArray → Bool) : ICt 82 [.one (.d (.list (l.map Ent.row))), .one (.fn (pEnt q))] (fun v => v = iv (idxOf (qNm q) l)) := (idxE_V l q _).2 (by
  (delta idxE_V; dsimp only [mkV])
  (repeat' (first | with_reducible refine brn_nd (fun h => ?_) (fun h => ?_) | with_reducible refine brn_d (fun h => ?_) (fun h => ?_) | with_reducible refine brn_nn (fun h => ?_) (fun h => ?_) | with_reducible refine brn_nb (fun h => ?_) (fun h => ?_) | with_reducible refine Brn.mk (fun h => ?_) (fun h => ?_) | with_reducible refine Chk.mk ?_ ?_ | with_reducible refine Bth.mk ?_ ?_ | with_reducible refine Fct.mk (fun hf => ?_)))
  refine ⟨fun x1 => 0 ≤ x1 ∧ x1 ≤ l.length ∧ ∀ j (hj : j < l.length), (j : Int) < x1 → qNm q l[j] = false, fun x1 => (l.length - x1).toNat, ⟨by omega, by omega, fun j hj h => by omega⟩, fun x1 ⟨h1, h2, h3⟩ => ?_⟩
  (repeat' (first | with_reducible refine brn_nd (fun h => ?_) (fun h => ?_) | with_reducible refine brn_d (fun h => ?_) (fun h => ?_) | with_reducible refine brn_nn (fun h => ?_) (fun h => ?_) | with_reducible refine brn_nb (fun h => ?_) (fun h => ?_) | with_reducible refine Brn.mk (fun h => ?_) (fun h => ?_) | with_reducible refine Chk.mk ?_ ?_ | with_reducible refine Bth.mk ?_ ?_ | with_reducible refine Fct.mk (fun hf => ?_)))
  · omega
  · rename_i hlt
    have hx : x1.toNat < l.length := by omega
    have hq' : qNm q (gt l x1) = true := h
    rw [gt_eq hx] at hq'
    have := idxOf_at hx hq' fun j hj => h3 j (by omega) (by omega)
    rw [this, Int.toNat_of_nonneg h1]
  · unfold InI; omega
  · rename_i hlt
    have hx : x1.toNat < l.length := by omega
    have hq' : qNm q (gt l x1) = false := h
    rw [gt_eq hx] at hq'
    refine ⟨⟨by omega, by omega, fun j hj h => ?_⟩, by dsimp only; omega⟩
    by_cases e : (j : Int) < x1
    · exact h3 j hj e
    · have : j = x1.toNat := by omega
      subst this
      simpa using hq'
  · rw [idxOf_none fun x hx => by
      obtain ⟨j, hj, rfl⟩ := List.getElem_of_mem hx
      exact h3 j hj (by omega)])
noncomputable def hasE_V (l : List Ent) (q : ByteArray → Bool) (Q : SV → Prop) : Σ' P : Prop, (P → ICt 66 [.one (.d (.list (l.map Ent.row))), .one (.fn (pEnt q))] Q) := by
  apply mkV; intro hP
  refine ic_wk (K 9) Try.func66 rfl rfl rfl rfl (fun w0 => ?_)
  repeat' (first
    | (with_reducible (first | apply c_seq | apply c_rg | apply j_nil | apply q_n | apply c_ret))
    | ((with_reducible apply j_v); exact rfl; exact rfl)
    | ((with_reducible apply r_g); exact rfl; (· repeat' (first | exact True.intro | refine And.intro ?_ ?_)); (exact hP.out))
    | ((with_reducible apply j_call (pu := false)); exact rfl; (apply (idxE_ic _ _); rotate_left 2); (focus ((repeat' (first | exact .nil _ | refine PsSL.cons ?_ ?_ | exact .one (.d _ _) | exact .one (.fn _ _))) <;> fail)); exact .inr rfl))
theorem hasE_ic (l : List Ent) (q : ByteArray → Bool) : ICt 66 [.one (.d (.list (l.map Ent.row))), .one (.fn (pEnt q))] (fun v => v = bv (l.any (qNm q))) := (hasE_V l q _).2 (by
  (delta hasE_V; dsimp only [mkV])
  (repeat' (first | with_reducible refine brn_nd (fun h => ?_) (fun h => ?_) | with_reducible refine brn_d (fun h => ?_) (fun h => ?_) | with_reducible refine brn_nn (fun h => ?_) (fun h => ?_) | with_reducible refine brn_nb (fun h => ?_) (fun h => ?_) | with_reducible refine Brn.mk (fun h => ?_) (fun h => ?_) | with_reducible refine Chk.mk ?_ ?_ | with_reducible refine Bth.mk ?_ ?_ | with_reducible refine Fct.mk (fun hf => ?_)))
  all_goals exact congrArg bv (idxOf_ge (qNm q) l))
noncomputable def same1_V (a : ByteArray) (rows : List (List Cell)) (e : Ent) (Q : SV → Prop) : Σ' P : Prop, (P → ICt 67 [.agg [.d (.str a), .d (.list rows)], .one e.p] Q) := by
  apply mkV; intro hP
  refine ic_wk (K 9) Try.func67 rfl rfl rfl rfl (fun w0 => ?_)
  repeat' (first
    | (with_reducible (first | apply c_seq | apply c_rg | apply j_nil | apply q_n | apply c_ret))
    | ((with_reducible apply j_v); exact rfl; exact rfl)
    | ((with_reducible apply j_h); exact rfl; exact rfl)
    | ((with_reducible apply v_streq); exact rfl; kernel_rfl; exact rfl; exact rfl)
    | ((with_reducible apply r_g); exact rfl; (· repeat' (first | exact True.intro | refine And.intro ?_ ?_)); (exact hP.out)))
theorem same1_ic (a : ByteArray) (rows : List (List Cell)) (e : Ent) : ICt 67 [.agg [.d (.str a), .d (.list rows)], .one e.p] (fun v => v = bv (decide (a = e.nm))) := (same1_V a rows e _).2 (by
  (delta same1_V; dsimp only [mkV])
  (repeat' (first | with_reducible refine brn_nd (fun h => ?_) (fun h => ?_) | with_reducible refine brn_d (fun h => ?_) (fun h => ?_) | with_reducible refine brn_nn (fun h => ?_) (fun h => ?_) | with_reducible refine brn_nb (fun h => ?_) (fun h => ?_) | with_reducible refine Brn.mk (fun h => ?_) (fun h => ?_) | with_reducible refine Chk.mk ?_ ?_ | with_reducible refine Bth.mk ?_ ?_ | with_reducible refine Fct.mk (fun hf => ?_)))
  all_goals rfl)
theorem same1_fn (e : Ent) : FnC 67 [e.p] (pEnt fun a => decide (a = e.nm)) := fnEnt fun a rows => same1_ic a rows e
noncomputable def val_V (l : List Ent) (Q : SV → Prop) : Σ' P : Prop, (P → ICt 34 [.one (.d (.list (List.map Ent.row l)))] Q) := by
  apply mkV; intro hP
  refine ic_wk (K 53) Try.func34 rfl rfl rfl rfl (fun w0 => ?_)
  repeat' (first
    | ((fail_if_success (have hTest : Hld False := hP)); (have hq := chk_c hP); (replace hP := chk_p hP))
    | (with_reducible (first | apply c_seq | apply c_rg | apply j_nil | apply q_n | apply g_ff | apply c_ct | apply c_bl | apply c_ex | apply c_ret | apply c_sk | apply q_r | apply q_e | apply b_r | apply b_e | apply b_n | apply n_n | apply n_r | apply n_e))
    | ((with_reducible apply v_sh); exact rfl; exact rfl; exact rfl; exact rfl; exact (fun _ => rfl); (apply chk_c; exact hP; (first | skip)))
    | ((with_reducible apply c_l1); exact rfl; exact rfl)
    | ((with_reducible apply j_v); exact rfl; exact rfl)
    | ((with_reducible apply j_h); exact rfl; exact rfl)
    | ((with_reducible apply j_s); exact rfl)
    | ((with_reducible apply j_g); exact rfl; exact rfl; (first | with_reducible assumption))
    | ((with_reducible apply g_tf); exact rfl)
    | ((with_reducible apply v_lenm); exact rfl; exact rfl; exact rfl; (exact hP); clear hP; intro hP)
    | ((with_reducible apply j_pk); exact rfl; exact rfl; (first | with_reducible assumption); exact rfl)
    | ((with_reducible apply j_add); exact rfl; exact rfl; exact rfl; (with_reducible apply wr_i64; (apply chk_c; exact hP; (first | skip))))
    | ((with_reducible apply v_ia); exact rfl; exact rfl; exact rfl; exact rfl; (case inst => exact inferInstance); exact rfl; exact rfl; (apply chk_c; exact hP; (first | skip)))
    | ((with_reducible apply c_c); exact rfl; (first | with_reducible exact Eq.refl true))
    | ((with_reducible apply r_g); exact rfl; (· repeat' (first | exact True.intro | refine And.intro ?_ ?_)); (exact hP.out))
    | ((with_reducible apply v_call (pu := false)); exact rfl; exact ⟨rfl, rfl⟩; (apply (named_ic _); rotate_left 1); (focus ((repeat' (first | exact .nil _ | refine PsSL.cons ?_ ?_ | exact .one (.d _ _))) <;> fail)); exact .inr rfl; (apply chk_c; exact hP; (first | skip)))
    | ((with_reducible apply j_call (pu := false)); exact rfl; (apply (hasE_ic _ _); rotate_left 2); (focus ((repeat' (first | (apply (PsS.cfn _ (same1_fn _)); (focus (repeat' (first | exact .nil _ | refine PsL.cons ?_ ?_ | refine PsSL.cons ?_ ?_ | exact .one (.d _ _) | exact .one (.nil _) | exact .one (.tape _) | exact .one (.fn _ _) | exact .agg (.same _ _) | refine .agg ?_ | exact .d _ _ | exact .one (.sl rfl rfl) | exact .sl rfl rfl | refine .one (PsC.ref rfl ?_) | refine PsC.ref rfl ?_ | refine .one (PsC.rp ?_) | refine PsC.rp ?_ | refine .one (PsC.clo ?_) | refine PsC.clo ?_ | exact .same _ _)))) | exact .nil _ | refine PsL.cons ?_ ?_ | refine PsSL.cons ?_ ?_ | exact .one (.d _ _) | exact .d _ _ | refine PsC.ref rfl ?_)) <;> fail)); exact .inr rfl)
    | ((with_reducible refine v_loopat (c := (.seq (.region 3 _ _) _)) ?_); (apply (v_loop2 _ _ [0, 10, 11] [] (fun x1 x2 => [(3, .one (.d (.int .i64 x1))), (12, .one (.d (.int .i64 x2)))]) (fun x1 x2 => []) [])); exact rfl; exact rfl; exact ⟨(by repeat' (first | exact .nil | refine .cons ?_ ?_ | exact SVle_pl rfl)), (by repeat' (first | exact .nil))⟩; (exact hP); clear hP; intro I μ x1 x2 hP)
    | ((with_reducible apply (v_nxt2 (a1 := _) (a2 := _))); (repeat' (first | exact .nil | refine .cons ?_ ?_ | exact SVle_pl rfl)); (repeat' (first | exact .nil | exact .nil _ | refine .cons ?_ ?_ | exact .u _ | exact SVle_pl rfl | refine .one ?_ | refine .agg ?_ | exact .d rfl | exact .ref rfl rfl | exact .sl rfl (by first | rfl | exact List.length_set.symm | exact (splT_len (by simp only [List.length_take, List.length_drop]; omega)).symm | omega | (rw [List.length_append, List.length_map]; show _ + 1 = _; omega) | simp) | exact .fn _ | exact .tape | exact .nils rfl | exact .nild | exact .nildm | exact .nil | exact .rp (by simp) | exact .clo (by simp) | exact .el rfl rfl rfl | exact .d (by first | rfl | (congr 1; omega) | (congr 1; assumption) | simp) | exact .virt rfl | exact .gone _ | refine .blk rfl ?_ | exact .arr rfl (by first | rfl | assumption | simp))); (exact hP))
    | ((with_reducible refine v_loopat (c := (.seq (.region 10 _ _) _)) ?_); (apply (v_loop1 _ [0, 29, 30] [] (fun x1 => [(31, .one (.d (.int .i64 x1)))]) (fun x1 => []) [])); exact rfl; exact rfl; exact ⟨(by repeat' (first | exact .nil | refine .cons ?_ ?_ | exact SVle_pl rfl)), (by repeat' (first | exact .nil))⟩; (exact hP); clear hP; intro I μ x1 hP)
    | ((with_reducible apply (v_nxt1 (a1 := _))); (repeat' (first | exact .nil | refine .cons ?_ ?_ | exact SVle_pl rfl)); (repeat' (first | exact .nil | exact .nil _ | refine .cons ?_ ?_ | exact .u _ | exact SVle_pl rfl | refine .one ?_ | refine .agg ?_ | exact .d rfl | exact .ref rfl rfl | exact .sl rfl (by first | rfl | exact List.length_set.symm | exact (splT_len (by simp only [List.length_take, List.length_drop]; omega)).symm | omega | (rw [List.length_append, List.length_map]; show _ + 1 = _; omega) | simp) | exact .fn _ | exact .tape | exact .nils rfl | exact .nild | exact .nildm | exact .nil | exact .rp (by simp) | exact .clo (by simp) | exact .el rfl rfl rfl | exact .d (by first | rfl | (congr 1; omega) | (congr 1; assumption) | simp) | exact .virt rfl | exact .gone _ | refine .blk rfl ?_ | exact .arr rfl (by first | rfl | assumption | simp))); (exact hP))
    | ((with_reducible refine v_loopat (c := (.seq (.region 16 _ _) _)) ?_); (apply (v_loop1 _ [0, 40, 41] [] (fun x1 => [(42, .one (.d (.int .i64 x1)))]) (fun x1 => []) [])); exact rfl; exact rfl; exact ⟨(by repeat' (first | exact .nil | refine .cons ?_ ?_ | exact SVle_pl rfl)), (by repeat' (first | exact .nil))⟩; (exact hP); clear hP; intro I μ x1 hP)
    | ((with_reducible apply v_gs); exact rfl; exact rfl; (exact hP); all_goals (clear hP; intro hg hP))
    | ((with_reducible apply v_if); exact rfl; (exact hP); all_goals (clear hP; intro hc hP)))
theorem sumE_app (a b : List Ent) : sumE (a ++ b) = sumE a + sumE b := by unfold sumE; rw [List.map_append, List.sum_append]
theorem sumE_pos (l : List Ent) : 0 ≤ sumE l := by
  unfold sumE
  induction l with
  | nil => simp
  | cons x l ih => simp; omega
theorem sumE_le {l : List Ent} (h : ∀ x ∈ l, x.dat.length ≤ 1000000000) : sumE l ≤ l.length * 1000000000 := by
  induction l with
  | nil => simp [sumE]
  | cons x l ih =>
    have h1 := h x (by simp)
    have h2 := ih fun y hy => h y (by simp [hy])
    rw [show x :: l = [x] ++ l from rfl, sumE_app]
    have : sumE [x] = x.dat.length := by simp [sumE]
    simp only [List.length_append, List.length_singleton]
    omega
theorem nodup_snoc {l : List Ent} {x : Ent} (h : (l.map Ent.nm).Nodup) (hx : l.any (qNm fun a => decide (a = x.nm)) = false) : ((l ++ [x]).map Ent.nm).Nodup := by
  rw [List.map_append]
  refine List.nodup_append.2 ⟨h, by simp, fun a ha b hb e => ?_⟩
  simp at hb
  obtain ⟨y, hy, rfl⟩ := List.mem_map.1 ha
  have := List.any_eq_false.1 hx y hy
  simp [qNm] at this
  exact this (e.trans hb)
theorem val_ic (l : List Ent) : ICp (l.length ≤ 1000 ∧ ∀ x ∈ l, x.nm.size ≤ 1000000000 ∧ x.dat.length ≤ 1000000000) 34 [ev l] (fun v => v = iv (valS l)) := fun hl => (val_V l _).2 (by
  obtain ⟨hn, hl⟩ := hl
  have ets : ∀ z : Int, 0 ≤ z → z < l.length → l.take (z + 1).toNat = l.take z.toNat ++ [gt l z] := fun z h0 h1 => by
    rw [show (z + 1).toNat = z.toNat + 1 by omega, take_snoc (by omega), show ((z.toNat : Nat) : Int) = z by omega]
  (delta val_V; dsimp only [mkV])
  (repeat' (first | with_reducible refine brn_nd (fun h => ?_) (fun h => ?_) | with_reducible refine brn_d (fun h => ?_) (fun h => ?_) | with_reducible refine brn_nn (fun h => ?_) (fun h => ?_) | with_reducible refine brn_nb (fun h => ?_) (fun h => ?_) | with_reducible refine Brn.mk (fun h => ?_) (fun h => ?_) | with_reducible refine Chk.mk ?_ ?_ | with_reducible refine Bth.mk ?_ ?_ | with_reducible refine Fct.mk (fun hf => ?_)))
  refine up2 (fun x z => x = sumE (l.take z.toNat)) (by omega) rfl (fun I μ x z h0 h1 hx nx => ?_) (fun I μ x hx => ?_)
  · have h2 := sumE_pos (l.take z.toNat)
    have h3 := sumE_le (l := l.take z.toNat) fun y hy => (hl y (List.mem_of_mem_take hy)).2
    have h4 := (hl _ (gt_mem h0 h1)).2
    rw [List.length_take] at h3
    (repeat' (first | with_reducible refine brn_nd (fun h => ?_) (fun h => ?_) | with_reducible refine brn_d (fun h => ?_) (fun h => ?_) | with_reducible refine brn_nn (fun h => ?_) (fun h => ?_) | with_reducible refine brn_nb (fun h => ?_) (fun h => ?_) | with_reducible refine Brn.mk (fun h => ?_) (fun h => ?_) | with_reducible refine Chk.mk ?_ ?_ | with_reducible refine Bth.mk ?_ ?_ | with_reducible refine Fct.mk (fun hf => ?_)))
    · omega
    · unfold InI; omega
    · unfold InI; omega
    · refine nx _ ?_
      rw [ets z h0 h1, sumE_app, ← hx]
      simp [sumE]
  · rw [List.take_of_length_le (by omega)] at hx
    (repeat' (first | with_reducible refine brn_nd (fun h => ?_) (fun h => ?_) | with_reducible refine brn_d (fun h => ?_) (fun h => ?_) | with_reducible refine brn_nn (fun h => ?_) (fun h => ?_) | with_reducible refine brn_nb (fun h => ?_) (fun h => ?_) | with_reducible refine Brn.mk (fun h => ?_) (fun h => ?_) | with_reducible refine Chk.mk ?_ ?_ | with_reducible refine Bth.mk ?_ ?_ | with_reducible refine Fct.mk (fun hf => ?_)))
    · rw [valS, if_pos (by omega)]
    · rw [valS, if_pos (by omega)]
    have hv : ¬ (64 < l.length ∨ 65536 < sumE l) := by omega
    refine up1 (fun z => ∀ i : Nat, (i : Int) < z → nmB (gt l (i : Int)).nm = true) (by omega) (fun i hi => by omega) (fun I μ z h0 h1 hj nx => ?_) (fun I μ hj => ?_)
    · (repeat' (first | with_reducible refine brn_nd (fun h => ?_) (fun h => ?_) | with_reducible refine brn_d (fun h => ?_) (fun h => ?_) | with_reducible refine brn_nn (fun h => ?_) (fun h => ?_) | with_reducible refine brn_nb (fun h => ?_) (fun h => ?_) | with_reducible refine Brn.mk (fun h => ?_) (fun h => ?_) | with_reducible refine Chk.mk ?_ ?_ | with_reducible refine Bth.mk ?_ ?_ | with_reducible refine Fct.mk (fun hf => ?_)))
      · omega
      · exact (hl _ (gt_mem h0 h1)).1
      · rw [valS, if_neg hv, if_pos (List.all_eq_false.2 ⟨_, gt_mem h0 h1, by simpa using (by assumption : nmB (gt l z).nm = false)⟩)]
      · unfold InI; omega
      · refine nx fun i hi => ?_
        by_cases e : (i : Int) < z
        · exact hj i e
        · rw [show (i : Int) = z by omega]; assumption
    have ha : ¬ l.all (fun x => nmB x.nm) = false := by
      intro h
      obtain ⟨x, hx, hq⟩ := List.all_eq_false.1 h
      obtain ⟨i, hi, rfl⟩ := mem_gt hx
      exact hq (hj i (by omega))
    (repeat' (first | with_reducible refine brn_nd (fun h => ?_) (fun h => ?_) | with_reducible refine brn_d (fun h => ?_) (fun h => ?_) | with_reducible refine brn_nn (fun h => ?_) (fun h => ?_) | with_reducible refine brn_nb (fun h => ?_) (fun h => ?_) | with_reducible refine Brn.mk (fun h => ?_) (fun h => ?_) | with_reducible refine Chk.mk ?_ ?_ | with_reducible refine Bth.mk ?_ ?_ | with_reducible refine Fct.mk (fun hf => ?_)))
    refine up1 (fun z => ((l.take z.toNat).map Ent.nm).Nodup) (by omega) (by simp) (fun I μ z h0 h1 hj nx => ?_) (fun I μ hj => ?_)
    · (repeat' (first | with_reducible refine brn_nd (fun h => ?_) (fun h => ?_) | with_reducible refine brn_d (fun h => ?_) (fun h => ?_) | with_reducible refine brn_nn (fun h => ?_) (fun h => ?_) | with_reducible refine brn_nb (fun h => ?_) (fun h => ?_) | with_reducible refine Brn.mk (fun h => ?_) (fun h => ?_) | with_reducible refine Chk.mk ?_ ?_ | with_reducible refine Bth.mk ?_ ?_ | with_reducible refine Fct.mk (fun hf => ?_)))
      · omega
      · omega
      · suffices hnd : ¬ (l.map Ent.nm).Nodup by
          rw [valS, if_neg hv, if_neg ha, if_pos hnd]
        intro hd
        obtain ⟨y, hy, hq⟩ := List.any_eq_true.1 (by assumption : (List.take z.toNat l).any (qNm fun a => decide (a = (gt l z).nm)) = true)
        have h9 := (hd.sublist ((List.take_sublist (z + 1).toNat l).map Ent.nm))
        rw [ets z h0 h1, List.map_append] at h9
        exact (List.nodup_append.1 h9).2.2 _ (List.mem_map_of_mem hy) (gt l z).nm (by simp) (by simpa [qNm] using hq)
      · unfold InI; omega
      · refine nx ?_
        rw [ets z h0 h1]
        exact nodup_snoc hj (by assumption)
    · rw [List.take_of_length_le (by omega)] at hj
      rw [valS, if_neg hv, if_neg ha, if_neg (by simpa using hj)])
end Go.Proofs.Ytbnmcdnkeipdhaa
