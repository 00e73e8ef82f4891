/- Rules: conditions, counted and measured; names. -/
import Derived.Test.YtcbppkfnfbdkhaaJa
set_option linter.all false
set_option maxRecDepth 20000
set_option maxHeartbeats 4000000
namespace Go.Proofs.Ytcbppkfnfbdkhaa
open Go.RowKit Go.Shelf
def FnC (f : Nat) (caps : List CV) (p : List DV → Option Cell) : Prop := Enters Try.prog f ∧ CV.ntL caps = true ∧ FnSpec Try.prog 25 f caps p
theorem PsS.cfn {H : List (Nat × VH)} {pu : Bool} {f : Nat} {cs cs' : List CV} {p : List DV → Option Cell} (h : PsL Try.prog 25 H pu cs cs') (hf : FnC f cs' p) : PsS Try.prog 25 H pu (.one (.clo f cs)) (.one (.fn p)) := .one (PsC.cfn h hf.1 hf.2.1 hf.2.2)
theorem bl {a b : Bool} (h : a = b) : SV.one (.d (.bool a)) = bv b := by rw [h]
theorem mem_gt {α : Type} [Inhabited α] {l : List α} {x : α} (h : x ∈ l) : ∃ i : Nat, i < l.length ∧ x = gt l (i : Int) := by
  obtain ⟨i, hi, rfl⟩ := List.getElem_of_mem h
  exact ⟨i, hi, (gt_nat hi).symm⟩
theorem take_snoc {α : Type} [Inhabited α] {l : List α} {i : Nat} (h : i < l.length) : l.take (i + 1) = l.take i ++ [gt l (i : Int)] := by
  rw [List.take_succ_eq_append_getElem h, gt_nat h]
theorem take_snocI {α : Type} [Inhabited α] {l : List α} {z : Int} (h0 : 0 ≤ z) (h : z < l.length) : l.take (z + 1).toNat = l.take z.toNat ++ [gt l z] := by
  rw [show (z + 1).toNat = z.toNat + 1 by omega, take_snoc (by omega), show ((z.toNat : Nat) : Int) = z by omega]
/- What is made of a tree from its leaves on. -/
mutual
def Tre.fold {α : Type} (f : Int → ByteArray → Int → Int → List α → α) : Tre → α
  | .mk op tx nu pr ks => f op tx nu pr (Tre.foldL f ks)
def Tre.foldL {α : Type} (f : Int → ByteArray → Int → Int → List α → α) : List Tre → List α
  | [] => []
  | k :: ks => k.fold f :: Tre.foldL f ks
end
theorem Tre.foldL_eq {α : Type} (f : Int → ByteArray → Int → Int → List α → α) (ks : List Tre) : Tre.foldL f ks = ks.map (Tre.fold f) := by
  induction ks with
  | nil => rw [Tre.foldL]; rfl
  | cons k ks ih => rw [Tre.foldL, ih]; rfl
theorem Tre.fold_mk {α : Type} (f : Int → ByteArray → Int → Int → List α → α) (op : Int) (tx : ByteArray) (nu pr : Int) (ks : List Tre) : (Tre.mk op tx nu pr ks).fold f = f op tx nu pr (ks.map (Tre.fold f)) := by rw [Tre.fold, Tre.foldL_eq]
def Tre.size : Tre → Nat := Tre.fold fun _ _ _ _ l => 1 + l.sum
def Tre.deep : Tre → Nat := Tre.fold fun _ _ _ _ l => 1 + l.foldl max 0
theorem Tre.size_mk (op : Int) (tx : ByteArray) (nu pr : Int) (ks : List Tre) : (Tre.mk op tx nu pr ks).size = 1 + (ks.map Tre.size).sum := Tre.fold_mk ..
theorem Tre.deep_mk (op : Int) (tx : ByteArray) (nu pr : Int) (ks : List Tre) : (Tre.mk op tx nu pr ks).deep = 1 + (ks.map Tre.deep).foldl max 0 := Tre.fold_mk ..
def Tre.small : Tre → Prop := Tre.fold fun _ tx _ _ l => tx.size ≤ 1000000000 ∧ ∀ p ∈ l, p
theorem Tre.small_mk (op : Int) (tx : ByteArray) (nu pr : Int) (ks : List Tre) : (Tre.mk op tx nu pr ks).small ↔ tx.size ≤ 1000000000 ∧ ∀ k ∈ ks, k.small := by
  show (Tre.mk op tx nu pr ks).fold _ ↔ _
  rw [Tre.fold_mk]
  exact ⟨fun h => ⟨h.1, fun k hk => h.2 _ (List.mem_map_of_mem hk)⟩, fun h => ⟨h.1, fun p hp => by obtain ⟨k, hk, rfl⟩ := List.mem_map.1 hp; exact h.2 k hk⟩⟩
def Trm.ok (c : Trm) : Prop := ∃ e : Tre, c = e.toT ∧ e.small
theorem Trm.ok_tre {c : Trm} (h : c.ok) : c = c.tre.toT := by obtain ⟨e, rfl, _⟩ := h; rw [e.tre]
theorem Trm.ind {p : Trm → Prop} (h : ∀ op tx nu pr (ts : List Trm), tx.size ≤ 1000000000 → (∀ k ∈ ts, k.ok) → (∀ k ∈ ts, p k) → p ⟨op, tx, nu, pr, ts.map Trm.row⟩) : ∀ c : Trm, c.ok → p c := by
  rintro _ ⟨e, rfl, hs⟩
  refine Tre.ind (p := fun e => e.small → p e.toT) (fun op tx nu pr ks ih hs => ?_) e hs
  rw [Tre.toT_mk]
  rw [Tre.small_mk] at hs
  refine h op tx nu pr _ hs.1 (fun k hk => ?_) fun k hk => ?_
  · obtain ⟨e, he, rfl⟩ := List.mem_map.1 hk; exact ⟨e, rfl, hs.2 e he⟩
  · obtain ⟨e, he, rfl⟩ := List.mem_map.1 hk; exact ih e he (hs.2 e he)
theorem Trm.tre_mk {op : Int} {tx : ByteArray} {nu pr : Int} {ts : List Trm} (h : ∀ k ∈ ts, k.ok) : (Trm.mk op tx nu pr (ts.map Trm.row)).tre = .mk op tx nu pr (ts.map Trm.tre) := by
  have e : ts = (ts.map Trm.tre).map Tre.toT := by
    rw [List.map_map]
    conv => lhs; rw [← List.map_id ts]
    exact List.map_congr_left fun k hk => Trm.ok_tre (h k hk)
  have : Trm.mk op tx nu pr (ts.map Trm.row) = (Tre.mk op tx nu pr (ts.map Trm.tre)).toT := by rw [Tre.toT_mk, ← e]
  rw [this, Tre.tre]
theorem Trm.ok_mk {op : Int} {tx : ByteArray} {nu pr : Int} {ts : List Trm} (ht : tx.size ≤ 1000000000) (h : ∀ k ∈ ts, k.ok) : (Trm.mk op tx nu pr (ts.map Trm.row)).ok := by
  have e : ts = (ts.map Trm.tre).map Tre.toT := by
    rw [List.map_map]
    conv => lhs; rw [← List.map_id ts]
    exact List.map_congr_left fun k hk => Trm.ok_tre (h k hk)
  refine ⟨.mk op tx nu pr (ts.map Trm.tre), by rw [Tre.toT_mk, ← e], ?_⟩
  rw [Tre.small_mk]
  refine ⟨ht, fun k hk => ?_⟩
  obtain ⟨c, hc, rfl⟩ := List.mem_map.1 hk
  obtain ⟨e, rfl, he⟩ := h c hc
  rw [e.tre]; exact he
noncomputable def szL (ts : List Trm) : Nat := (ts.map (Tre.size ∘ Trm.tre)).sum
noncomputable def dpL (ts : List Trm) : Nat := (ts.map (Tre.deep ∘ Trm.tre)).foldl max 0
theorem szL_app (a b : List Trm) : szL (a ++ b) = szL a + szL b := by unfold szL; simp
noncomputable def tmS (c : Trm) : Int := (min 61 c.tre.size : Nat)
noncomputable def dpS (c : Trm) (left : Int) : Int := min (c.tre.deep : Int) (left + 1)
noncomputable def terms_V (op : Int) (tx : ByteArray) (nu pr : Int) (ts : List Trm) (ih : ∀ k : Trm, ICp (k ∈ ts) 106 [k.v] (fun v => v = iv (tmS k))) (Q : SV → Prop) : Σ' P : Prop, (P → ICt 106 [.agg [.d (.int .i64 op), .d (.str tx), .d (.int .i64 nu), .d (.int .u64 pr), .d (.list (ts.map Trm.row))]] Q) := by
  apply mkV; intro hP
  refine ic_wk (K 21) Try.func106 rfl rfl rfl rfl (fun w0 => ?_)
  repeat' (first
    | ((fail_if_success (have hTest : Hld False := hP)); (have hq := chk_c hP); (replace hP := chk_p hP))
    | ((with_reducible apply j_lst); exact rfl)
    | (with_reducible (first | apply c_seq | apply c_rg | apply j_nil | apply q_n | apply c_ct | apply c_cf | apply c_bl | apply c_ex | apply c_ret | apply c_sk | apply q_r | apply q_e | apply b_r | apply b_e | apply b_n | apply n_n | apply n_r | apply n_e))
    | ((with_reducible apply (v_ldel (f := Trm.row))); exact rfl; exact rfl; exact rfl; exact rfl; (case inst => exact inferInstance); exact rfl; (first | with_reducible assumption | (apply chk_c; exact hP; (first | (guard_target = Prop; rotate_left 1) | skip))))
    | ((with_reducible apply v_lenstr); exact rfl; exact rfl; kernel_rfl)
    | ((with_reducible apply c_l1); exact rfl; exact rfl)
    | ((with_reducible apply c_l2); exact rfl; exact rfl)
    | ((with_reducible apply c_l3); exact rfl)
    | ((with_reducible apply j_v); exact rfl; exact rfl)
    | ((with_reducible apply j_h); exact rfl; exact rfl)
    | ((with_reducible apply j_s); exact rfl)
    | ((with_reducible apply v_lenm); exact rfl; exact rfl; exact rfl; (exact hP); clear hP; intro hP)
    | ((with_reducible apply v_lens); exact rfl; exact rfl; exact rfl; (exact hP); clear hP; intro hP)
    | ((with_reducible apply j_len); exact rfl; exact rfl; exact rfl)
    | ((with_reducible apply j_len0); exact rfl; exact rfl; exact rfl)
    | ((with_reducible apply j_ld_el1); exact rfl; exact rfl; exact rfl; exact rfl; (first | with_reducible assumption | exact gt_row (by omega) (by omega) | exact rfl); exact rfl)
    | ((with_reducible apply j_add); exact rfl; exact rfl; exact rfl; (first | (with_reducible apply wr_i64; (first | with_reducible assumption | (apply chk_c; exact hP; (first | (guard_target = Prop; rotate_left 1) | skip)))) | exact rfl))
    | ((with_reducible apply v_ia); exact rfl; exact rfl; exact rfl; exact rfl; (case inst => exact inferInstance); exact rfl; exact rfl; (first | with_reducible assumption | (apply chk_c; exact hP; (first | (guard_target = Prop; rotate_left 1) | skip))))
    | ((with_reducible apply v_iasl); exact rfl; exact rfl; exact rfl; exact rfl; (first | with_reducible assumption | (apply chk_c; exact hP; (first | (guard_target = Prop; rotate_left 1) | skip))))
    | ((with_reducible apply j_ia_ar); exact rfl; exact rfl; exact rfl; exact rfl; ((repeat ((fail_if_success (have hTest : Hld False := hP)); (have hq := chk_c hP); (replace hP := chk_p hP))); first | with_reducible assumption | (apply chk_c; exact hP; (first | (guard_target = Prop; rotate_left 1) | skip))); ((repeat ((fail_if_success (have hTest : Hld False := hP)); (have hq := chk_c hP); (replace hP := chk_p hP))); first | with_reducible assumption | (apply chk_c; exact hP; (first | (guard_target = Prop; rotate_left 1) | skip))); (first | with_reducible exact Int.toNat_natCast _ | exact rfl))
    | ((with_reducible apply c_c); exact rfl; (first | with_reducible assumption | with_reducible exact Eq.refl true | with_reducible exact Eq.refl false | (with_reducible refine not_t ?_; with_reducible assumption) | (with_reducible refine not_f ?_; with_reducible assumption) | (refine dec_t ?_; decide) | (refine dec_f ?_; decide)))
    | ((with_reducible apply b_o); exact rfl)
    | ((with_reducible apply r_g); exact rfl; (· repeat' (first | exact True.intro | refine And.intro ?_ ?_ | (show (_ : Nat) = _; (first | exact rfl | exact (List.length_map _).symm | omega | (simp only [List.length_set, List.length_map, List.length_append] <;> omega) | (simp; done))))); (exact hP.out))
    | ((with_reducible apply v_call (pu := false)); exact rfl; exact ⟨rfl, rfl⟩; (first | (apply (ih _); rotate_left 1)); (focus ((repeat' (first | exact .nil _ | refine PsL.cons ?_ ?_ | refine PsSL.cons ?_ ?_ | exact .one (.d _ _) | exact .one psc_nilm | exact psc_nilm | exact .one (.nil _) | exact .one (.nn _) | exact .one (.tape _) | exact .one (.fn _ _) | exact .agg (.same _ _) | refine .agg ?_ | exact .d _ _ | exact .one (.sl rfl rfl) | exact .one (.sl rfl (List.length_map _).symm) | exact .sl rfl rfl | exact .sl rfl (List.length_map _).symm | exact .same _ _)) <;> fail)); exact .inr rfl; (first | with_reducible assumption | (apply chk_c; exact hP; (first | (guard_target = Prop; rotate_left 1) | skip))))
    | ((with_reducible apply v_call (pu := true)); exact rfl; exact ⟨rfl, rfl⟩; (first | (apply (ih _); rotate_left 1)); (focus ((repeat' (first | exact .nil _ | refine PsL.cons ?_ ?_ | refine PsSL.cons ?_ ?_ | exact .one (.d _ _) | exact .one psc_nilm | exact psc_nilm | exact .one (.nil _) | exact .one (.nn _) | exact .one (.tape _) | exact .one (.fn _ _) | exact .agg (.same _ _) | refine .agg ?_ | exact .d _ _ | exact .one (.sl rfl rfl) | exact .one (.sl rfl (List.length_map _).symm) | exact .sl rfl rfl | exact .sl rfl (List.length_map _).symm | exact .same _ _)) <;> fail)); exact .inl rfl; (first | with_reducible assumption | (apply chk_c; exact hP; (first | (guard_target = Prop; rotate_left 1) | skip))))
    | ((with_reducible refine v_loopat (c := (.seq (.region 3 _ _) _)) ?_); (apply (v_loop2 _ _ [7, 8] [] (fun x1 x2 => [(3, .one (.d (.int .i64 x1))), (9, .one (.d (.int .i64 x2)))]) (fun x1 x2 => []) [])); exact rfl; exact rfl; exact ⟨(by repeat' (first | exact .nil | exact .nil _ | refine .cons ?_ ?_ | exact .u _ | exact SVle_pl rfl | refine .one ?_ | refine .agg ?_ | exact .d rfl | exact .ref rfl rfl | exact .sl rfl (by first | rfl | omega | (rw [List.length_append, List.length_map]; show _ + 1 = _; omega) | simp) | exact .fn _ | exact .tape | exact .nils rfl | exact .nild | exact .nildm | exact .nil | exact .rp (by simp) | exact .clo (by simp) | exact .el rfl rfl rfl | exact .d (by first | rfl | (congr 1; omega) | (congr 1; assumption) | simp) | exact .virt rfl | exact .gone _ | refine .blk rfl ?_ | exact .arr rfl (by first | rfl | assumption | simp))), (by repeat' (first | exact .nil | exact .nil _ | refine .cons ?_ ?_ | exact .u _ | exact SVle_pl rfl | refine .one ?_ | refine .agg ?_ | exact .d rfl | exact .ref rfl rfl | exact .sl rfl (by first | rfl | omega | (rw [List.length_append, List.length_map]; show _ + 1 = _; omega) | simp) | exact .fn _ | exact .tape | exact .nils rfl | exact .nild | exact .nildm | exact .nil | exact .rp (by simp) | exact .clo (by simp) | exact .el rfl rfl rfl | exact .d (by first | rfl | (congr 1; omega) | (congr 1; assumption) | simp) | exact .virt rfl | exact .gone _ | refine .blk rfl ?_ | exact .arr rfl (by first | rfl | assumption | simp)))⟩; (exact hP); clear hP; intro I μ x1 x2 hP)
    | ((with_reducible apply (v_nxt2 (a1 := _) (a2 := _))); (repeat' (first | exact .nil | exact .nil _ | refine .cons ?_ ?_ | exact .u _ | exact SVle_pl rfl | refine .one ?_ | refine .agg ?_ | exact .d rfl | exact .ref rfl rfl | exact .sl rfl (by first | rfl | exact List.length_set.symm | exact (splT_len (by simp only [List.length_take, List.length_drop]; omega)).symm | omega | (rw [List.length_append, List.length_map]; show _ + 1 = _; omega) | simp) | exact .fn _ | exact .tape | exact .nils rfl | exact .nild | exact .nildm | exact .nil | exact .rp (by simp) | exact .clo (by simp) | exact .el rfl rfl rfl | exact .d (by first | rfl | (congr 1; omega) | (congr 1; assumption) | simp) | exact .virt rfl | exact .gone _ | refine .blk rfl ?_ | exact .arr rfl (by first | rfl | assumption | simp))); (repeat' (first | exact .nil | exact .nil _ | refine .cons ?_ ?_ | exact .u _ | exact SVle_pl rfl | refine .one ?_ | refine .agg ?_ | exact .d rfl | exact .ref rfl rfl | exact .sl rfl (by first | rfl | exact List.length_set.symm | exact (splT_len (by simp only [List.length_take, List.length_drop]; omega)).symm | omega | (rw [List.length_append, List.length_map]; show _ + 1 = _; omega) | simp) | exact .fn _ | exact .tape | exact .nils rfl | exact .nild | exact .nildm | exact .nil | exact .rp (by simp) | exact .clo (by simp) | exact .el rfl rfl rfl | exact .d (by first | rfl | (congr 1; omega) | (congr 1; assumption) | simp) | exact .virt rfl | exact .gone _ | refine .blk rfl ?_ | exact .arr rfl (by first | rfl | assumption | simp))); (exact hP))
    | ((with_reducible apply v_gs); exact rfl; exact rfl; (exact hP); all_goals (clear hP; intro hg hP))
    | ((with_reducible apply v_if); exact rfl; (exact hP); all_goals (clear hP; intro hc hP)))
theorem terms_x : ∀ c : Trm, c.ok → ICt 106 [c.v] (fun v => v = iv (tmS c)) := Trm.ind fun op tx nu pr ts htx hok ih => (terms_V op tx nu pr ts (fun k hk => ih k hk) _).2 (by
  (delta terms_V; dsimp only [mkV])
  rw [show (Trm.mk op tx nu pr (ts.map Trm.row)) = _ from rfl]
  have hT : tmS ⟨op, tx, nu, pr, ts.map Trm.row⟩ = (min 61 (1 + szL ts) : Nat) := by unfold tmS; rw [Trm.tre_mk hok, Tre.size_mk, List.map_map]; rfl
  rw [hT]
  (repeat' (first | with_reducible refine brn_nd (fun h => ?_) (fun h => ?_) | with_reducible refine brn_d (fun h => ?_) (fun h => ?_) | with_reducible refine brn_nn (fun h => ?_) (fun h => ?_) | with_reducible refine brn_nb (fun h => ?_) (fun h => ?_) | with_reducible refine Brn.mk (fun h => ?_) (fun h => ?_) | with_reducible refine Chk.mk ?_ ?_ | with_reducible refine Bth.mk ?_ ?_ | with_reducible refine Fct.mk (fun hf => ?_)))
  refine up2 (fun (x : Int) z => x = ((1 + szL (ts.take z.toNat) : Nat) : Int) ∧ x ≤ 60) ?_ ?_ (fun I μ x z h0 h1 hxx nx => ?_) (fun I μ x hxx => ?_)
  · omega
  · exact ⟨rfl, by omega⟩
  · obtain ⟨hx, hx2⟩ := hxx
    have e1 : szL (ts.take (z + 1).toNat) = szL (ts.take z.toNat) + (gt ts z).tre.size := by rw [take_snocI h0 h1, szL_app]; unfold szL; simp
    have e2 : szL ts = szL (ts.take (z + 1).toNat) + szL (ts.drop (z + 1).toNat) := by rw [← szL_app, List.take_append_drop]
    have e3 : tmS (gt ts z) = (min 61 (gt ts z).tre.size : Nat) := rfl
    (repeat' (first | with_reducible refine brn_nd (fun h => ?_) (fun h => ?_) | with_reducible refine brn_d (fun h => ?_) (fun h => ?_) | with_reducible refine brn_nn (fun h => ?_) (fun h => ?_) | with_reducible refine brn_nb (fun h => ?_) (fun h => ?_) | with_reducible refine Brn.mk (fun h => ?_) (fun h => ?_) | with_reducible refine Chk.mk ?_ ?_ | with_reducible refine Bth.mk ?_ ?_ | with_reducible refine Fct.mk (fun hf => ?_)))
    · exact ⟨h0, h1⟩
    · exact gt_mem h0 h1
    · unfold InI; omega
    · refine congrArg iv ?_; omega
    · unfold InI; omega
    · exact nx _ ⟨by omega, by omega⟩
  · obtain ⟨hx, hx2⟩ := hxx
    rw [show (((ts.length : Nat) : Int)).toNat = ts.length from rfl, List.take_length] at hx
    refine congrArg iv ?_; omega)
theorem terms_ic (c : Trm) : ICp c.ok 106 [c.v] (fun v => v = iv (tmS c)) := fun h => terms_x c h
noncomputable def depth_V (op : Int) (tx : ByteArray) (nu pr : Int) (ts : List Trm) (left : Int) (ih : ∀ (k : Trm) (l' : Int), ICp (k ∈ ts ∧ 0 ≤ l' ∧ l' ≤ 100) 107 [k.v, iv l'] (fun v => v = iv (dpS k l'))) (Q : SV → Prop) : Σ' P : Prop, (P → ICt 107 [.agg [.d (.int .i64 op), .d (.str tx), .d (.int .i64 nu), .d (.int .u64 pr), .d (.list (ts.map Trm.row))], iv left] Q) := by
  apply mkV; intro hP
  refine ic_wk (K 26) Try.func107 rfl rfl rfl rfl (fun w0 => ?_)
  repeat' (first
    | ((fail_if_success (have hTest : Hld False := hP)); (have hq := chk_c hP); (replace hP := chk_p hP))
    | ((with_reducible apply j_lst); exact rfl)
    | (with_reducible (first | apply c_seq | apply c_rg | apply j_nil | apply q_n | apply c_ct | apply c_cf | apply c_bl | apply c_ex | apply c_ret | apply c_sk | apply q_r | apply q_e | apply b_r | apply b_e | apply b_n | apply n_n | apply n_r | apply n_e))
    | ((with_reducible apply (v_ldel (f := Trm.row))); exact rfl; exact rfl; exact rfl; exact rfl; (case inst => exact inferInstance); exact rfl; (first | with_reducible assumption | (apply chk_c; exact hP; (first | (guard_target = Prop; rotate_left 1) | skip))))
    | ((with_reducible apply v_lenstr); exact rfl; exact rfl; kernel_rfl)
    | ((with_reducible apply v_max); exact rfl; exact rfl; exact rfl)
    | ((with_reducible apply v_max3); exact rfl; exact rfl; exact rfl; exact rfl)
    | ((with_reducible apply c_l1); exact rfl; exact rfl)
    | ((with_reducible apply c_l2); exact rfl; exact rfl)
    | ((with_reducible apply c_l3); exact rfl)
    | ((with_reducible apply j_v); exact rfl; exact rfl)
    | ((with_reducible apply j_h); exact rfl; exact rfl)
    | ((with_reducible apply j_s); exact rfl)
    | ((with_reducible apply v_lenm); exact rfl; exact rfl; exact rfl; (exact hP); clear hP; intro hP)
    | ((with_reducible apply v_lens); exact rfl; exact rfl; exact rfl; (exact hP); clear hP; intro hP)
    | ((with_reducible apply j_len); exact rfl; exact rfl; exact rfl)
    | ((with_reducible apply j_len0); exact rfl; exact rfl; exact rfl)
    | ((with_reducible apply j_ld_el1); exact rfl; exact rfl; exact rfl; exact rfl; (first | with_reducible assumption | exact gt_row (by omega) (by omega) | exact rfl); exact rfl)
    | ((with_reducible apply j_add); exact rfl; exact rfl; exact rfl; (first | (with_reducible apply wr_i64; (first | with_reducible assumption | (apply chk_c; exact hP; (first | (guard_target = Prop; rotate_left 1) | skip)))) | exact rfl))
    | ((with_reducible apply j_sub); exact rfl; exact rfl; exact rfl; (first | (with_reducible apply wr_i64; (first | with_reducible assumption | (apply chk_c; exact hP; (first | (guard_target = Prop; rotate_left 1) | skip)))) | exact rfl))
    | ((with_reducible apply v_ia); exact rfl; exact rfl; exact rfl; exact rfl; (case inst => exact inferInstance); exact rfl; exact rfl; (first | with_reducible assumption | (apply chk_c; exact hP; (first | (guard_target = Prop; rotate_left 1) | skip))))
    | ((with_reducible apply v_iasl); exact rfl; exact rfl; exact rfl; exact rfl; (first | with_reducible assumption | (apply chk_c; exact hP; (first | (guard_target = Prop; rotate_left 1) | skip))))
    | ((with_reducible apply j_ia_ar); exact rfl; exact rfl; exact rfl; exact rfl; ((repeat ((fail_if_success (have hTest : Hld False := hP)); (have hq := chk_c hP); (replace hP := chk_p hP))); first | with_reducible assumption | (apply chk_c; exact hP; (first | (guard_target = Prop; rotate_left 1) | skip))); ((repeat ((fail_if_success (have hTest : Hld False := hP)); (have hq := chk_c hP); (replace hP := chk_p hP))); first | with_reducible assumption | (apply chk_c; exact hP; (first | (guard_target = Prop; rotate_left 1) | skip))); (first | with_reducible exact Int.toNat_natCast _ | exact rfl))
    | ((with_reducible apply c_c); exact rfl; (first | with_reducible assumption | with_reducible exact Eq.refl true | with_reducible exact Eq.refl false | (with_reducible refine not_t ?_; with_reducible assumption) | (with_reducible refine not_f ?_; with_reducible assumption) | (refine dec_t ?_; decide) | (refine dec_f ?_; decide)))
    | ((with_reducible apply b_o); exact rfl)
    | ((with_reducible apply r_g); exact rfl; (· repeat' (first | exact True.intro | refine And.intro ?_ ?_ | (show (_ : Nat) = _; (first | exact rfl | exact (List.length_map _).symm | omega | (simp only [List.length_set, List.length_map, List.length_append] <;> omega) | (simp; done))))); (exact hP.out))
    | ((with_reducible apply v_call (pu := false)); exact rfl; exact ⟨rfl, rfl⟩; (first | (apply (ih _ _); rotate_left 2)); (focus ((repeat' (first | exact .nil _ | refine PsL.cons ?_ ?_ | refine PsSL.cons ?_ ?_ | exact .one (.d _ _) | exact .one psc_nilm | exact psc_nilm | exact .one (.nil _) | exact .one (.nn _) | exact .one (.tape _) | exact .one (.fn _ _) | exact .agg (.same _ _) | refine .agg ?_ | exact .d _ _ | exact .one (.sl rfl rfl) | exact .one (.sl rfl (List.length_map _).symm) | exact .sl rfl rfl | exact .sl rfl (List.length_map _).symm | exact .same _ _)) <;> fail)); exact .inr rfl; (first | with_reducible assumption | (apply chk_c; exact hP; (first | (guard_target = Prop; rotate_left 1) | skip))))
    | ((with_reducible apply v_call (pu := true)); exact rfl; exact ⟨rfl, rfl⟩; (first | (apply (ih _ _); rotate_left 2)); (focus ((repeat' (first | exact .nil _ | refine PsL.cons ?_ ?_ | refine PsSL.cons ?_ ?_ | exact .one (.d _ _) | exact .one psc_nilm | exact psc_nilm | exact .one (.nil _) | exact .one (.nn _) | exact .one (.tape _) | exact .one (.fn _ _) | exact .agg (.same _ _) | refine .agg ?_ | exact .d _ _ | exact .one (.sl rfl rfl) | exact .one (.sl rfl (List.length_map _).symm) | exact .sl rfl rfl | exact .sl rfl (List.length_map _).symm | exact .same _ _)) <;> fail)); exact .inl rfl; (first | with_reducible assumption | (apply chk_c; exact hP; (first | (guard_target = Prop; rotate_left 1) | skip))))
    | ((with_reducible refine v_loopat (c := (.seq (.region 5 _ _) _)) ?_); (apply (v_loop2 _ _ [1, 11, 12] [] (fun x1 x2 => [(5, .one (.d (.int .i64 x1))), (13, .one (.d (.int .i64 x2)))]) (fun x1 x2 => []) [])); exact rfl; exact rfl; exact ⟨(by repeat' (first | exact .nil | exact .nil _ | refine .cons ?_ ?_ | exact .u _ | exact SVle_pl rfl | refine .one ?_ | refine .agg ?_ | exact .d rfl | exact .ref rfl rfl | exact .sl rfl (by first | rfl | omega | (rw [List.length_append, List.length_map]; show _ + 1 = _; omega) | simp) | exact .fn _ | exact .tape | exact .nils rfl | exact .nild | exact .nildm | exact .nil | exact .rp (by simp) | exact .clo (by simp) | exact .el rfl rfl rfl | exact .d (by first | rfl | (congr 1; omega) | (congr 1; assumption) | simp) | exact .virt rfl | exact .gone _ | refine .blk rfl ?_ | exact .arr rfl (by first | rfl | assumption | simp))), (by repeat' (first | exact .nil | exact .nil _ | refine .cons ?_ ?_ | exact .u _ | exact SVle_pl rfl | refine .one ?_ | refine .agg ?_ | exact .d rfl | exact .ref rfl rfl | exact .sl rfl (by first | rfl | omega | (rw [List.length_append, List.length_map]; show _ + 1 = _; omega) | simp) | exact .fn _ | exact .tape | exact .nils rfl | exact .nild | exact .nildm | exact .nil | exact .rp (by simp) | exact .clo (by simp) | exact .el rfl rfl rfl | exact .d (by first | rfl | (congr 1; omega) | (congr 1; assumption) | simp) | exact .virt rfl | exact .gone _ | refine .blk rfl ?_ | exact .arr rfl (by first | rfl | assumption | simp)))⟩; (exact hP); clear hP; intro I μ x1 x2 hP)
    | ((with_reducible apply (v_nxt2 (a1 := _) (a2 := _))); (repeat' (first | exact .nil | exact .nil _ | refine .cons ?_ ?_ | exact .u _ | exact SVle_pl rfl | refine .one ?_ | refine .agg ?_ | exact .d rfl | exact .ref rfl rfl | exact .sl rfl (by first | rfl | exact List.length_set.symm | exact (splT_len (by simp only [List.length_take, List.length_drop]; omega)).symm | omega | (rw [List.length_append, List.length_map]; show _ + 1 = _; omega) | simp) | exact .fn _ | exact .tape | exact .nils rfl | exact .nild | exact .nildm | exact .nil | exact .rp (by simp) | exact .clo (by simp) | exact .el rfl rfl rfl | exact .d (by first | rfl | (congr 1; omega) | (congr 1; assumption) | simp) | exact .virt rfl | exact .gone _ | refine .blk rfl ?_ | exact .arr rfl (by first | rfl | assumption | simp))); (repeat' (first | exact .nil | exact .nil _ | refine .cons ?_ ?_ | exact .u _ | exact SVle_pl rfl | refine .one ?_ | refine .agg ?_ | exact .d rfl | exact .ref rfl rfl | exact .sl rfl (by first | rfl | exact List.length_set.symm | exact (splT_len (by simp only [List.length_take, List.length_drop]; omega)).symm | omega | (rw [List.length_append, List.length_map]; show _ + 1 = _; omega) | simp) | exact .fn _ | exact .tape | exact .nils rfl | exact .nild | exact .nildm | exact .nil | exact .rp (by simp) | exact .clo (by simp) | exact .el rfl rfl rfl | exact .d (by first | rfl | (congr 1; omega) | (congr 1; assumption) | simp) | exact .virt rfl | exact .gone _ | refine .blk rfl ?_ | exact .arr rfl (by first | rfl | assumption | simp))); (exact hP))
    | ((with_reducible apply v_gs); exact rfl; exact rfl; (exact hP); all_goals (clear hP; intro hg hP))
    | ((with_reducible apply v_if); exact rfl; (exact hP); all_goals (clear hP; intro hc hP)))
theorem depth_x : ∀ c : Trm, c.ok → ∀ left : Int, 0 ≤ left ∧ left ≤ 100 → ICt 107 [c.v, iv left] (fun v => v = iv (dpS c left)) := Trm.ind fun op tx nu pr ts htx hok ih left hl => (depth_V op tx nu pr ts left (fun k l' hk => ih k hk.1 l' hk.2) _).2 (by
  (delta depth_V; dsimp only [mkV])
  have hT : dpS ⟨op, tx, nu, pr, ts.map Trm.row⟩ left = min ((1 + dpL ts : Nat) : Int) (left + 1) := by unfold dpS; rw [Trm.tre_mk hok, Tre.deep_mk, List.map_map]; rfl
  rw [hT]
  (repeat' (first | with_reducible refine brn_nd (fun h => ?_) (fun h => ?_) | with_reducible refine brn_d (fun h => ?_) (fun h => ?_) | with_reducible refine brn_nn (fun h => ?_) (fun h => ?_) | with_reducible refine brn_nb (fun h => ?_) (fun h => ?_) | with_reducible refine Brn.mk (fun h => ?_) (fun h => ?_) | with_reducible refine Chk.mk ?_ ?_ | with_reducible refine Bth.mk ?_ ?_ | with_reducible refine Fct.mk (fun hf => ?_)))
  · refine congrArg iv ?_; omega
  refine up2 (fun (x : Int) z => x = min ((dpL (ts.take z.toNat) : Nat) : Int) left) (by omega) (by show _ = min (0 : Int) _; omega) (fun I μ x z h0 h1 hx nx => ?_) (fun I μ x hx => ?_)
  · have e1 : dpL (ts.take (z + 1).toNat) = max (dpL (ts.take z.toNat)) (gt ts z).tre.deep := by rw [take_snocI h0 h1]; unfold dpL; simp
    have e3 : dpS (gt ts z) (left - 1) = min ((gt ts z).tre.deep : Int) (left - 1 + 1) := rfl
    (repeat' (first | with_reducible refine brn_nd (fun h => ?_) (fun h => ?_) | with_reducible refine brn_d (fun h => ?_) (fun h => ?_) | with_reducible refine brn_nn (fun h => ?_) (fun h => ?_) | with_reducible refine brn_nb (fun h => ?_) (fun h => ?_) | with_reducible refine Brn.mk (fun h => ?_) (fun h => ?_) | with_reducible refine Chk.mk ?_ ?_ | with_reducible refine Bth.mk ?_ ?_ | with_reducible refine Fct.mk (fun hf => ?_)))
    · exact ⟨h0, h1⟩
    · unfold InI; omega
    · exact ⟨gt_mem h0 h1, by omega, by omega⟩
    · unfold InI; omega
    · refine nx _ ?_; omega
  · rw [show (((ts.length : Nat) : Int)).toNat = ts.length from rfl, List.take_length] at hx
    (repeat' (first | with_reducible refine brn_nd (fun h => ?_) (fun h => ?_) | with_reducible refine brn_d (fun h => ?_) (fun h => ?_) | with_reducible refine brn_nn (fun h => ?_) (fun h => ?_) | with_reducible refine brn_nb (fun h => ?_) (fun h => ?_) | with_reducible refine Brn.mk (fun h => ?_) (fun h => ?_) | with_reducible refine Chk.mk ?_ ?_ | with_reducible refine Bth.mk ?_ ?_ | with_reducible refine Fct.mk (fun hf => ?_)))
    · unfold InI; omega
    · refine congrArg iv ?_; omega)
theorem depth_ic (c : Trm) (left : Int) : ICp (c.ok ∧ 0 ≤ left ∧ left ≤ 100) 107 [c.v, iv left] (fun v => v = iv (dpS c left)) := fun h => depth_x c h.1 left h.2
end Go.Proofs.Ytcbppkfnfbdkhaa
