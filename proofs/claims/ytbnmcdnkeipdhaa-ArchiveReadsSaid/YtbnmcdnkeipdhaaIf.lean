/- Archives: the entries within, shown. -/
import Derived.Test.YtbnmcdnkeipdhaaIe
set_option linter.all false
set_option maxRecDepth 20000
set_option maxHeartbeats 8000000
namespace Go.Proofs.Ytbnmcdnkeipdhaa
open Go.RowKit Go.Shelf
theorem parS_ok {b : List Int} (h : (parS b).2 = true) : valS (parS b).1 = 0 := by
  unfold parS at h ⊢
  split at h
  · rename_i e
    rw [if_pos e]
    split at h
    · cases h
    · simp only [Bool.and_eq_true, decide_eq_true_eq] at h
      exact h.2.2
  · cases h
theorem wkS_nil (d : Nat) (front : ByteArray) (out : List Ent) (size : Int) : wkS d [] front out size = (out, size, true) := by rw [wkS]
theorem wkS_facts (d : Nat) : ∀ (l : List Ent) (front : ByteArray) (out : List Ent) (size : Int), out.length ≤ 2000 → 0 ≤ size → size ≤ 65536 → (wkS d l front out size).2.2 = true → (wkS d l front out size).1.length ≤ 2000 ∧ 0 ≤ (wkS d l front out size).2.1 ∧ (wkS d l front out size).2.1 ≤ 65536 := by
  induction d using Nat.strongRecOn with
  | ind d ihd =>
    intro l
    induction l with
    | nil => intro front out size h1 h2 h3 _; rw [wkS_nil]; exact ⟨h1, h2, h3⟩
    | cons e l ihl =>
      intro front out size h1 h2 h3
      rw [wkS]
      split
      · intro h; cases h
      · rename_i hn
        split
        · rename_i hd
          split
          · rename_i hok
            obtain ⟨a1, a2, a3⟩ := ihd (d - 1) (by omega) _ _ _ _ (by simp; omega) (by omega) (by omega) hok
            exact ihl _ _ _ a1 a2 a3
          · intro h; cases h
        · exact ihl _ _ _ (by simp; omega) (by omega) (by omega)
theorem drop_hdE {l : List Ent} {i : Nat} (h : i < l.length) : l.drop i = gt l (i : Int) :: l.drop (i + 1) := by
  rw [List.drop_eq_getElem_cons h, gt_nat h]
theorem wkS_cons (d : Nat) (front : ByteArray) (out : List Ent) (size : Int) {l' l : List Ent} {e : Ent} (h : l' = e :: l) : wkS d l' front out size = if 65536 < size + e.dat.length ∨ 2000 < out.length + 1 then ([], size + e.dat.length, false)
    else if 1 < d ∧ (parS e.dat).2 = true then
      if (wkS (d - 1) (parS e.dat).1 (front ++ e.nm ++ bang) (out ++ [⟨front ++ e.nm, e.dat⟩]) (size + e.dat.length)).2.2 = true then
        wkS d l front (wkS (d - 1) (parS e.dat).1 (front ++ e.nm ++ bang) (out ++ [⟨front ++ e.nm, e.dat⟩]) (size + e.dat.length)).1 (wkS (d - 1) (parS e.dat).1 (front ++ e.nm ++ bang) (out ++ [⟨front ++ e.nm, e.dat⟩]) (size + e.dat.length)).2.1
      else ([], (wkS (d - 1) (parS e.dat).1 (front ++ e.nm ++ bang) (out ++ [⟨front ++ e.nm, e.dat⟩]) (size + e.dat.length)).2.1, false)
    else wkS d l front (out ++ [⟨front ++ e.nm, e.dat⟩]) (size + e.dat.length) := by
  subst h
  rw [wkS]
  split
  · rfl
  · split <;> rfl
theorem ins_x (n : Nat) : ∀ (l : List Ent) (front : ByteArray) (dep : Int) (out : List Ent) (size : Int), dep.toNat ≤ n → ICa (InsP l front dep out size) 72 [ev l, .one (.d (.str front)), iv dep, .one (.sl 0 (List.length out) 2), iv size] 63 2 (List.map Ent.row out) (.tup [.one (.sl 0 (List.length (wkS dep.toNat l front out size).1) 2), iv (wkS dep.toNat l front out size).2.1, bv (wkS dep.toNat l front out size).2.2]) (List.map Ent.row (wkS dep.toNat l front out size).1) := by
  induction n with
  | zero =>
    intro l front dep out size hd hp
    obtain ⟨_, _, _, h, _⟩ := hp
    omega
  | succ n ih =>
    intro l front dep out size hd hp
    refine (ins_V l front dep out size (wkS dep.toNat l front out size).1 (.int .i64 (wkS dep.toNat l front out size).2.1) (.bool (wkS dep.toNat l front out size).2.2) (fun l' front' dep' out' size' hp' => ih l' front' dep' out' size' (by omega) hp'.2)).2 ?_
    obtain ⟨p1, p2, p3, p4, p5, p6, p7, p8⟩ := hp
    (delta ins_V; dsimp only [mkV])
    (repeat' (first | with_reducible refine brn_nd (fun h => ?_) (fun h => ?_) | with_reducible refine brn_d (fun h => ?_) (fun h => ?_) | with_reducible refine brn_nn (fun h => ?_) (fun h => ?_) | with_reducible refine brn_nb (fun h => ?_) (fun h => ?_) | with_reducible refine Brn.mk (fun h => ?_) (fun h => ?_) | with_reducible refine Chk.mk ?_ ?_ | with_reducible refine Bth.mk ?_ ?_ | with_reducible refine Fct.mk (fun hf => ?_)))
    refine lp3 (fun o sz z => ∃ i : Nat, z = i ∧ i ≤ l.length ∧ wkS dep.toNat (l.drop i) front o sz = wkS dep.toNat l front out size ∧ o.length ≤ 2000 ∧ 0 ≤ sz ∧ sz ≤ 65536) (fun _ _ z => ((l.length : Int) - z).toNat) ⟨0, rfl, Nat.zero_le _, rfl, p8, p6, p7⟩ ?_
    rintro I μ nx o sz z ⟨i, rfl, hi, hw, ho, s0, s1⟩
    have hg := fun (h : (i : Int) < l.length) => p2 _ (gt_mem (by omega) h)
    have hu := fun (h : (i : Int) < l.length) => wkS_cons dep.toNat front o sz (drop_hdE (l := l) (i := i) (by omega))
    have hfs := fun (h : (i : Int) < l.length) => (show (front ++ (gt l i).nm).size = front.size + (gt l i).nm.size from ByteArray.size_append)
    (repeat' (first | with_reducible refine brn_nd (fun h => ?_) (fun h => ?_) | with_reducible refine brn_d (fun h => ?_) (fun h => ?_) | with_reducible refine brn_nn (fun h => ?_) (fun h => ?_) | with_reducible refine brn_nb (fun h => ?_) (fun h => ?_) | with_reducible refine Brn.mk (fun h => ?_) (fun h => ?_) | with_reducible refine Chk.mk ?_ ?_ | with_reducible refine Bth.mk ?_ ?_ | with_reducible refine Fct.mk (fun hf => ?_)))
    all_goals first | omega | (have := hg (by omega); omega) | (have := hg (by omega); unfold InI; omega) | (unfold InI; omega) | skip
    · simp only [List.length_singleton]; omega
    · have hu1 := hu (by omega)
      rw [if_pos (.inl (by omega))] at hu1
      rw [← hw, hu1]; exact ⟨rfl, rfl, rfl⟩
    · have hu1 := hu (by omega)
      have hl1 : 2000 < ((o ++ [Ent.mk (front ++ (gt l i).nm) (gt l i).dat]).length : Int) := by assumption
      rw [List.length_append, List.length_singleton] at hl1
      rw [if_pos (.inr (by omega))] at hu1
      rw [← hw, hu1]; exact ⟨rfl, rfl, rfl⟩
    · have hl1 : ¬ 2000 < ((o ++ [Ent.mk (front ++ (gt l i).nm) (gt l i).dat]).length : Int) := by assumption
      rw [List.length_append, List.length_singleton] at hl1
      have hlt : (i : Int) < l.length := by assumption
      have hu1 := hu hlt
      have hg1 := hg hlt
      have hf1 := hfs hlt
      rw [if_neg (by omega)] at hu1
      intro x hφ
      cases hpk : (parS (gt l i).dat).2 with
      | false =>
        rw [if_neg (by rw [hpk]; simp)] at hu1
        refine Brn.mk (fun h => by cases h) (fun _ => ?_)
        (repeat' (first | with_reducible refine brn_nd (fun h => ?_) (fun h => ?_) | with_reducible refine brn_d (fun h => ?_) (fun h => ?_) | with_reducible refine brn_nn (fun h => ?_) (fun h => ?_) | with_reducible refine brn_nb (fun h => ?_) (fun h => ?_) | with_reducible refine Brn.mk (fun h => ?_) (fun h => ?_) | with_reducible refine Chk.mk ?_ ?_ | with_reducible refine Bth.mk ?_ ?_ | with_reducible refine Fct.mk (fun hf => ?_)))
        · unfold InI; omega
        · exact nx _ _ _ _ _ _ ⟨i, rfl, hi, hw, ho, s0, s1⟩ ⟨i + 1, by omega, by omega, by rw [← hw, hu1], by simp; omega, by omega, by omega⟩ (by omega)
      | true =>
        have hx := hφ hpk
        subst hx
        have hd1 : (dep - 1).toNat = dep.toNat - 1 := by omega
        obtain ⟨v1, v2, v3, v4⟩ := valS_ok (parS_ok hpk)
        rw [if_pos ⟨by omega, hpk⟩, ← hd1] at hu1
        have hbs : (⟨#[33]⟩ : ByteArray).size = 1 := rfl
        have hfb := ByteArray.size_append (a := front ++ (gt l i).nm) (b := ⟨#[33]⟩)
        have hfc := wkS_facts (dep - 1).toNat (parS (gt l i).dat).1 (front ++ (gt l i).nm ++ bang) (o ++ [⟨front ++ (gt l i).nm, (gt l i).dat⟩]) (sz + (gt l i).dat.length) (by simp; omega) (by omega) (by omega)
        rw [show bang = ⟨#[33]⟩ from rfl] at hu1 hfc
        refine Brn.mk (fun _ => ?_) (fun h => by cases h)
        (repeat' (first | with_reducible refine brn_nd (fun h => ?_) (fun h => ?_) | with_reducible refine brn_d (fun h => ?_) (fun h => ?_) | with_reducible refine brn_nn (fun h => ?_) (fun h => ?_) | with_reducible refine brn_nb (fun h => ?_) (fun h => ?_) | with_reducible refine Brn.mk (fun h => ?_) (fun h => ?_) | with_reducible refine Chk.mk ?_ ?_ | with_reducible refine Bth.mk ?_ ?_ | with_reducible refine Fct.mk (fun hf => ?_)))
        · omega
        · unfold InI; omega
        · exact ⟨by omega, by omega, fun y hy => by have := v4 y hy; omega, by omega, by omega, by omega, by omega, by omega, by simp; omega⟩
        · rw [if_neg (by simp_all)] at hu1
          rw [← hw, hu1]; exact ⟨rfl, rfl, rfl⟩
        · unfold InI; omega
        · rw [if_pos (by simp_all)] at hu1
          obtain ⟨q1, q2, q3⟩ := hfc (by simp_all)
          exact nx _ _ _ _ _ _ ⟨i, rfl, hi, hw, ho, s0, s1⟩ ⟨i + 1, by omega, by omega, by rw [← hw, hu1], q1, q2, q3⟩ (by omega)
    · have hl1 : ¬ 2000 < ((o ++ [Ent.mk (front ++ (gt l i).nm) (gt l i).dat]).length : Int) := by assumption
      rw [List.length_append, List.length_singleton] at hl1
      have hlt : (i : Int) < l.length := by assumption
      have hu1 := hu hlt
      rw [if_neg (by omega), if_neg (by omega)] at hu1
      exact nx _ _ _ _ _ _ ⟨i, rfl, hi, hw, ho, s0, s1⟩ ⟨i + 1, by omega, by omega, by rw [← hw, hu1], by simp; omega, by omega, by omega⟩ (by omega)
    · have he : l.drop i = [] := List.drop_eq_nil_of_le (by omega)
      rw [← hw, he, wkS_nil]; exact ⟨rfl, rfl, rfl⟩
theorem ins_ica (l : List Ent) (front : ByteArray) (dep : Int) (out : List Ent) (size : Int) : ICa (InsP l front dep out size) 72 [ev l, .one (.d (.str front)), iv dep, .one (.sl 0 (List.length out) 2), iv size] 63 2 (List.map Ent.row out) (.tup [.one (.sl 0 (List.length (wkS dep.toNat l front out size).1) 2), iv (wkS dep.toNat l front out size).2.1, bv (wkS dep.toNat l front out size).2.2]) (List.map Ent.row (wkS dep.toNat l front out size).1) := ins_x dep.toNat l front dep out size (Nat.le_refl _)
noncomputable def rWalk_V (b : List Int) (Q : SV → Prop) : Σ' P : Prop, (P → ICt 47 [.one (.d (.list (List.map irow_u8 b)))] Q) := by
  apply mkV; intro hP
  refine ic_wk (K 26) Try.func47 rfl rfl rfl rfl (fun w0 => ?_)
  apply (v_klist (x := 0)); exact rfl; exact hP; clear hP; intro hP
  repeat' (first
    | ((fail_if_success (have hTest : Hld False := hP)); (have hq := chk_c hP); (replace hP := chk_p hP))
    | ((with_reducible apply j_lst); exact rfl)
    | (with_reducible (first | apply c_seq | apply c_rg | apply j_nil | apply q_n | apply c_ct | apply c_cf | apply c_bl | apply c_ex | apply c_ret | apply c_sk | apply q_r | apply q_e | apply b_r | apply b_e | apply b_n | apply n_n | apply n_r | apply n_e))
    | ((with_reducible apply c_l1); exact rfl; exact rfl)
    | ((with_reducible apply c_l2); exact rfl; exact rfl)
    | ((with_reducible apply c_l3); exact rfl)
    | ((with_reducible apply j_v); exact rfl; exact rfl)
    | ((with_reducible apply c_c); exact rfl; (first | with_reducible assumption | with_reducible exact Eq.refl true | with_reducible exact Eq.refl false | (with_reducible refine not_t ?_; with_reducible assumption) | (with_reducible refine not_f ?_; with_reducible assumption) | (refine dec_t ?_; decide) | (refine dec_f ?_; decide)))
    | ((with_reducible apply b_o); exact rfl)
    | ((with_reducible apply r_g); exact rfl; (· repeat' (first | exact True.intro | refine And.intro ?_ ?_ | (show (_ : Nat) = _; (first | exact rfl | exact (List.length_map _).symm | omega | (simp only [List.length_set, List.length_map, List.length_append] <;> omega) | (simp; done))))); (exact hP.out))
    | ((with_reducible apply v_call (pu := true)); exact rfl; exact ⟨rfl, rfl⟩; (first | (apply (rParse_ic _); rotate_left 1)); (focus ((repeat' (first | exact .nil _ | refine PsL.cons ?_ ?_ | refine PsSL.cons ?_ ?_ | exact .one (.d _ _) | exact .one psc_nilm | exact psc_nilm | exact .one (.nil _) | exact .one (.nn _) | exact .one (.tape _) | exact .one (.fn _ _) | exact .agg (.same _ _) | refine .agg ?_ | exact .d _ _ | exact .one (.sl rfl rfl) | exact .one (.sl rfl (List.length_map _).symm) | exact .sl rfl rfl | exact .sl rfl (List.length_map _).symm | exact .same _ _)) <;> fail)); exact .inl rfl; (first | with_reducible assumption | (apply chk_c; exact hP; (first | (guard_target = Prop; rotate_left 1) | skip))))
    | ((with_reducible apply (v_calla30 (d := 19))); exact rfl; exact ⟨rfl, rfl⟩; apply (ins_ica _ _ _ [] _); rotate_left 4; (focus ((repeat' (first | exact ArgN.nil | refine ArgN.nz rfl rfl rfl ?_ | refine ArgN.nm rfl rfl rfl ?_ | refine ArgN.pl ?_ rfl ?_ | exact .nil _ | refine PsL.cons ?_ ?_ | refine PsSL.cons ?_ ?_ | exact .one (.d _ _) | exact .one psc_nilm | exact psc_nilm | exact .one (.nil _) | exact .one (.nn _) | exact .one (.tape _) | exact .one (.fn _ _) | exact .agg (.same _ _) | refine .agg ?_ | exact .d _ _ | exact .one (.sl rfl rfl) | exact .one (.sl rfl (List.length_map _).symm) | exact .sl rfl rfl | exact .sl rfl (List.length_map _).symm | exact .same _ _)) <;> fail)); exact rfl; (first | with_reducible assumption | (apply chk_c; exact hP; (first | (guard_target = Prop; rotate_left 1) | skip))))
    | ((with_reducible apply v_gs); exact rfl; exact rfl; (exact hP); all_goals (clear hP; intro hg hP))
    | ((with_reducible apply v_if); exact rfl; (exact hP); all_goals (clear hP; intro hc hP)))
end Go.Proofs.Ytbnmcdnkeipdhaa
