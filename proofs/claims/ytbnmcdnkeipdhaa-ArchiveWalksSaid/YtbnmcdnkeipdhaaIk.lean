/- Archives: the walker, shown. -/
import Derived.Test.YtbnmcdnkeipdhaaIj
set_option linter.all false
set_option maxRecDepth 20000
set_option maxHeartbeats 8000000
namespace Go.Proofs.Ytbnmcdnkeipdhaa
open Go.RowKit Go.Shelf
theorem wkA_nil (path : List ByteArray) (out : List Ent) (left : Int) : wkA [] path out left = (out, left, true) := by rw [wkA]
theorem wkA_cons (path : List ByteArray) (out : List Ent) (left : Int) {l' l : List Ent} {e : Ent} (h : l' = e :: l) : wkA l' path out left = if left - e.dat.length < 0 ∨ out.length = 2000 then (out, left - e.dat.length, false)
    else if path.length + 1 < 3 ∧ (parS e.dat).2 = true then
      if (wkA (parS e.dat).1 (path ++ [e.nm]) (out ++ [⟨joinB (path ++ [e.nm]) bang, e.dat⟩]) (left - e.dat.length)).2.2 = true then
        wkA l path (wkA (parS e.dat).1 (path ++ [e.nm]) (out ++ [⟨joinB (path ++ [e.nm]) bang, e.dat⟩]) (left - e.dat.length)).1 (wkA (parS e.dat).1 (path ++ [e.nm]) (out ++ [⟨joinB (path ++ [e.nm]) bang, e.dat⟩]) (left - e.dat.length)).2.1
      else ((wkA (parS e.dat).1 (path ++ [e.nm]) (out ++ [⟨joinB (path ++ [e.nm]) bang, e.dat⟩]) (left - e.dat.length)).1, (wkA (parS e.dat).1 (path ++ [e.nm]) (out ++ [⟨joinB (path ++ [e.nm]) bang, e.dat⟩]) (left - e.dat.length)).2.1, false)
    else wkA l path (out ++ [⟨joinB (path ++ [e.nm]) bang, e.dat⟩]) (left - e.dat.length) := by
  subst h
  rw [wkA]
  split
  · rfl
  · split <;> rfl
theorem wkA_facts (d : Nat) : ∀ (path : List ByteArray), 3 - path.length = d → ∀ (l : List Ent) (out : List Ent) (left : Int), out.length ≤ 2000 → 0 ≤ left → left ≤ 65536 → (wkA l path out left).2.2 = true → (wkA l path out left).1.length ≤ 2000 ∧ 0 ≤ (wkA l path out left).2.1 ∧ (wkA l path out left).2.1 ≤ 65536 := by
  induction d using Nat.strongRecOn with
  | ind d ihd =>
    intro path hp l
    induction l with
    | nil => intro out left h1 h2 h3 _; rw [wkA_nil]; exact ⟨h1, h2, h3⟩
    | cons e l ihl =>
      intro out left h1 h2 h3
      rw [wkA_cons path out left rfl]
      split
      · intro h; cases h
      · rename_i hn
        split
        · rename_i hd
          split
          · rename_i hok
            obtain ⟨a1, a2, a3⟩ := ihd (3 - (path ++ [e.nm]).length) (by simp; omega) _ rfl _ _ _ (by simp; omega) (by omega) (by omega) hok
            exact ihl _ _ a1 a2 a3
          · intro h; cases h
        · exact ihl _ _ (by simp; omega) (by omega) (by omega)
theorem frontB_size {p : List ByteArray} (h : ∀ x ∈ p, x.size ≤ 1000) : (frontB p).size ≤ 1001 * p.length := by
  induction p with
  | nil => exact Nat.le_refl _
  | cons x p ih =>
    have h1 := h x List.mem_cons_self
    have h2 := ih fun y hy => h y (List.mem_cons_of_mem _ hy)
    rw [frontB, ByteArray.size_append, ByteArray.size_append, List.length_cons, show bang.size = 1 from rfl]
    omega
theorem walk_x (n : Nat) : ∀ (out : List Ent) (left : Int) (l : List Ent) (outer : List ByteArray), 3 - outer.length ≤ n → ICw (WkP l outer out left) 70 [.one (.ref 0 0), ev l, sv_ outer] 92 [.sl 1 (List.length out) 2, .d (.int .i64 left)] 63 2 (List.map Ent.row out) (bv (wkA l outer out left).2.2) [.sl 1 (List.length (wkA l outer out left).1) 2, .d (.int .i64 (wkA l outer out left).2.1)] (List.map Ent.row (wkA l outer out left).1) := by
  induction n with
  | zero =>
    intro out left l outer hd hp
    obtain ⟨_, _, h, _⟩ := hp
    omega
  | succ n ih =>
    intro out left l outer hd hp
    refine (walk_V out left l outer (wkA l outer out left).1 (wkA l outer out left).2.1 (.bool (wkA l outer out left).2.2) (fun out' left' l' outer' hp' => ih out' left' l' outer' (by omega) hp'.2)).2 ?_
    obtain ⟨p1, p2, p3, p4, p5, p6, p7⟩ := hp
    (delta walk_V; dsimp only [mkV])
    (repeat' (first | with_reducible refine brn_nd (fun h => ?_) (fun h => ?_) | with_reducible refine brn_d (fun h => ?_) (fun h => ?_) | with_reducible refine brn_nn (fun h => ?_) (fun h => ?_) | with_reducible refine brn_nb (fun h => ?_) (fun h => ?_) | with_reducible refine Brn.mk (fun h => ?_) (fun h => ?_) | with_reducible refine Chk.mk ?_ ?_ | with_reducible refine Bth.mk ?_ ?_ | with_reducible refine Fct.mk (fun hf => ?_)))
    refine lp3 (fun o lf z => ∃ i : Nat, z = i ∧ i ≤ l.length ∧ wkA (l.drop i) outer o lf = wkA l outer out left ∧ o.length ≤ 2000 ∧ 0 ≤ lf ∧ lf ≤ 65536) (fun _ _ z => ((l.length : Int) - z).toNat) ⟨0, rfl, Nat.zero_le _, rfl, p7, p5, p6⟩ ?_
    rintro I μ nx o lf z ⟨i, rfl, hi, hw, ho, s0, s1⟩
    have hg := fun (h : (i : Int) < l.length) => p2 _ (gt_mem (by omega) h)
    have hu := fun (h : (i : Int) < l.length) => wkA_cons outer o lf (drop_hdE (l := l) (i := i) (by omega))
    have hfr := frontB_size p4
    have hjs := fun (h : (i : Int) < l.length) => (show (joinB (outer ++ [(gt l i).nm]) bang).size = (frontB outer).size + (gt l i).nm.size by rw [join_front, ByteArray.size_append])
    (repeat' (first | with_reducible refine brn_nd (fun h => ?_) (fun h => ?_) | with_reducible refine brn_d (fun h => ?_) (fun h => ?_) | with_reducible refine brn_nn (fun h => ?_) (fun h => ?_) | with_reducible refine brn_nb (fun h => ?_) (fun h => ?_) | with_reducible refine Brn.mk (fun h => ?_) (fun h => ?_) | with_reducible refine Chk.mk ?_ ?_ | with_reducible refine Bth.mk ?_ ?_ | with_reducible refine Fct.mk (fun hf => ?_)))
    all_goals first | omega | (have := hg (by omega); omega) | (have := hg (by omega); unfold InI; omega) | (unfold InI; omega) | skip
    · simp; omega
    · have hu1 := hu (by assumption)
      rw [if_pos (.inl (by assumption))] at hu1
      rw [← hw, hu1]; exact ⟨rfl, rfl, rfl⟩
    · have hu1 := hu (by assumption)
      rw [if_pos (.inr (by omega))] at hu1
      rw [← hw, hu1]; exact ⟨rfl, rfl, rfl⟩
    · have hlt : (i : Int) < l.length := by assumption
      have h1 := hjs hlt
      have h2 := hg hlt
      rw [show bang = ⟨#[33]⟩ from rfl] at h1
      refine ⟨by simp; omega, by rw [h1]; omega⟩
    · simp; omega
    all_goals (have hol : (outer ++ [(gt l (i : Int)).nm]).length = outer.length + 1 := by simp)
    · have hu1 := hu (by assumption)
      rw [if_neg (by omega), if_neg (by omega)] at hu1
      exact nx _ _ _ _ _ _ ⟨i, rfl, hi, hw, ho, s0, s1⟩ ⟨i + 1, by omega, by omega, by rw [← hw, hu1]; rfl, by simp; omega, by omega, by have := hg (by assumption); omega⟩ (by omega)
    · have hlt : (i : Int) < l.length := by assumption
      have h2 := hg hlt
      obtain ⟨v1, v2, v3, v4⟩ := valS_ok (parS_ok (by assumption : (parS (gt l i).dat).2 = true))
      refine ⟨by omega, by omega, fun y hy => by have := v4 y hy; omega, by omega, fun y hy => ?_, by omega, by omega, by simp; omega⟩
      rcases List.mem_append.1 hy with hy | hy
      · exact p4 y hy
      · rw [List.mem_singleton] at hy; subst hy; exact h2.1
    · have hu1 := hu (by assumption)
      rw [if_neg (by omega), if_pos ⟨by omega, by assumption⟩, show bang = ⟨#[33]⟩ from rfl, if_neg (by simp_all)] at hu1
      rw [← hw, hu1]; exact ⟨rfl, rfl, rfl⟩
    · have hlt : (i : Int) < l.length := by assumption
      have h2 := hg hlt
      have hu1 := hu hlt
      rw [if_neg (by omega), if_pos ⟨by omega, by assumption⟩, show bang = ⟨#[33]⟩ from rfl, if_pos (by simp_all)] at hu1
      obtain ⟨q1, q2, q3⟩ := wkA_facts _ (outer ++ [(gt l (i : Int)).nm]) rfl (parS (gt l i).dat).1 (o ++ [⟨joinB (outer ++ [(gt l (i : Int)).nm]) ⟨#[33]⟩, (gt l i).dat⟩]) (lf - (gt l i).dat.length) (by simp; omega) (by omega) (by omega) (by simp_all)
      exact nx _ _ _ _ _ _ ⟨i, rfl, hi, hw, ho, s0, s1⟩ ⟨i + 1, by omega, by omega, by rw [← hw, hu1], q1, q2, q3⟩ (by omega)
    · have hu1 := hu (by assumption)
      rw [if_neg (by omega), if_neg (by simp_all)] at hu1
      exact nx _ _ _ _ _ _ ⟨i, rfl, hi, hw, ho, s0, s1⟩ ⟨i + 1, by omega, by omega, by rw [← hw, hu1]; rfl, by simp; omega, by omega, by have := hg (by assumption); omega⟩ (by omega)
    · have he : l.drop i = [] := List.drop_eq_nil_of_le (by omega)
      rw [← hw, he, wkA_nil]; exact ⟨rfl, rfl, rfl⟩
theorem walk_icw (out : List Ent) (left : Int) (l : List Ent) (outer : List ByteArray) : ICw (WkP l outer out left) 70 [.one (.ref 0 0), ev l, sv_ outer] 92 [.sl 1 (List.length out) 2, .d (.int .i64 left)] 63 2 (List.map Ent.row out) (bv (wkA l outer out left).2.2) [.sl 1 (List.length (wkA l outer out left).1) 2, .d (.int .i64 (wkA l outer out left).2.1)] (List.map Ent.row (wkA l outer out left).1) := walk_x _ out left l outer (Nat.le_refl _)
noncomputable def aWalk_V (b : List Int) (Q : SV → Prop) : Σ' P : Prop, (P → ICt 41 [.one (.d (.list (List.map irow_u8 b)))] Q) := by
  apply mkV; intro hP
  refine ic_wk (K 25) Try.func41 rfl rfl rfl rfl (fun w0 => ?_)
  apply (v_klist (x := 0)); exact rfl; exact hP; clear hP; intro hP
  repeat' (first
    | ((fail_if_success (have hTest : Hld False := hP)); (have hq := chk_c hP); (replace hP := chk_p hP))
    | ((with_reducible apply j_lst); exact rfl)
    | (with_reducible (first | apply c_seq | apply c_rg | apply j_nil | apply q_n | apply c_ct | apply c_cf | apply c_bl | apply c_ex | apply c_ret | apply c_sk | apply q_r | apply q_e | apply b_r | apply b_e | apply b_n | apply n_n | apply n_r | apply n_e))
    | ((with_reducible apply c_l1); exact rfl; exact rfl)
    | ((with_reducible apply c_l2); exact rfl; exact rfl)
    | ((with_reducible apply c_l3); exact rfl)
    | ((with_reducible apply j_v); exact rfl; exact rfl)
    | ((with_reducible apply j_h); exact rfl; exact rfl)
    | ((with_reducible apply c_c); exact rfl; (first | with_reducible assumption | with_reducible exact Eq.refl true | with_reducible exact Eq.refl false | (with_reducible refine not_t ?_; with_reducible assumption) | (with_reducible refine not_f ?_; with_reducible assumption) | (refine dec_t ?_; decide) | (refine dec_f ?_; decide)))
    | ((with_reducible apply b_o); exact rfl)
    | ((with_reducible apply r_g); exact rfl; (· repeat' (first | exact True.intro | refine And.intro ?_ ?_ | (show (_ : Nat) = _; (first | exact rfl | exact (List.length_map _).symm | omega | (simp only [List.length_set, List.length_map, List.length_append] <;> omega) | (simp; done))))); (exact hP.out))
    | ((with_reducible apply v_call (pu := true)); exact rfl; exact ⟨rfl, rfl⟩; (first | (apply (arParse_ic _); rotate_left 1)); (focus ((repeat' (first | exact .nil _ | refine PsL.cons ?_ ?_ | refine PsSL.cons ?_ ?_ | exact .one (.d _ _) | exact .one psc_nilm | exact psc_nilm | exact .one (.nil _) | exact .one (.nn _) | exact .one (.tape _) | exact .one (.fn _ _) | exact .agg (.same _ _) | refine .agg ?_ | exact .d _ _ | exact .one (.sl rfl rfl) | exact .one (.sl rfl (List.length_map _).symm) | exact .sl rfl rfl | exact .sl rfl (List.length_map _).symm | exact .same _ _)) <;> fail)); exact .inl rfl; (first | with_reducible assumption | (apply chk_c; exact hP; (first | (guard_target = Prop; rotate_left 1) | skip))))
    | ((with_reducible apply (v_callw0 (d := 19) 16)); exact rfl; exact ⟨rfl, rfl⟩; exact rfl; exact rfl; apply (walk_icw [] _ _ _); rotate_left 3; exact rfl; exact rfl; exact rfl; (focus ((repeat' (first | exact ArgN.nil | refine ArgN.nz rfl rfl rfl ?_ | refine ArgN.nm rfl rfl rfl ?_ | refine ArgN.pl ?_ rfl ?_ | exact .nil _ | refine PsL.cons ?_ ?_ | refine PsSL.cons ?_ ?_ | exact .one (.d _ _) | exact .one psc_nilm | exact psc_nilm | exact .one (.nil _) | exact .one (.nn _) | exact .one (.tape _) | exact .one (.fn _ _) | exact .agg (.same _ _) | refine .agg ?_ | exact .d _ _ | exact .one (.sl rfl rfl) | exact .one (.sl rfl (List.length_map _).symm) | exact .sl rfl rfl | exact .sl rfl (List.length_map _).symm | exact .same _ _)) <;> fail)); exact rfl; exact rfl; exact rfl; (first | with_reducible assumption | (apply chk_c; exact hP; (first | (guard_target = Prop; rotate_left 1) | skip))))
    | ((with_reducible apply v_gs); exact rfl; exact rfl; (exact hP); all_goals (clear hP; intro hg hP))
    | ((with_reducible apply v_if); exact rfl; (exact hP); all_goals (clear hP; intro hc hP)))
end Go.Proofs.Ytbnmcdnkeipdhaa
