/- strings.Join, as a contract; slices.Clone of texts. -/
import Derived.Test.YtbnmcdnkeipdhaaIh
set_option linter.all false
set_option maxRecDepth 20000
set_option maxHeartbeats 4000000
namespace Go.Proofs.Ytbnmcdnkeipdhaa
open Go.RowKit Go.Shelf
def joinB (l : List ByteArray) (s : ByteArray) : ByteArray := ⟨(Lib.join (l.map (·.data.toList)) s.data.toList).toArray⟩
abbrev sv_ (l : List ByteArray) : SV := .one (.d (.list (l.map srow)))
theorem ext_below {g : Gh} {w w' : World} (hgi : GI 26 (g.org w) g [] w) (hB : Below w.heap.size w w') : ExtC 26 g g w w' := by
  have hfut : Fut g.Rd g.Rd w w' := ⟨fun _ _ h => h, fun b o hr => hB.cell (p := ⟨b, o, none⟩) (by simpa using (hgi.rd b o hr).1)⟩
  refine ⟨fun _ _ h => h, fun _ _ h => .inl h, Keep.below hB fun k hk => .inr hk, fun tb htb => ?_⟩
  obtain ⟨h1, h2⟩ := hgi.tape tb htb
  exact h2.keep hfut ((Keep.below hB (S := fun k => w.heap.size ≤ k) fun _ h => h).block tb (by omega))
theorem join_ic (l : List ByteArray) (s : ByteArray) : ICp (l.length ≤ 1000 ∧ (joinB l s).size ≤ 1000000) 86 [sv_ l, .one (.d (.str s))] (fun v => v = .one (.d (.str (joinB l s)))) := fun hl => by
  refine ⟨enters_of Try.func86 rfl rfl, fun g w vals hβ hgi hsz hrep => ?_⟩
  obtain ⟨vl⟩ := vals
  match vl, hsz with
  | [a, b], _ =>
    have ha := (hrep 0 a _ rfl rfl).list_inv
    obtain ⟨rfl, _⟩ := (hrep 1 b _ rfl rfl).str_inv
    obtain ⟨A, cap, sz, vs, e, q0, q1, q2, q3, q4, q5⟩ := ha.list_inv
    have hlen : (l.map srow).length = l.length := List.length_map _
    rw [hlen] at e q1 q4
    subst e
    have key : ∀ (i : Nat) (x : ByteArray), l[i]? = some x → ∃ b o, A = some ⟨b, o, none⟩ ∧ b < w.heap.size ∧ w.cell? ⟨b, o + i, none⟩ = some (.string x) := fun i x hx => by
      have hi := (List.getElem?_eq_some_iff.1 hx).1
      have hrow : (l.map srow)[i]? = some (srow x) := by rw [List.getElem?_map, hx]; rfl
      have hs1 : sz = 1 := (q3 (srow x) (List.mem_of_getElem? hrow)).symm
      subst hs1
      obtain ⟨b, o, e1, e2, e3⟩ := q4 i 0 hi (by omega)
      have hr := q5 i 0 (srow x) (.str x) hrow rfl
      rw [Nat.mul_one, Nat.add_zero] at e2 e3
      refine ⟨b, o, e1, (hgi.rd b _ e2).1, ?_⟩
      rw [e3]
      cases hv : vs i 0 <;> rw [hv] at hr <;> cases hr
      rfl
    have hj : (Lib.join (l.map (·.data.toList)) s.data.toList).length = (joinB l s).size := by
      show _ = (Lib.join (l.map (·.data.toList)) s.data.toList).toArray.size
      simp
    have key2 : Calls Try.prog (rhoJ.f 156) #[.slice A l.length cap, .string s] w fun e w' => e = .returned (.string (joinB l s)) ∧ Below w.heap.size w w' := by
      cases l with
      | nil =>
        refine (Any.strings_Join_none laysJ extraJ A cap s w).mono fun e w' ⟨he, hw⟩ => ⟨he, hw ▸ Below.refl _ _⟩
      | cons x r =>
        obtain ⟨b, o, rfl, hb, _⟩ := key 0 x rfl
        refine Any.strings_Join laysJ extraJ b o cap (x :: r) s w (fun j y hy => ?_) hb (by omega) q1 (by omega)
        obtain ⟨b', o', e, _, h2⟩ := key j y hy
        injection e with e
        injection e with e1 e2
        subst e1 e2
        exact h2
    refine key2.mono ?_
    rintro e w' ⟨rfl, hB⟩
    exact ⟨_, .one (.d (.str (joinB l s))), g, rfl, rfl, rfl, .one (.d (.str _ (by have := hl.2; unfold maxLen; omega))), ext_below hgi hB⟩
def frontB : List ByteArray → ByteArray
  | [] => ⟨#[]⟩
  | x :: l => x ++ bang ++ frontB l
theorem ba_app (a b : ByteArray) : (a ++ b).data.toList = a.data.toList ++ b.data.toList := by
  rw [ByteArray.data_append]; simp
theorem ba_ext {a b : ByteArray} (h : a.data.toList = b.data.toList) : a = b := by
  have : a.data = b.data := Array.toList_inj.1 h
  cases a; cases b; simpa using this
theorem join_front (p : List ByteArray) (n : ByteArray) : joinB (p ++ [n]) bang = frontB p ++ n := by
  apply ba_ext
  rw [ba_app]
  have key : ∀ (p : List ByteArray), Lib.join ((p ++ [n]).map (·.data.toList)) bang.data.toList = (frontB p).data.toList ++ n.data.toList := fun p => by
    induction p with
    | nil => show Lib.join [n.data.toList] _ = _; rw [Lib.join_one]; rfl
    | cons x p ih =>
      have e : ((x :: p) ++ [n]).map (·.data.toList) = x.data.toList :: (p ++ [n]).map (·.data.toList) := rfl
      rw [e, Lib.join_cons, frontB, ba_app, ba_app, List.append_assoc, List.append_assoc, ← ih]
      congr 1
      cases hq : (p ++ [n]).map (·.data.toList) with
      | nil => simp at hq
      | cons y r =>
        rw [Lib.join_cons]
        simp [Lib.joinTail]
  have := key p
  show (Lib.join ((p ++ [n]).map (·.data.toList)) bang.data.toList).toArray.toList = _
  simpa using this
theorem frontB_snoc (p : List ByteArray) (n : ByteArray) : frontB (p ++ [n]) = frontB p ++ n ++ bang := by
  induction p with
  | nil => apply ba_ext; simp [frontB, ba_app]
  | cons x p ih => rw [List.cons_append, frontB, frontB, ih]; apply ba_ext; simp [ba_app]
noncomputable def CloneS_V (l : List ByteArray) (x0 : List ByteArray) : Σ' P : Prop, (P → ICl 85 [.one (.d (.list (List.map srow l)))] 9 1 (List.map srow x0)) := by
  apply mkV; intro hP
  refine ico_wk (K 8) Try.func85 rfl rfl rfl rfl (fun w0 => ?_)
  repeat' (first
    | ((fail_if_success (have hTest : Hld False := hP)); (have hq := chk_c hP); (replace hP := chk_p hP))
    | ((with_reducible apply j_lst); exact rfl)
    | (with_reducible (first | apply c_seq | apply c_rg | apply j_nil | apply q_n | apply c_ct | apply c_cf | apply c_bl | apply c_ex | apply c_ret | apply c_sk | apply q_r | apply q_e | apply b_r | apply b_e | apply b_n | apply n_n | apply n_r | apply n_e))
    | ((with_reducible apply (v_bs0 (srow))); exact rfl; exact rfl; exact rfl; exact rfl)
    | ((with_reducible apply v_eqnil); exact rfl; exact rfl; exact rfl; exact rfl; (exact hP); clear hP; intro x hx hP)
    | ((with_reducible apply c_l1); exact rfl; exact rfl)
    | ((with_reducible apply c_l2); exact rfl; exact rfl)
    | ((with_reducible apply c_l3); exact rfl)
    | ((with_reducible apply j_v); exact rfl; exact rfl)
    | ((with_reducible apply j_h); exact rfl; exact rfl)
    | ((with_reducible apply (v_ap (srow))); exact rfl; exact rfl; exact rfl; exact rfl; exact rfl; exact rfl; exact rfl; (first | exact rfl | exact row_one (srow_mk _) | exact row_nil); exact rfl; exact rfl; exact rfl; (first | (apply src_sl; exact rfl; exact rfl; exact rfl) | (apply src_sl; exact rfl; exact rfl; rw [List.length_map]; omega) | (apply src_sl; exact rfl; exact rfl; exact List.length_map _) | (apply src_nil; exact rfl) | (apply src_d; exact rfl; (intro row hrow; obtain ⟨q, _, rfl⟩ := List.mem_map.1 hrow; rfl))); (first | exact rfl | exact row_one (srow_mk _) | exact row_nil); exact rfl; exact rfl; exact rfl; (first | with_reducible assumption | (apply chk_c; exact hP; (first | (guard_target = Prop; rotate_left 1) | skip))))
    | ((with_reducible apply (v_ap0 (srow))); exact rfl; exact rfl; exact rfl; exact rfl; exact rfl; exact rfl; (first | (apply src_sl; exact rfl; exact rfl; exact rfl) | (apply src_sl; exact rfl; exact rfl; rw [List.length_map]; omega) | (apply src_sl; exact rfl; exact rfl; exact List.length_map _) | (apply src_nil; exact rfl) | (apply src_d; exact rfl; (intro row hrow; obtain ⟨q, _, rfl⟩ := List.mem_map.1 hrow; rfl))); (first | exact rfl | exact row_one (srow_mk _) | exact row_nil); exact rfl; exact rfl; exact rfl; (first | with_reducible assumption | (apply chk_c; exact hP; (first | (guard_target = Prop; rotate_left 1) | skip))))
    | ((with_reducible apply c_c); exact rfl; (first | with_reducible assumption | with_reducible exact Eq.refl true | with_reducible exact Eq.refl false | (with_reducible refine not_t ?_; with_reducible assumption) | (with_reducible refine not_f ?_; with_reducible assumption) | (refine dec_t ?_; decide) | (refine dec_f ?_; decide)))
    | ((with_reducible apply b_o); exact rfl)
    | ((with_reducible apply r_g); exact rfl; (· repeat' (first | exact True.intro | refine And.intro ?_ ?_ | (show (_ : Nat) = _; (first | exact rfl | exact (List.length_map _).symm | omega | (simp only [List.length_set, List.length_map, List.length_append] <;> omega) | (simp; done))))); (exact hP.out))
    | ((with_reducible apply o_sl); exact rfl; exact rfl; exact rfl; (first | exact rfl | exact (List.length_map _).symm | (rw [List.length_map]; omega) | omega | (simp; omega)); (exact hP.out))
    | ((with_reducible apply o_nl); exact rfl; exact rfl; (exact hP.out))
    | ((with_reducible apply v_gs); exact rfl; exact rfl; (exact hP); all_goals (clear hP; intro hg hP))
    | ((with_reducible apply v_if); exact rfl; (exact hP); all_goals (clear hP; intro hc hP)))
theorem CloneS_icq (l : List ByteArray) : ICq (l.length ≤ 1000000) 85 [sv_ l] 9 1 (List.map srow l) := fun hl => (CloneS_V l l).2 (by
  (delta CloneS_V; dsimp only [mkV])
  (repeat' (first | with_reducible refine brn_nd (fun h => ?_) (fun h => ?_) | with_reducible refine brn_d (fun h => ?_) (fun h => ?_) | with_reducible refine brn_nn (fun h => ?_) (fun h => ?_) | with_reducible refine brn_nb (fun h => ?_) (fun h => ?_) | with_reducible refine Brn.mk (fun h => ?_) (fun h => ?_) | with_reducible refine Chk.mk ?_ ?_ | with_reducible refine Bth.mk ?_ ?_ | with_reducible refine Fct.mk (fun hf => ?_)))
  intro b hb
  (repeat' (first | with_reducible refine brn_nd (fun h => ?_) (fun h => ?_) | with_reducible refine brn_d (fun h => ?_) (fun h => ?_) | with_reducible refine brn_nn (fun h => ?_) (fun h => ?_) | with_reducible refine brn_nb (fun h => ?_) (fun h => ?_) | with_reducible refine Brn.mk (fun h => ?_) (fun h => ?_) | with_reducible refine Chk.mk ?_ ?_ | with_reducible refine Bth.mk ?_ ?_ | with_reducible refine Fct.mk (fun hf => ?_)))
  · exact hb (by assumption)
  · simp; omega
  · rfl)
end Go.Proofs.Ytbnmcdnkeipdhaa
