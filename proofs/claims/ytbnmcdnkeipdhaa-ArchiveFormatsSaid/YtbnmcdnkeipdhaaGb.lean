/- Archives: entries made. -/
import Derived.Test.YtbnmcdnkeipdhaaGa
import Derived.Test.YtbnmcdnkeipdhaaLb4
import Derived.Test.YtbnmcdnkeipdhaaFj
set_option linter.all false
set_option maxRecDepth 20000
set_option maxHeartbeats 4000000
namespace Go.Proofs.Ytbnmcdnkeipdhaa
open Go.RowKit Go.Shelf
noncomputable def Ents_V (n : Int) (Q : SV → Prop) : Σ' P : Prop, (P → ICt 29 [.one .tape, .one (.d (.int .i64 n))] Q) := by
  apply mkV; intro hP
  refine ic_wk (K 56) Try.func29 rfl rfl rfl rfl (fun w0 => ?_)
  apply (v_kint (x := 1)); exact rfl; exact hP; clear hP; intro hP
  repeat' (first
    | ((apply (v_fzl (o := ⟨some 53, _, _, _, _, _⟩) 19)); exact rfl; exact rfl; exact rfl; (· repeat' (first | exact True.intro | refine And.intro ?_ ?_ | (show (_ : Nat) = _; (first | exact (List.length_map _).symm)))))
    | ((fail_if_success (have hTest : Hld False := hP)); (have hq := chk_c hP); (replace hP := chk_p hP))
    | (with_reducible (first | apply c_seq | apply c_rg | apply j_nil | apply q_n | apply c_bl | apply c_ex | apply c_ret | apply c_sk | apply q_e | apply b_e | apply b_n | apply n_n | apply n_e))
    | ((with_reducible apply v_cat); exact rfl; kernel_rfl; exact rfl; exact rfl; (apply chk_c; exact hP; (first | skip)))
    | ((with_reducible apply (v_make irow_u8 ((0 : Int)))); exact rfl; exact rfl; exact rfl; exact rfl; exact rfl; exact rfl; exact rfl; exact rfl; exact rfl; exact rfl; exact rfl; exact rfl; (apply chk_c; exact hP; (first | skip)))
    | ((with_reducible apply j_v); exact rfl; exact rfl)
    | ((with_reducible apply (v_bsf (d := 53) (Ent.row))); exact rfl; exact rfl; (focus (repeat' (first | exact row_nil | apply row_cons | exact Ent.row_mk _ _))); exact rfl; exact rfl)
    | ((with_reducible apply v_lens); exact rfl; exact rfl; exact rfl; (exact hP); clear hP; intro hP)
    | ((with_reducible apply j_add); exact rfl; exact rfl; exact rfl; (with_reducible apply wr_i64; (apply chk_c; exact hP; (first | skip))))
    | ((with_reducible apply j_sub); exact rfl; exact rfl; exact rfl; (with_reducible apply wr_i64; (apply chk_c; exact hP; (first | skip))))
    | ((with_reducible apply v_iasl); exact rfl; exact rfl; exact rfl; exact rfl; (apply chk_c; exact hP; (first | skip)))
    | ((apply (v_ste (f := irow_u8))); exact rfl; exact rfl; (case inst => exact inferInstance); exact rfl; exact rfl; exact rfl; exact rfl; exact rfl; exact congrArg some (irow_u8_mk _); (first | with_reducible assumption))
    | ((with_reducible apply (v_ap (irow_u8))); exact rfl; exact rfl; exact rfl; exact rfl; exact rfl; exact rfl; exact rfl; (first | exact rfl); exact rfl; exact rfl; exact rfl; (apply src_sl; exact rfl; exact rfl; exact List.length_map _); (first | exact rfl); exact rfl; exact rfl; exact rfl; (apply chk_c; exact hP; (first | skip)))
    | ((with_reducible apply (v_ap (Ent.row))); exact rfl; exact rfl; exact rfl; exact rfl; exact rfl; exact rfl; exact rfl; (first | exact rfl); exact rfl; exact rfl; exact rfl; (apply src_d; exact rfl; (intro row hrow; obtain ⟨q, _, rfl⟩ := List.mem_map.1 hrow; rfl)); (first | exact rfl); exact rfl; exact rfl; exact rfl; (apply chk_c; exact hP; (first | skip)))
    | ((with_reducible apply r_g); exact rfl; (· repeat' (first | exact True.intro | refine And.intro ?_ ?_ | (show (_ : Nat) = _; (first | exact (List.length_map _).symm)))); (exact hP.out))
    | ((with_reducible apply v_coln); exact rfl; exact ⟨rfl, rfl⟩; (apply (BytesO_ndo _); rotate_left 1); (focus ((repeat' (first | exact .nil _ | refine PsSL.cons ?_ ?_ | exact .one (.d _ _) | exact .one (.tape _))) <;> fail)); exact (fun _ => rfl); exact rfl; (exact hP); clear hP; intro x hx hP)
    | ((with_reducible apply v_ndp (pu := false)); exact rfl; exact ⟨rfl, rfl⟩; (apply (next_nd _); rotate_left 1); (focus ((repeat' (first | exact .nil _ | refine PsSL.cons ?_ ?_ | exact .one (.d _ _) | exact .one (.tape _))) <;> fail)); exact .inr (fun _ => rfl); (exact hP); clear hP; intro x hx hP)
    | ((with_reducible apply v_call (pu := true)); exact rfl; exact ⟨rfl, rfl⟩; (apply (numb_ic _); rotate_left 1); (focus ((repeat' (first | exact .nil _ | refine PsSL.cons ?_ ?_ | exact .one (.d _ _))) <;> fail)); exact .inl rfl; (apply chk_c; exact hP; (first | skip)))
    | ((with_reducible refine v_loopat (c := (.seq (.seq (.region 3 _ _) _) _)) ?_); (apply (v_loop2 [] _ [0, 1] [] (fun x1 x2 => [(5, .one (.sl 205 (List.length x1) 2)), (6, .one (.d (.int .i64 x2)))]) (fun x1 x2 => [(205, .arr 63 2 (List.map Ent.row x1))]) [205])); exact rfl; exact rfl; (focus (refine ⟨?_, ?_⟩; rotate_left 1; (focus (repeat' (first | exact .nil | refine .cons ?_ ?_ | exact .virt rfl))); (focus (repeat' (first | exact .nil | refine .cons ?_ ?_ | exact SVle_pl rfl | refine .one ?_ | exact .tape | exact .nils rfl))))); (exact hP); clear hP; intro I μ x1 x2 hP)
    | ((with_reducible apply (v_nxt2 (a1 := _) (a2 := _))); rotate_left 1; (focus (repeat' (first | exact .nil | refine .cons ?_ ?_ | exact .arr rfl (by first | rfl | assumption | simp)))); rotate_right 1; (focus (repeat' (first | exact .nil | refine .cons ?_ ?_ | exact SVle_pl rfl | refine .one ?_ | exact .sl rfl (by first | rfl | exact List.length_set.symm | exact (splT_len (by simp only [List.length_take, List.length_drop]; omega)).symm | omega | (rw [List.length_append, List.length_map]; show _ + 1 = _; omega) | simp) | exact .tape))); (exact hP))
    | ((with_reducible refine v_loopat (c := (.seq (.seq (.region 7 _ _) _) _)) ?_); (apply (v_loop2 _ _ [0, 1, 5, 6] [205] (fun x1 x2 => [(7, .one (.sl 19 (List.length x1) 1)), (8, .one (.d (.int .i64 x2)))]) (fun x1 x2 => [(19, .arr 5 1 (List.map irow_u8 x1))]) [])); exact rfl; exact rfl; (focus (refine ⟨?_, ?_⟩; rotate_left 1; (focus (repeat' (first | exact .nil | refine .cons ?_ ?_ | exact .arr rfl (by first | rfl | assumption | simp)))); (focus (repeat' (first | exact .nil | refine .cons ?_ ?_ | exact SVle_pl rfl | refine .one ?_ | exact .sl rfl (by first | rfl | exact List.length_set.symm | exact (splT_len (by simp only [List.length_take, List.length_drop]; omega)).symm | omega | (rw [List.length_append, List.length_map]; show _ + 1 = _; omega) | simp) | exact .tape))))); (exact hP); clear hP; intro I μ x1 x2 hP)
    | ((with_reducible refine v_loopat (c := (.seq (.seq (.region 11 _ _) _) _)) ?_); (apply (v_loop2 _ _ [0, 1, 5, 6, 7, 8] [19, 205] (fun x1 x2 => [(9, .one (.sl 28 (List.length x1) 1)), (10, .one (.d (.int .i64 x2)))]) (fun x1 x2 => [(28, .arr 5 1 (List.map irow_u8 x1))]) [])); exact rfl; exact rfl; (focus (refine ⟨?_, ?_⟩; rotate_left 1; (focus (repeat' (first | exact .nil | refine .cons ?_ ?_ | exact .arr rfl (by first | rfl | assumption | simp)))); (focus (repeat' (first | exact .nil | refine .cons ?_ ?_ | exact SVle_pl rfl | refine .one ?_ | exact .sl rfl (by first | rfl | exact List.length_set.symm | exact (splT_len (by simp only [List.length_take, List.length_drop]; omega)).symm | omega | (rw [List.length_append, List.length_map]; show _ + 1 = _; omega) | simp) | exact .tape))))); (exact hP); clear hP; intro I μ x1 x2 hP)
    | ((with_reducible apply v_if); exact rfl; (exact hP); all_goals (clear hP; intro hc hP)))
def nmF (i : Nat) : ByteArray := ⟨#[102]⟩ ++ bsI [48 + (i : Int)]
def EntP (l : List Ent) : Prop := (∀ i : Nat, i < l.length → (gt l (i : Int)).nm = nmF i) ∧ ∀ x ∈ l, x.dat.length ≤ 700 ∧ InB x.dat
theorem EntP_snoc {l : List Ent} (h : EntP l) (d : List Int) (h1 : d.length ≤ 700) (h2 : InB d) {z : Int} (hz : (l.length : Int) = z) : EntP (l ++ [⟨⟨#[102]⟩ ++ bsI [48 + z], d⟩]) := by
  subst hz
  refine ⟨fun i hi => ?_, fun x hx => ?_⟩
  · rw [List.length_append, List.length_singleton] at hi
    rw [gt_nat (by simp; omega)]
    by_cases e : i < l.length
    · rw [List.getElem_append_left e, ← gt_nat e]; exact h.1 i e
    · obtain rfl : i = l.length := by omega
      simp [nmF]
  · rcases List.mem_append.1 hx with hx | hx
    · exact h.2 x hx
    · rw [List.mem_singleton] at hx; subst hx; exact ⟨h1, h2⟩
theorem InB_appd {a b : List Int} (ha : InB a) (hb : InB b) : InB (a ++ b) := fun z hz => by
  rcases List.mem_append.1 hz with h | h
  · exact ha z h
  · exact hb z h
theorem Ents_nd (n : Int) : ICp (0 ≤ n ∧ n ≤ 9) 29 [.one .tape, iv n] (ND (fun l : List Ent => (l.length : Int) = n ∧ EntP l) ev) := fun hn => (Ents_V n _).2 (by
  (delta Ents_V; dsimp only [mkV])
  (repeat' (first | with_reducible refine brn_nd (fun h => ?_) (fun h => ?_) | with_reducible refine brn_d (fun h => ?_) (fun h => ?_) | with_reducible refine brn_nn (fun h => ?_) (fun h => ?_) | with_reducible refine brn_nb (fun h => ?_) (fun h => ?_) | with_reducible refine Brn.mk (fun h => ?_) (fun h => ?_) | with_reducible refine Chk.mk ?_ ?_ | with_reducible refine Bth.mk ?_ ?_ | with_reducible refine Fct.mk (fun hf => ?_)))
  refine up2 (fun l z => (l.length : Int) = z ∧ EntP l) (by omega) ⟨rfl, fun i hi => absurd hi (by simp), fun x hx => by cases hx⟩ (fun I μ l z h0 h1 ⟨hl, he⟩ nx => ?_) (fun I μ l hj => ⟨l, hj, rfl⟩)
  (repeat' (first | with_reducible refine brn_nd (fun h => ?_) (fun h => ?_) | with_reducible refine brn_d (fun h => ?_) (fun h => ?_) | with_reducible refine brn_nn (fun h => ?_) (fun h => ?_) | with_reducible refine brn_nb (fun h => ?_) (fun h => ?_) | with_reducible refine Brn.mk (fun h => ?_) (fun h => ?_) | with_reducible refine Chk.mk ?_ ?_ | with_reducible refine Bth.mk ?_ ?_ | with_reducible refine Fct.mk (fun hf => ?_)))
  · omega
  intro a ha
  (repeat' (first | with_reducible refine brn_nd (fun h => ?_) (fun h => ?_) | with_reducible refine brn_d (fun h => ?_) (fun h => ?_) | with_reducible refine brn_nn (fun h => ?_) (fun h => ?_) | with_reducible refine brn_nb (fun h => ?_) (fun h => ?_) | with_reducible refine Brn.mk (fun h => ?_) (fun h => ?_) | with_reducible refine Chk.mk ?_ ?_ | with_reducible refine Bth.mk ?_ ?_ | with_reducible refine Fct.mk (fun hf => ?_)))
  · omega
  rintro b ⟨hb1, hb2⟩
  (repeat' (first | with_reducible refine brn_nd (fun h => ?_) (fun h => ?_) | with_reducible refine brn_d (fun h => ?_) (fun h => ?_) | with_reducible refine brn_nn (fun h => ?_) (fun h => ?_) | with_reducible refine brn_nb (fun h => ?_) (fun h => ?_) | with_reducible refine Brn.mk (fun h => ?_) (fun h => ?_) | with_reducible refine Chk.mk ?_ ?_ | with_reducible refine Bth.mk ?_ ?_ | with_reducible refine Fct.mk (fun hf => ?_)))
  · omega
  intro c hc
  refine lp2 (fun b k => InB b ∧ 0 ≤ k ∧ (b.length : Int) + 303 * k ≤ 640) (fun _ k => k.toNat) ⟨hb2, by omega, by omega⟩ ?_
  rintro I1 μ1 nx1 b k ⟨j0, j1, j2⟩
  (repeat' (first | with_reducible refine brn_nd (fun h => ?_) (fun h => ?_) | with_reducible refine brn_d (fun h => ?_) (fun h => ?_) | with_reducible refine brn_nn (fun h => ?_) (fun h => ?_) | with_reducible refine brn_nb (fun h => ?_) (fun h => ?_) | with_reducible refine Brn.mk (fun h => ?_) (fun h => ?_) | with_reducible refine Chk.mk ?_ ?_ | with_reducible refine Bth.mk ?_ ?_ | with_reducible refine Fct.mk (fun hf => ?_)))
  · omega
  · intro m hm
    (repeat' (first | with_reducible refine brn_nd (fun h => ?_) (fun h => ?_) | with_reducible refine brn_d (fun h => ?_) (fun h => ?_) | with_reducible refine brn_nn (fun h => ?_) (fun h => ?_) | with_reducible refine brn_nb (fun h => ?_) (fun h => ?_) | with_reducible refine Brn.mk (fun h => ?_) (fun h => ?_) | with_reducible refine Chk.mk ?_ ?_ | with_reducible refine Bth.mk ?_ ?_ | with_reducible refine Fct.mk (fun hf => ?_)))
    · omega
    refine lp2 (fun r z => 0 ≤ z ∧ InB r ∧ r.length = m.toNat) (fun _ z => (m - z).toNat) ⟨by omega, fun z hz => by rw [(List.mem_replicate.1 hz).2]; omega, by simp⟩ ?_
    rintro I2 μ2 nx2 r q ⟨q0, q1, q2⟩
    (repeat' (first | with_reducible refine brn_nd (fun h => ?_) (fun h => ?_) | with_reducible refine brn_d (fun h => ?_) (fun h => ?_) | with_reducible refine brn_nn (fun h => ?_) (fun h => ?_) | with_reducible refine brn_nb (fun h => ?_) (fun h => ?_) | with_reducible refine Brn.mk (fun h => ?_) (fun h => ?_) | with_reducible refine Chk.mk ?_ ?_ | with_reducible refine Bth.mk ?_ ?_ | with_reducible refine Fct.mk (fun hf => ?_)))
    · omega
    · unfold InI; omega
    · refine nx2 _ _ _ _ ⟨q0, q1, q2⟩ ⟨by omega, fun z hz => ?_, by rw [List.length_set]; exact q2⟩ (by omega)
      rcases List.mem_or_eq_of_mem_set hz with h | h
      · exact q1 z h
      · subst h; omega
    · omega
    · omega
    intro t ht
    (repeat' (first | with_reducible refine brn_nd (fun h => ?_) (fun h => ?_) | with_reducible refine brn_d (fun h => ?_) (fun h => ?_) | with_reducible refine brn_nn (fun h => ?_) (fun h => ?_) | with_reducible refine brn_nb (fun h => ?_) (fun h => ?_) | with_reducible refine Brn.mk (fun h => ?_) (fun h => ?_) | with_reducible refine Chk.mk ?_ ?_ | with_reducible refine Bth.mk ?_ ?_ | with_reducible refine Fct.mk (fun hf => ?_)))
    · omega
    rintro u ⟨hu1, hu2⟩
    (repeat' (first | with_reducible refine brn_nd (fun h => ?_) (fun h => ?_) | with_reducible refine brn_d (fun h => ?_) (fun h => ?_) | with_reducible refine brn_nn (fun h => ?_) (fun h => ?_) | with_reducible refine brn_nb (fun h => ?_) (fun h => ?_) | with_reducible refine Brn.mk (fun h => ?_) (fun h => ?_) | with_reducible refine Chk.mk ?_ ?_ | with_reducible refine Bth.mk ?_ ?_ | with_reducible refine Fct.mk (fun hf => ?_)))
    · rw [List.length_append]; omega
    · unfold InI; omega
    · refine nx1 _ _ _ _ ⟨j0, j1, j2⟩ ⟨InB_appd (InB_appd j0 q1) hu2, by omega, ?_⟩ (by omega)
      rw [List.length_append, List.length_append]; omega
  · omega
  · rw [bsI_size]; show (1 : Nat) + 1 ≤ _; omega
  · simp only [List.length_singleton]; omega
  · unfold InI; omega
  · exact nx _ ⟨by rw [List.length_append, List.length_singleton]; omega, EntP_snoc he _ (by omega) j0 hl⟩)
end Go.Proofs.Ytbnmcdnkeipdhaa
