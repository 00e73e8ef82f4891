/- Makers: Estate, Few. -/
import Derived.Test.YtoflahjlnbligaaCp
set_option linter.all false
set_option maxRecDepth 20000
set_option maxHeartbeats 4000000
namespace Go.Proofs.Ytoflahjlnbligaa
open Go.RowKit Go.Shelf
noncomputable def Few_V (n : Int) (k : Int) (Q : SV → Prop) : Σ' P : Prop, (P → ICt 33 [.one .tape, .one (.d (.int .i64 n)), .one (.d (.int .i64 k))] Q) := by
  apply mkV; intro hP
  refine ic_wk (K 25) Try.func33 rfl rfl rfl rfl (fun w0 => ?_)
  apply (v_kint (x := 1)); exact rfl; exact hP; clear hP; intro hP
  apply (v_kint (x := 2)); exact rfl; exact hP; clear hP; intro hP
  repeat' (first
    | ((fail_if_success (have hTest : Hld False := hP)); (have hq := chk_c hP); (replace hP := chk_p hP))
    | (with_reducible (first | apply c_seq | apply c_rg | apply j_nil | apply q_n | apply c_bl | apply c_ex | apply c_ret | apply c_sk | apply q_e | apply b_e | apply b_n | apply n_n | apply n_e))
    | ((with_reducible apply j_v); exact rfl; exact rfl)
    | ((with_reducible apply (v_bsf (d := 22) (irow))); exact rfl; exact rfl; exact (row_cons (irow_mk _) row_nil); exact rfl; exact rfl)
    | ((with_reducible apply j_add); exact rfl; exact rfl; exact rfl; (with_reducible apply wr_i64; (apply chk_c; exact hP; (first | skip))))
    | ((with_reducible apply j_sub); exact rfl; exact rfl; exact rfl; (with_reducible apply wr_i64; (apply chk_c; exact hP; (first | skip))))
    | ((with_reducible apply (v_ap (irow))); exact rfl; exact rfl; exact rfl; exact rfl; exact rfl; exact rfl; exact rfl; (first | exact rfl); exact rfl; exact rfl; exact rfl; (apply src_d; exact rfl; (intro row hrow; obtain ⟨q, _, rfl⟩ := List.mem_map.1 hrow; rfl)); (first | exact rfl); exact rfl; exact rfl; exact rfl; (apply chk_c; exact hP; (first | skip)))
    | ((with_reducible apply r_g); exact rfl; (· repeat' (first | exact True.intro | refine And.intro ?_ ?_ | (show (_ : Nat) = _; (first | exact (List.length_map _).symm)))); (exact hP.out))
    | ((with_reducible apply v_ndp (pu := false)); exact rfl; exact ⟨rfl, rfl⟩; (apply (next_nd _); rotate_left 1); (focus ((repeat' (first | exact .nil _ | refine PsSL.cons ?_ ?_ | exact .one (.d _ _) | exact .one (.tape _))) <;> fail)); exact .inr (fun _ => rfl); (exact hP); clear hP; intro x hx hP)
    | ((with_reducible refine v_loopat (c := (.seq (.seq (.region 3 _ _) _) _)) ?_); (apply (v_loop2 [] _ [0, 1, 2] [] (fun x1 x2 => [(7, .one (.sl 207 (List.length x1) 1)), (8, .one (.d (.int .i64 x2)))]) (fun x1 x2 => [(207, .arr 3 1 (List.map irow x1))]) [207])); exact rfl; exact rfl; (focus (refine ⟨?_, ?_⟩; rotate_left 1; (focus (repeat' (first | exact .nil | refine .cons ?_ ?_ | exact .virt rfl))); (focus (repeat' (first | exact .nil | refine .cons ?_ ?_ | exact SVle_pl rfl | refine .one ?_ | exact .tape | exact .nils rfl))))); (exact hP); clear hP; intro I μ x1 x2 hP)
    | ((with_reducible apply (v_nxt2 (a1 := _) (a2 := _))); rotate_left 1; (focus (repeat' (first | exact .nil | refine .cons ?_ ?_ | exact .arr rfl (by first | rfl | assumption | simp)))); rotate_right 1; (focus (repeat' (first | exact .nil | refine .cons ?_ ?_ | exact SVle_pl rfl | refine .one ?_ | exact .sl rfl (by first | rfl | exact List.length_set.symm | exact (splT_len (by simp only [List.length_take, List.length_drop]; omega)).symm | omega | (rw [List.length_append, List.length_map]; show _ + 1 = _; omega) | simp) | exact .tape))); (exact hP))
    | ((with_reducible apply v_if); exact rfl; (exact hP); all_goals (clear hP; intro hc hP)))
theorem Few_nd (n k : Int) : ICp (0 ≤ n ∧ n ≤ 1000 ∧ 1 ≤ k ∧ k ≤ 65536) 33 [.one .tape, iv n, iv k] (ND (fun l : List Int => (l.length : Int) ≤ n) lv) := fun hn => (Few_V n k _).2 (by
  (delta Few_V; dsimp only [mkV])
  (repeat' (first | with_reducible refine brn_nd (fun h => ?_) (fun h => ?_) | with_reducible refine brn_d (fun h => ?_) (fun h => ?_) | with_reducible refine brn_nn (fun h => ?_) (fun h => ?_) | with_reducible refine brn_nb (fun h => ?_) (fun h => ?_) | with_reducible refine Brn.mk (fun h => ?_) (fun h => ?_) | with_reducible refine Chk.mk ?_ ?_ | with_reducible refine Bth.mk ?_ ?_ | with_reducible refine Fct.mk (fun hf => ?_)))
  refine up2 (fun o z => (o.length : Int) ≤ z) (by omega) (by simp) ?_ ?_
  · intro I μ o z h0 h1 hj nx
    (repeat' (first | with_reducible refine brn_nd (fun h => ?_) (fun h => ?_) | with_reducible refine brn_d (fun h => ?_) (fun h => ?_) | with_reducible refine brn_nn (fun h => ?_) (fun h => ?_) | with_reducible refine brn_nb (fun h => ?_) (fun h => ?_) | with_reducible refine Brn.mk (fun h => ?_) (fun h => ?_) | with_reducible refine Chk.mk ?_ ?_ | with_reducible refine Bth.mk ?_ ?_ | with_reducible refine Fct.mk (fun hf => ?_)))
    · omega
    intro x hx
    (repeat' (first | with_reducible refine brn_nd (fun h => ?_) (fun h => ?_) | with_reducible refine brn_d (fun h => ?_) (fun h => ?_) | with_reducible refine brn_nn (fun h => ?_) (fun h => ?_) | with_reducible refine brn_nb (fun h => ?_) (fun h => ?_) | with_reducible refine Brn.mk (fun h => ?_) (fun h => ?_) | with_reducible refine Chk.mk ?_ ?_ | with_reducible refine Bth.mk ?_ ?_ | with_reducible refine Fct.mk (fun hf => ?_)))
    all_goals (first | omega | (unfold InI; omega) | (simp; omega) | skip)
    · exact nx _ (by simp; omega)
    · exact nx _ (by omega)
  · intro I μ o hj
    exact ⟨o, hj, rfl⟩)
structure EstOk (a : Est) : Prop where
  v : estB a = true
  n : 1 ≤ a.places ∧ a.places ≤ 4 ∧ a.evs.length ≤ 16
  c : ∀ x ∈ a.evs, x.kind = 5 ∨ x.kind = 6 → x.cont ≤ 2
structure EsJ (pl : Int) (evs : List Acc) (b : Int) : Prop where
  s : ∀ i : Nat, i < evs.length → aevOk ⟨pl, []⟩ (prevA evs i) (gt evs (i : Int)) = true
  l : prevA evs evs.length ≤ b
  c : ∀ x ∈ evs, x.kind = 5 ∨ x.kind = 6 → x.cont ≤ 2
theorem prevA_app {a : List Acc} {x : Acc} {i : Nat} (h : i ≤ a.length) : prevA (a ++ [x]) i = prevA a i := by
  unfold prevA
  split
  · rfl
  · rw [gt_app_l (by omega) (by omega)]
theorem EsJ.snoc {pl : Int} {evs : List Acc} {b : Int} (h : EsJ pl evs b) {x : Acc} (hb : b ≤ x.time) (ht : x.time ≤ 1099511627776) (hx : accP ⟨pl, []⟩ x) (hc : x.kind = 5 ∨ x.kind = 6 → x.cont ≤ 2) : EsJ pl (evs ++ [x]) x.time := by
  refine ⟨fun i hi => ?_, ?_, fun y hy => ?_⟩
  · simp only [List.length_append, List.length_singleton] at hi
    rw [prevA_app (by omega)]
    by_cases e : i < evs.length
    · rw [gt_app_l (by omega) (by omega)]; exact h.s i e
    · obtain rfl : i = evs.length := by omega
      rw [gt_app_r]
      have := h.l
      exact aevOk_iff.2 ⟨by omega, ht, decide_eq_true hx⟩
  · rw [List.length_append, List.length_singleton, prevA_succ, gt_app_r]; exact Int.le_refl _
  · rcases List.mem_append.1 hy with hy | hy
    · exact h.c y hy
    · simp at hy; subst hy; exact hc
theorem EsJ.mono {pl : Int} {evs : List Acc} {b c : Int} (h : EsJ pl evs b) (hb : b ≤ c) : EsJ pl evs c := ⟨h.s, Int.le_trans h.l hb, h.c⟩
end Go.Proofs.Ytoflahjlnbligaa
