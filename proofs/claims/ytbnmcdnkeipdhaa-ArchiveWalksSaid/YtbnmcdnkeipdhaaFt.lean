/- Archives: Is, Size, Parse, Same. -/
import Derived.Test.YtbnmcdnkeipdhaaFj
set_option linter.all false
set_option maxRecDepth 20000
set_option maxHeartbeats 4000000
namespace Go.Proofs.Ytbnmcdnkeipdhaa
open Go.RowKit Go.Shelf
noncomputable def arIs_V (b : List Int) (Q : SV → Prop) : Σ' P : Prop, (P → ICt 39 [.one (.d (.list (List.map irow_u8 b)))] Q) := by
  apply mkV; intro hP
  refine ic_wk (K 11) Try.func39 rfl rfl rfl rfl (fun w0 => ?_)
  apply (v_klist (x := 0)); exact rfl; exact hP; clear hP; intro hP
  repeat' (first
    | ((fail_if_success (have hTest : Hld False := hP)); (have hq := chk_c hP); (replace hP := chk_p hP))
    | (with_reducible (first | apply c_seq | apply c_rg | apply j_nil | apply q_n | apply c_ret))
    | ((with_reducible apply j_v); exact rfl; exact rfl)
    | ((with_reducible apply r_g); exact rfl; (· repeat' (first | exact True.intro | refine And.intro ?_ ?_)); (exact hP.out))
    | ((with_reducible apply v_call (pu := true)); exact rfl; exact ⟨rfl, rfl⟩; (apply (prs_ic _); rotate_left 1); (focus ((repeat' (first | exact .nil _ | refine PsSL.cons ?_ ?_ | exact .one (.d _ _))) <;> fail)); exact .inl rfl; (apply chk_c; exact hP; (first | skip))))
theorem arIs_ic (b : List Int) : ICp (b.length ≤ 1000000000) 39 [by_ b] (fun v => v = bv (parS b).2) := fun hl => (arIs_V b _).2 (by
  (delta arIs_V; dsimp only [mkV])
  (repeat' (first | with_reducible refine brn_nd (fun h => ?_) (fun h => ?_) | with_reducible refine brn_d (fun h => ?_) (fun h => ?_) | with_reducible refine brn_nn (fun h => ?_) (fun h => ?_) | with_reducible refine brn_nb (fun h => ?_) (fun h => ?_) | with_reducible refine Brn.mk (fun h => ?_) (fun h => ?_) | with_reducible refine Chk.mk ?_ ?_ | with_reducible refine Bth.mk ?_ ?_ | with_reducible refine Fct.mk (fun hf => ?_)))
  · exact hl
  · rfl)
theorem sumE_mem {l : List Ent} {x : Ent} (h : x ∈ l) : (x.dat.length : Int) ≤ sumE l := by
  induction l with
  | nil => cases h
  | cons a l ih =>
    have hp := sumE_pos l
    have e : sumE (a :: l) = a.dat.length + sumE l := by simp [sumE]
    rcases List.mem_cons.1 h with h | h
    · subst h; omega
    · have := ih h; omega
noncomputable def arParse_V (b : List Int) (Q : SV → Prop) : Σ' P : Prop, (P → ICt 37 [.one (.d (.list (List.map irow_u8 b)))] Q) := by
  apply mkV; intro hP
  refine ic_wk (K 17) Try.func37 rfl rfl rfl rfl (fun w0 => ?_)
  apply (v_klist (x := 0)); exact rfl; exact hP; clear hP; intro hP
  repeat' (first
    | ((fail_if_success (have hTest : Hld False := hP)); (have hq := chk_c hP); (replace hP := chk_p hP))
    | (with_reducible (first | apply c_seq | apply c_rg | apply j_nil | apply q_n | apply c_ret | apply c_sk | apply q_r))
    | ((with_reducible apply j_v); exact rfl; exact rfl)
    | ((with_reducible apply v_lenm); exact rfl; exact rfl; exact rfl; (exact hP); clear hP; intro hP)
    | ((with_reducible apply r_g); exact rfl; (· repeat' (first | exact True.intro | refine And.intro ?_ ?_)); (exact hP.out))
    | ((with_reducible apply v_call (pu := true)); exact rfl; exact ⟨rfl, rfl⟩; (apply (prs_ic _); rotate_left 1); (focus ((repeat' (first | exact .nil _ | refine PsSL.cons ?_ ?_ | exact .one (.d _ _))) <;> fail)); exact .inl rfl; (apply chk_c; exact hP; (first | skip)))
    | ((with_reducible apply v_if); exact rfl; (exact hP); all_goals (clear hP; intro hc hP)))
theorem arParse_ic (b : List Int) : ICp (b.length ≤ 1000000000) 37 [by_ b] (fun v => v = .tup [ev (if 131072 < b.length then [] else if (parS b).2 then (parS b).1 else []), iv (if 131072 < b.length then 3 else if (parS b).2 then 0 else 10)]) := fun hl => (arParse_V b _).2 (by
  (delta arParse_V; dsimp only [mkV])
  (repeat' (first | with_reducible refine brn_nd (fun h => ?_) (fun h => ?_) | with_reducible refine brn_d (fun h => ?_) (fun h => ?_) | with_reducible refine brn_nn (fun h => ?_) (fun h => ?_) | with_reducible refine brn_nb (fun h => ?_) (fun h => ?_) | with_reducible refine Brn.mk (fun h => ?_) (fun h => ?_) | with_reducible refine Chk.mk ?_ ?_ | with_reducible refine Bth.mk ?_ ?_ | with_reducible refine Fct.mk (fun hf => ?_)))
  · rw [if_pos (by omega), if_pos (by omega)]; rfl
  · exact hl
  · have h : (parS b).2 = false := by assumption
    have h9 : ¬ 131072 < b.length := by omega
    simp only [if_neg h9, h]; rfl
  · have h : (parS b).2 = true := by assumption
    have h9 : ¬ 131072 < b.length := by omega
    simp only [if_neg h9, h]; rfl)
end Go.Proofs.Ytbnmcdnkeipdhaa
