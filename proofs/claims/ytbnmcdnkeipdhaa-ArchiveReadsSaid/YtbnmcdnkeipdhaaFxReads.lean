/- Archives: the law ArchiveReads, shown. -/
import Derived.Test.YtbnmcdnkeipdhaaFvReads
set_option linter.all false
set_option maxRecDepth 20000
set_option maxHeartbeats 4000000
namespace Go.Proofs.Ytbnmcdnkeipdhaa
open Go.RowKit Go.Shelf
theorem and65535 (x : Int) : 0 ≤ bits .and .i64 x 65535 ∧ bits .and .i64 x 65535 ≤ 65535 := by
  have h0 : bits .and .i64 x 65535 = IntKind.i64.wrap ((BitVec.ofInt 64 x &&& BitVec.ofInt 64 65535).toNat : Int) := rfl
  have h1 : (BitVec.ofInt 64 x &&& BitVec.ofInt 64 65535).toNat ≤ 65535 := by
    rw [BitVec.toNat_and]
    exact Nat.le_trans Nat.and_le_right (by decide)
  rw [h0, Go.IntWalk.i64_in _ (by omega)]
  omega
theorem sameS_refl (l : List Ent) : sameS l l = true := decide_eq_true rfl
theorem reads_il (tape : List Int) (raw : List Int) (at_ by8 : Int) : ILt 13 [lv tape, by_ raw, iv at_, .one (.d (.int .u8 by8))] := (lawReads_V tape raw at_ by8).2 (by
  (delta lawReads_V; dsimp only [mkV])
  (repeat' (first | with_reducible refine brn_nd (fun h => ?_) (fun h => ?_) | with_reducible refine brn_d (fun h => ?_) (fun h => ?_) | with_reducible refine brn_nn (fun h => ?_) (fun h => ?_) | with_reducible refine brn_nb (fun h => ?_) (fun h => ?_) | with_reducible refine Brn.mk (fun h => ?_) (fun h => ?_) | with_reducible refine Chk.mk ?_ ?_ | with_reducible refine Bth.mk ?_ ?_ | with_reducible refine Fct.mk (fun hf => ?_)))
  · omega
  intro n hn
  (repeat' (first | with_reducible refine brn_nd (fun h => ?_) (fun h => ?_) | with_reducible refine brn_d (fun h => ?_) (fun h => ?_) | with_reducible refine brn_nn (fun h => ?_) (fun h => ?_) | with_reducible refine brn_nb (fun h => ?_) (fun h => ?_) | with_reducible refine Brn.mk (fun h => ?_) (fun h => ?_) | with_reducible refine Chk.mk ?_ ?_ | with_reducible refine Bth.mk ?_ ?_ | with_reducible refine Fct.mk (fun hf => ?_)))
  · omega
  rintro own ⟨h1, h2⟩
  have hlim : nstL n ≤ 11000 := by unfold nstL; omega
  have ha := and65535 at_
  rw [List.nil_append, List.length_map]
  have hm := Int.tmod_lt_of_pos (bits .and .i64 at_ 65535) (show (0 : Int) < own.length by omega)
  have hm0 := Int.tmod_nonneg (own.length : Int) ha.1
  (repeat' (first | with_reducible refine brn_nd (fun h => ?_) (fun h => ?_) | with_reducible refine brn_d (fun h => ?_) (fun h => ?_) | with_reducible refine brn_nn (fun h => ?_) (fun h => ?_) | with_reducible refine brn_nb (fun h => ?_) (fun h => ?_) | with_reducible refine Brn.mk (fun h => ?_) (fun h => ?_) | with_reducible refine Chk.mk ?_ ?_ | with_reducible refine Bth.mk ?_ ?_ | with_reducible refine Fct.mk (fun hf => ?_)))
  all_goals (try simp only [List.length_nil, List.length_singleton])
  all_goals (try first | omega | (unfold InI; omega))
  refine lp1 (fun z => 0 ≤ z ∧ z ≤ 5) (fun z => (5 - z).toNat) ⟨by omega, by omega⟩ ?_
  rintro I μ nx z ⟨z0, z1⟩
  generalize hL : gt (_ : List (List Int)) z = y
  have h5 : (([raw, own, own.set ((bits BinOp.and IntKind.i64 at_ 65535).tmod own.length).toNat by8, own ++ [0], List.take ((own.length : Int) - 1).toNat own] : List (List Int)).length : Int) = 5 := rfl
  rw [show (if 131072 < y.length then (3 : Int) else if (parS y).2 = true then 0 else 10) = parE y from rfl, show (if 131072 < y.length then ([] : List Ent) else if (parS y).2 = true then (parS y).1 else []) = parL y from rfl, sameS_refl, sameS_refl]
  (repeat' (first | with_reducible refine brn_nd (fun h => ?_) (fun h => ?_) | with_reducible refine brn_d (fun h => ?_) (fun h => ?_) | with_reducible refine brn_nn (fun h => ?_) (fun h => ?_) | with_reducible refine brn_nb (fun h => ?_) (fun h => ?_) | with_reducible refine Brn.mk (fun h => ?_) (fun h => ?_) | with_reducible refine Chk.mk ?_ ?_ | with_reducible refine Bth.mk ?_ ?_ | with_reducible refine Fct.mk (fun hf => ?_)))
  all_goals first | exact True.intro | omega | (unfold InI; omega) | exact nx _ _ ⟨z0, z1⟩ ⟨by omega, by omega⟩ (by omega) | rfl | (exfalso; simp_all; done) | trace_state)
end Go.Proofs.Ytbnmcdnkeipdhaa
