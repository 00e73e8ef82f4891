/- Regress: changes back, and where a change stands. -/
import Derived.Test.YtcbppkfnfbdkhaaJr
set_option linter.all false
set_option maxRecDepth 20000
set_option maxHeartbeats 4000000
namespace Go.Proofs.Ytcbppkfnfbdkhaa
open Go.RowKit Go.Shelf
theorem upto_congr {α : Type} {g g2 : Int → List α} {n : Int} (h : ∀ i : Int, 0 ≤ i → i < n → g i = g2 i) : upto g n = upto g2 n := by
  unfold upto
  have h' : ∀ i ∈ List.range n.toNat, g (i : Int) = g2 (i : Int) := fun i hi => h i (by omega) (by rw [List.mem_range] at hi; omega)
  generalize List.range n.toNat = m at *
  induction m with
  | nil => rfl
  | cons x m ih => rw [List.flatMap_cons, List.flatMap_cons, h' x (by simp), ih fun i hi => h' i (List.mem_cons_of_mem _ hi)]
end Go.Proofs.Ytcbppkfnfbdkhaa
