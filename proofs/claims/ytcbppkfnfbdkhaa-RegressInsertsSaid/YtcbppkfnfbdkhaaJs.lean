/- Regress: changes back, and where a change stands. -/
import Derived.Test.YtcbppkfnfbdkhaaJr
set_option linter.all false
set_option maxRecDepth 20000
set_option maxHeartbeats 4000000
namespace Go.Proofs.Ytcbppkfnfbdkhaa
open Go.RowKit Go.Shelf
theorem upto_congr {α : Type} {g g2 : Int → List α} {n : Int} (h : ∀ i : Int, 0 ≤ i → i < n → g i = g2 i) : upto g n = upto g2 n := by
  unfold upto
  have h' : ∀ i ∈ List.range n.toNat, g (i : Int) = g2 (i : Int) := fun i hi => h i (by omega) (by rw [List.mem_range] at hi; omega)
  generalize List.range n.toNat = m at *
  induction m with
  | nil => rfl
  | cons x m ih => rw [List.flatMap_cons, List.flatMap_cons, h' x (by simp), ih fun i hi => h' i (List.mem_cons_of_mem _ hi)]
theorem upto_nil {α : Type} {g : Int → List α} {n : Int} (h : ∀ i : Int, 0 ≤ i → i < n → g i = []) : upto g n = [] := by
  rw [upto_congr h]; unfold upto; simp
theorem chgS_nil {a b : List Rul} {kinds : List Knd} {f : List Fnd} (h : ∀ x ∈ f, ∀ s ∈ x.wh, decV a kinds x s = decV b kinds x s) : chgS a b kinds f = [] :=
  upto_nil fun i h0 h1 => upto_nil fun k k0 k1 => by unfold cgOne; rw [if_pos (h _ (gt_mem h0 h1) _ (gt_mem k0 k1))]
end Go.Proofs.Ytcbppkfnfbdkhaa
