/- Archives: archives in archives, shown. -/
import Derived.Test.YtbnmcdnkeipdhaaIm
set_option linter.all false
set_option maxRecDepth 20000
set_option maxHeartbeats 4000000
namespace Go.Proofs.Ytbnmcdnkeipdhaa
open Go.RowKit Go.Shelf
def szE (q : List Ent) : Int := (q.map fun x => (5 + (x.nm.size : Int) + (x.dat.length : Int))).sum
theorem szE_cons (x : Ent) (q : List Ent) : szE (x :: q) = 5 + (x.nm.size : Int) + (x.dat.length : Int) + szE q := by unfold szE; rw [List.map_cons, List.sum_cons]
theorem fm_le (q : List Ent) : ((q.flatMap encE).length : Int) ≤ szE q := by
  induction q with
  | nil => simp [szE]
  | cons x q ih =>
    have := encE_len x
    rw [List.flatMap_cons, List.length_append, szE_cons]
    omega
theorem fmtB_len (l : List Ent) : 5 ≤ (fmtB l).length ∧ ((fmtB l).length : Int) ≤ 5 + szE l := by
  have := fm_le l
  unfold fmtB
  simp only [List.length_append, List.length_cons, List.length_nil]
  omega
end Go.Proofs.Ytbnmcdnkeipdhaa
