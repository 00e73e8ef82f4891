/- Directories: Check, Valid. -/
import Derived.Test.YtoflahjlnbligaaCc
set_option linter.all false
set_option maxRecDepth 20000
set_option maxHeartbeats 2000000
namespace Go.Proofs.Ytoflahjlnbligaa
open Go.RowKit Go.Shelf
theorem evOk_iff {d : Dir} {t : Int} {x : Mb} : evOk d t x = true ↔ (x.kind = 1 ∨ x.kind = 2) ∧ t ≤ x.time ∧ x.time ≤ 1099511627776 ∧ d.ex x.prin = true ∧ d.grp x.grp = true ∧ ¬ x.prin = x.grp := by
  simp [evOk, and_assoc]
theorem dirB_iff {d : Dir} : dirB d = true ↔ d.kinds.length ≤ 24 ∧ d.evs.length ≤ 120 ∧ (∀ k ∈ d.kinds, 1 ≤ k ∧ k ≤ 3) ∧ ∀ i, i < d.evs.length → evOk d (prevT d.evs i) (gt d.evs (i : Int)) = true := by
  simp [dirB, evsB, allN_iff, inB, and_assoc]
theorem prevT_succ (l : List Mb) (i : Nat) : prevT l (i + 1) = (gt l (i : Int)).time := by
  unfold prevT; rw [if_neg (by omega)]; congr 1; congr 1; omega
end Go.Proofs.Ytoflahjlnbligaa
