/- DirectoryLeaves, shown. -/
import Derived.Test.YtoflahjlnbligaaEkLeaves
import Derived.Test.YtoflahjlnbligaaEm
set_option linter.all false
set_option maxRecDepth 20000
set_option maxHeartbeats 4000000
namespace Go.Proofs.Ytoflahjlnbligaa
open Go.RowKit Go.Shelf
theorem mem_dirS {d : Dir} {g t h : Int} : h ∈ dirS d g t ↔ (dirB d = true ∧ d.grp g = true) ∧ (0 ≤ h ∧ h < (d.kinds.length : Int)) ∧ d.edge t h g = true := by
  unfold dirS
  split
  · rename_i e
    have hh := Bool.and_eq_true_iff.1 e
    rw [mem_selN]
    simp only [hh.1, hh.2, and_assoc, true_and]
  · rename_i e
    constructor
    · intro h; cases h
    · rintro ⟨a, _⟩; exact absurd (Bool.and_eq_true_iff.2 a) e
end Go.Proofs.Ytoflahjlnbligaa
