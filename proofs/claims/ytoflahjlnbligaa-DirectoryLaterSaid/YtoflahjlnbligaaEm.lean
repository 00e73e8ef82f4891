/- Directories: plain laws. -/
import Derived.Test.YtoflahjlnbligaaEj
set_option linter.all false
set_option maxRecDepth 20000
set_option maxHeartbeats 4000000
namespace Go.Proofs.Ytoflahjlnbligaa
open Go.RowKit Go.Shelf
theorem rch_in {d : Dir} {t p q : Int} (hp : d.ex p = true) (h : Rch (atT d t) p q) : 0 ≤ q ∧ q < (d.kinds.length : Int) := by
  cases h with
  | refl => exact ex_iff.1 hp
  | step h g0 g1 hg => exact ⟨g0, by rw [atT_len] at g1; exact g1⟩
theorem rch_step {d : Dir} {t p q g : Int} (h : Rch (atT d t) p q) (hq : 0 ≤ q ∧ q < (d.kinds.length : Int)) (hg : 0 ≤ g ∧ g < (d.kinds.length : Int)) (he : d.edge t q g = true) : Rch (atT d t) p g :=
  .step h hg.1 (by rw [atT_len]; exact hg.2) (by rw [atT_cell hq.1 hq.2 hg.1 hg.2]; exact he)
theorem grp_ex {d : Dir} {g : Int} (h : d.grp g = true) : d.ex g = true := by simp [Dir.grp] at h; exact h.1
theorem mem_memS {d : Dir} {g t q : Int} : q ∈ memS d g t ↔ (dirB d = true ∧ d.grp g = true) ∧ (0 ≤ q ∧ q < (d.kinds.length : Int)) ∧ d.grp q = false ∧ Rch (atT d t) q g := by
  unfold memS
  split
  · rename_i h
    have hh := Bool.and_eq_true_iff.1 h
    have hg := ex_iff.1 (grp_ex hh.2)
    rw [mem_selN, Bool.and_eq_true, upS_iff hg.1 (by rw [atT_len]; exact hg.2)]
    simp only [Bool.not_eq_true', hh.1, hh.2, and_assoc, true_and]
  · rename_i h
    constructor
    · intro h; cases h
    · rintro ⟨a, _⟩; exact absurd (Bool.and_eq_true_iff.2 a) h
theorem hasB_iff {l : List Int} {x : Int} : hasB l x = true ↔ x ∈ l := decide_eq_true_iff
end Go.Proofs.Ytoflahjlnbligaa
