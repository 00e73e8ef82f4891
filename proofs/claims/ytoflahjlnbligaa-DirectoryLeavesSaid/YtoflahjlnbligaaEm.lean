/- Directories: plain laws. -/
import Derived.Test.YtoflahjlnbligaaEj
set_option linter.all false
set_option maxRecDepth 20000
set_option maxHeartbeats 4000000
namespace Go.Proofs.Ytoflahjlnbligaa
open Go.RowKit Go.Shelf
theorem rch_in {d : Dir} {t p q : Int} (hp : d.ex p = true) (h : Rch (atT d t) p q) : 0 ≤ q ∧ q < (d.kinds.length : Int) := by
  cases h with
  | refl => exact ex_iff.1 hp
  | step h g0 g1 hg => exact ⟨g0, by rw [atT_len] at g1; exact g1⟩
theorem rch_last {d : Dir} {t p q : Int} (hp : d.ex p = true) (h : Rch (atT d t) p q) : q = p ∨ ∃ y, Rch (atT d t) p y ∧ (0 ≤ y ∧ y < (d.kinds.length : Int)) ∧ d.edge t y q = true := by
  cases h with
  | refl => exact .inl rfl
  | @step y _ h g0 g1 hg =>
    have hy := rch_in hp h
    rw [atT_len] at g1
    rw [atT_cell hy.1 hy.2 g0 g1] at hg
    exact .inr ⟨y, h, hy, hg⟩
theorem rch_step {d : Dir} {t p q g : Int} (h : Rch (atT d t) p q) (hq : 0 ≤ q ∧ q < (d.kinds.length : Int)) (hg : 0 ≤ g ∧ g < (d.kinds.length : Int)) (he : d.edge t q g = true) : Rch (atT d t) p g :=
  .step h hg.1 (by rw [atT_len]; exact hg.2) (by rw [atT_cell hq.1 hq.2 hg.1 hg.2]; exact he)
theorem grp_ex {d : Dir} {g : Int} (h : d.grp g = true) : d.ex g = true := by simp [Dir.grp] at h; exact h.1
theorem hasB_iff {l : List Int} {x : Int} : hasB l x = true ↔ x ∈ l := decide_eq_true_iff
theorem hasB_no {l : List Int} {x : Int} : hasB l x = false ↔ x ∉ l := decide_eq_false_iff_not
end Go.Proofs.Ytoflahjlnbligaa
