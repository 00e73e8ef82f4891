/- Estates: cut; one event more. -/
import Derived.Test.YtoflahjlnbligaaCs
set_option linter.all false
set_option maxRecDepth 20000
set_option maxHeartbeats 4000000
namespace Go.Proofs.Ytoflahjlnbligaa
open Go.RowKit Go.Shelf
theorem mem_holds {a : Est} {c p t : Int} (he : estB a = true) (hp : 0 ≤ p ∧ p < a.places) (hc : 0 ≤ c ∧ c ≤ 63) : decide (c ∈ holdsS a p t) = inT a c p t := by
  unfold holdsS
  rw [if_pos (by rw [he]; simp [inB]; omega), Bool.eq_iff_iff, decide_eq_true_eq, List.mem_filter, rg'_mem]
  exact ⟨fun h => h.2, fun h => ⟨⟨hc.1, by omega⟩, h⟩⟩
theorem mem_where {a : Est} {c p t : Int} (he : estB a = true) (hp : 0 ≤ p ∧ p < a.places) (hc : 0 ≤ c ∧ c ≤ 63) : decide (p ∈ whereS a c t) = inT a c p t := by
  unfold whereS rightB
  rw [if_pos (by rw [he]; simp [inB]; omega), Bool.eq_iff_iff, decide_eq_true_eq, List.mem_filter, rg'_mem]
  exact ⟨fun h => h.2, fun h => ⟨⟨hp.1, by omega⟩, h⟩⟩
end Go.Proofs.Ytoflahjlnbligaa
