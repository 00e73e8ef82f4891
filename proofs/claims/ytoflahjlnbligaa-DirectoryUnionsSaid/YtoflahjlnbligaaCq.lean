/- Makers: Estate, Few. -/
import Derived.Test.YtoflahjlnbligaaCp
set_option linter.all false
set_option maxRecDepth 20000
set_option maxHeartbeats 4000000
namespace Go.Proofs.Ytoflahjlnbligaa
open Go.RowKit Go.Shelf
structure EstOk (a : Est) : Prop where
  v : estB a = true
  n : 1 ≤ a.places ∧ a.places ≤ 4 ∧ a.evs.length ≤ 16
  c : ∀ x ∈ a.evs, x.kind = 5 ∨ x.kind = 6 → x.cont ≤ 2
structure EsJ (pl : Int) (evs : List Acc) (b : Int) : Prop where
  s : ∀ i : Nat, i < evs.length → aevOk ⟨pl, []⟩ (prevA evs i) (gt evs (i : Int)) = true
  l : prevA evs evs.length ≤ b
  c : ∀ x ∈ evs, x.kind = 5 ∨ x.kind = 6 → x.cont ≤ 2
theorem prevA_app {a : List Acc} {x : Acc} {i : Nat} (h : i ≤ a.length) : prevA (a ++ [x]) i = prevA a i := by
  unfold prevA
  split
  · rfl
  · rw [gt_app_l (by omega) (by omega)]
theorem EsJ.snoc {pl : Int} {evs : List Acc} {b : Int} (h : EsJ pl evs b) {x : Acc} (hb : b ≤ x.time) (ht : x.time ≤ 1099511627776) (hx : accP ⟨pl, []⟩ x) (hc : x.kind = 5 ∨ x.kind = 6 → x.cont ≤ 2) : EsJ pl (evs ++ [x]) x.time := by
  refine ⟨fun i hi => ?_, ?_, fun y hy => ?_⟩
  · simp only [List.length_append, List.length_singleton] at hi
    rw [prevA_app (by omega)]
    by_cases e : i < evs.length
    · rw [gt_app_l (by omega) (by omega)]; exact h.s i e
    · obtain rfl : i = evs.length := by omega
      rw [gt_app_r]
      have := h.l
      exact aevOk_iff.2 ⟨by omega, ht, decide_eq_true hx⟩
  · rw [List.length_append, List.length_singleton, prevA_succ, gt_app_r]; exact Int.le_refl _
  · rcases List.mem_append.1 hy with hy | hy
    · exact h.c y hy
    · simp at hy; subst hy; exact hc
theorem EsJ.mono {pl : Int} {evs : List Acc} {b c : Int} (h : EsJ pl evs b) (hb : b ≤ c) : EsJ pl evs c := ⟨h.s, Int.le_trans h.l hb, h.c⟩
end Go.Proofs.Ytoflahjlnbligaa
