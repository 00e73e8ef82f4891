/- Single events. -/
import Derived.Test.YtpneplgaeiomkaaYf
set_option linter.all false
set_option maxRecDepth 20000
set_option maxHeartbeats 4000000
namespace Go.Proofs.Ytpneplgaeiomkaa
open Go.RowKit Go.Shelf
theorem ap2 {c : Cl} {i : Int} (hv : validB c = true) (h0 : 0 ≤ i) (h1 : i < c.reps.length) : applyE c ⟨2, i, 0, 0⟩ = 0 ∧ applyC c ⟨2, i, 0, 0⟩ = ⟨c.fence, c.sets, c.reps.set i.toNat ⟨(c.sets.length : Int) - 1, true⟩, c.snaps⟩ := by
  have e : applyE c ⟨2, i, 0, 0⟩ = 0 := by
    rw [E2 hv rfl, if_pos ⟨rfl, rfl, (inB_iff _ _ _).2 ⟨h0, by show i ≤ _; omega⟩⟩]
  refine ⟨e, ?_⟩
  unfold applyC; rw [if_pos e]; simp [applyM]
theorem ap3 {c : Cl} {i : Int} (hv : validB c = true) (h0 : 0 ≤ i) (h1 : i < c.reps.length) (h2 : c.snaps.length < 120) : applyE c ⟨3, i, 0, 0⟩ = 0 ∧ applyC c ⟨3, i, 0, 0⟩ = ⟨c.fence, c.sets, c.reps, c.snaps ++ [(gt c.reps i).gen]⟩ := by
  have e : applyE c ⟨3, i, 0, 0⟩ = 0 := by
    rw [E3 hv rfl, if_pos ⟨rfl, rfl, (inB_iff _ _ _).2 ⟨h0, by show i ≤ _; omega⟩⟩, if_neg (by omega)]
  refine ⟨e, ?_⟩
  unfold applyC; rw [if_pos e, aM3 rfl]
theorem ap4 {c : Cl} {i j : Int} (hv : validB c = true) (h0 : 0 ≤ i) (h1 : i < c.reps.length) (h2 : 0 ≤ j) (h3 : j < c.snaps.length) : applyE c ⟨4, i, j, 0⟩ = 0 ∧ applyC c ⟨4, i, j, 0⟩ = ⟨c.fence, c.sets, c.reps.set i.toNat ⟨gt c.snaps j, !c.fence⟩, c.snaps⟩ := by
  have e : applyE c ⟨4, i, j, 0⟩ = 0 := by
    rw [E4 hv rfl, if_pos ⟨rfl, (inB_iff _ _ _).2 ⟨h0, by show i ≤ _; omega⟩, (inB_iff _ _ _).2 ⟨h2, by show j ≤ _; omega⟩⟩]
  refine ⟨e, ?_⟩
  unfold applyC; rw [if_pos e]; simp [applyM]; rfl
theorem gt_snoc {α : Type} [Inhabited α] {xs : List α} {y : α} : gt (xs ++ [y]) (xs.length : Int) = y := by
  unfold gt; simp
end Go.Proofs.Ytpneplgaeiomkaa
