/- Sorted lists without what stands twice. -/
import Derived.Test.YtcbppkfnfbdkhaaPe
set_option linter.all false
set_option maxRecDepth 20000
set_option maxHeartbeats 4000000
namespace Go.Proofs.Ytcbppkfnfbdkhaa
open Go.RowKit Go.Shelf
def dstep (o : List Int) (x : Int) : List Int := if o.length = 0 ∨ ¬ gt o ((o.length : Int) - 1) = x then o ++ [x] else o
def ded (l : List Int) : List Int := l.foldl dstep []
theorem gt_last {o : List Int} {x : Int} : gt (o ++ [x]) (((o ++ [x]).length : Int) - 1) = x := by
  have e : ((o ++ [x]).length : Int) - 1 = (o.length : Int) := by simp
  rw [e, gt_nat (by simp)]
  simp
theorem dstep_last (o : List Int) (x : Int) : (dstep o x).length ≠ 0 ∧ gt (dstep o x) (((dstep o x).length : Int) - 1) = x := by
  unfold dstep
  split
  · exact ⟨by simp, gt_last⟩
  · rename_i h
    constructor
    · intro e; exact h (.inl e)
    · exact Classical.byContradiction fun e => h (.inr e)
theorem cpt_ded (zs : List Int) : ∀ m, m ≤ zs.length → Lib.compactUpTo zs.toArray m = ded (zs.take m) := by
  intro m
  induction m with
  | zero => intro _; rfl
  | succ m ih =>
    intro hm
    have h1 := ih (by omega)
    have e0 : zs.toArray[m]! = gt zs (m : Int) := by
      rw [gt_nat (by omega)]; simp [show m < zs.length by omega]
    have e : ded (zs.take (m + 1)) = dstep (ded (zs.take m)) (gt zs (m : Int)) := by
      rw [take_snoc (by omega)]; unfold ded; rw [List.foldl_append]; rfl
    rw [Lib.compactUpTo_succ, e, h1, e0]
    cases m with
    | zero => simp [Lib.keeps, ded, dstep]
    | succ k =>
      have e2 : zs.toArray[k]! = gt zs (k : Int) := by
        rw [gt_nat (by omega)]; simp [show k < zs.length by omega]
      have e3 : ded (zs.take (k + 1)) = dstep (ded (zs.take k)) (gt zs (k : Int)) := by
        rw [take_snoc (by omega)]; unfold ded; rw [List.foldl_append]; rfl
      obtain ⟨q1, q2⟩ := dstep_last (ded (zs.take k)) (gt zs (k : Int))
      rw [← e3] at q1 q2
      simp only [Lib.keeps, Nat.add_sub_cancel, e0, e2]
      generalize ded (List.take (k + 1) zs) = o at *
      unfold dstep
      rw [q2]
      by_cases e9 : gt zs (k : Int) = gt zs ((k + 1 : Nat) : Int)
      · simp [e9, q1]
      · have e10 : ¬ gt zs ((k + 1 : Nat) : Int) = gt zs (k : Int) := fun h => e9 h.symm
        rw [if_pos (show decide (k + 1 = 0 ∨ gt zs ((k + 1 : Nat) : Int) ≠ gt zs (k : Int)) = true from decide_eq_true (.inr e10)), if_pos (.inr e9)]
theorem compact_ded (zs : List Int) : Lib.compact zs = ded zs := by
  have := cpt_ded zs zs.length (Nat.le_refl _)
  rwa [List.take_length] at this
theorem dstep_sorted {o : List Int} {x : Int} (h : o.Pairwise (· < ·)) (hx : ∀ y ∈ o, y ≤ x) : (dstep o x).Pairwise (· < ·) ∧ ∀ y ∈ dstep o x, y ≤ x := by
  unfold dstep
  split
  · rename_i hc
    refine ⟨?_, fun y hy => ?_⟩
    · rw [List.pairwise_append]
      refine ⟨h, by simp, fun y hy z hz => ?_⟩
      simp at hz
      subst hz
      rcases hc with hc | hc
      · rw [List.eq_nil_of_length_eq_zero hc] at hy; cases hy
      · have h1 := hx y hy
        obtain ⟨k, hk, rfl⟩ := List.getElem_of_mem hy
        have hlast := gt_nat (xs := o) (i := o.length - 1) (by omega)
        have e : ((o.length - 1 : Nat) : Int) = (o.length : Int) - 1 := by omega
        rw [e] at hlast
        rw [hlast] at hc
        have h2 := hx _ (List.getElem_mem (l := o) (show o.length - 1 < o.length by omega))
        by_cases ek : k = o.length - 1
        · subst ek; omega
        · have := (List.pairwise_iff_getElem.1 h) k (o.length - 1) hk (by omega) (by omega)
          omega
    · rcases List.mem_append.1 hy with hy | hy
      · exact hx y hy
      · simp at hy; omega
  · exact ⟨h, hx⟩
theorem ded_sorted : ∀ (l : List Int) {o : List Int}, o.Pairwise (· < ·) → l.Pairwise (· ≤ ·) → (∀ y ∈ o, ∀ x ∈ l, y ≤ x) → (l.foldl dstep o).Pairwise (· < ·)
  | [], o, h, _, _ => h
  | x :: l, o, h, hl, ho => by
    rw [List.pairwise_cons] at hl
    obtain ⟨h1, h2⟩ := dstep_sorted h fun y hy => ho y hy x (by simp)
    exact ded_sorted l h1 hl.2 fun y hy z hz => by
      have := h2 y hy
      have := hl.1 z hz
      omega
theorem dstep_mem {o : List Int} {x y : Int} : y ∈ dstep o x ↔ y ∈ o ∨ y = x := by
  unfold dstep
  split
  · simp
  · rename_i h
    constructor
    · exact .inl
    · rintro (hy | rfl)
      · exact hy
      · have h0 : ¬ o.length = 0 := fun e => h (.inl e)
        have h1 : gt o ((o.length : Int) - 1) = y := Classical.byContradiction fun e => h (.inr e)
        rw [← h1]; exact gt_mem (by omega) (by omega)
theorem ded_mem : ∀ (l : List Int) {o : List Int} {y : Int}, y ∈ l.foldl dstep o ↔ y ∈ o ∨ y ∈ l
  | [], o, y => by simp
  | x :: l, o, y => by rw [List.foldl_cons, ded_mem l, dstep_mem]; simp [or_assoc]
end Go.Proofs.Ytcbppkfnfbdkhaa
