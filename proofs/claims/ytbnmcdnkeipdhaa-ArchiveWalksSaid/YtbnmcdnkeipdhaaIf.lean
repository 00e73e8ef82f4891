/- Archives: the entries within, shown. -/
import Derived.Test.YtbnmcdnkeipdhaaIe
set_option linter.all false
set_option maxRecDepth 20000
set_option maxHeartbeats 8000000
namespace Go.Proofs.Ytbnmcdnkeipdhaa
open Go.RowKit Go.Shelf
theorem parS_ok {b : List Int} (h : (parS b).2 = true) : valS (parS b).1 = 0 := by
  unfold parS at h ⊢
  split at h
  · rename_i e
    rw [if_pos e]
    split at h
    · cases h
    · simp only [Bool.and_eq_true, decide_eq_true_eq] at h
      exact h.2.2
  · cases h
theorem wkS_nil (d : Nat) (front : ByteArray) (out : List Ent) (size : Int) : wkS d [] front out size = (out, size, true) := by rw [wkS]
theorem drop_hdE {l : List Ent} {i : Nat} (h : i < l.length) : l.drop i = gt l (i : Int) :: l.drop (i + 1) := by
  rw [List.drop_eq_getElem_cons h, gt_nat h]
theorem wkS_cons (d : Nat) (front : ByteArray) (out : List Ent) (size : Int) {l' l : List Ent} {e : Ent} (h : l' = e :: l) : wkS d l' front out size = if 65536 < size + e.dat.length ∨ 2000 < out.length + 1 then ([], size + e.dat.length, false)
    else if 1 < d ∧ (parS e.dat).2 = true then
      if (wkS (d - 1) (parS e.dat).1 (front ++ e.nm ++ bang) (out ++ [⟨front ++ e.nm, e.dat⟩]) (size + e.dat.length)).2.2 = true then
        wkS d l front (wkS (d - 1) (parS e.dat).1 (front ++ e.nm ++ bang) (out ++ [⟨front ++ e.nm, e.dat⟩]) (size + e.dat.length)).1 (wkS (d - 1) (parS e.dat).1 (front ++ e.nm ++ bang) (out ++ [⟨front ++ e.nm, e.dat⟩]) (size + e.dat.length)).2.1
      else ([], (wkS (d - 1) (parS e.dat).1 (front ++ e.nm ++ bang) (out ++ [⟨front ++ e.nm, e.dat⟩]) (size + e.dat.length)).2.1, false)
    else wkS d l front (out ++ [⟨front ++ e.nm, e.dat⟩]) (size + e.dat.length) := by
  subst h
  rw [wkS]
  split
  · rfl
  · split <;> rfl
end Go.Proofs.Ytbnmcdnkeipdhaa
