/- Operations: what they make. -/
import Derived.Test.YtbnmcdnkeipdhaaDb
set_option linter.all false
set_option maxRecDepth 20000
set_option maxHeartbeats 4000000
namespace Go.Proofs.Ytbnmcdnkeipdhaa
open Go.RowKit Go.Shelf
def pieceS (base : List Int) (o : Opn) : List Int := part base o.frm (o.frm + o.sz) ++ o.dat
def madeS (base : List Int) (l : List Opn) : List Int := l.flatMap (pieceS base)
theorem fit_spec {n : Nat} {o : Opn} (h : fitO n o = true) : (o.sz = 0 ∧ o.frm = 0 ∧ 0 < o.dat.length) ∨ (0 < o.sz ∧ 0 ≤ o.frm ∧ o.frm ≤ n ∧ o.sz ≤ n - o.frm ∧ o.dat = []) := by
  unfold fitO fitsB rightB at h
  by_cases hs : o.sz = 0
  · simp [hs] at h ⊢
    omega
  · rw [if_neg hs] at h
    simp [hs] at h
    refine .inr ⟨h.1.1, h.1.2.1, h.2.1, h.2.2, ?_⟩
    exact h.1.2.2
theorem piece_len {base : List Int} {o : Opn} (h : fitO base.length o = true) : ((pieceS base o).length : Int) = amt o := by
  unfold pieceS amt part
  rcases fit_spec h with ⟨h1, h2, h3⟩ | ⟨h1, h2, h3, h4, h5⟩
  · rw [if_neg (by omega)]; simp [h1, h2]
  · rw [if_pos (by omega)]; simp [h5]; omega
def applyS (base : List Int) (l : List Opn) : List Int := if chkO base.length l = 0 then madeS base l else []
end Go.Proofs.Ytbnmcdnkeipdhaa
