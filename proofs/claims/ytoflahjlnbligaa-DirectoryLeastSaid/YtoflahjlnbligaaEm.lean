/- Directories: plain laws. -/
import Derived.Test.YtoflahjlnbligaaEj
set_option linter.all false
set_option maxRecDepth 20000
set_option maxHeartbeats 4000000
namespace Go.Proofs.Ytoflahjlnbligaa
open Go.RowKit Go.Shelf
theorem rch_cls {d : Dir} {t p q : Int} {s : List Int} (hs : ClsP d t s) (hp : p ∈ s) (h : Rch (atT d t) p q) : q ∈ s := by
  induction h with
  | refl => exact hp
  | @step y g h g0 g1 hg ih =>
    have hy := ex_iff.1 (hs.2.2.1 _ ih)
    rw [atT_len] at g1
    rw [atT_cell hy.1 hy.2 g0 g1] at hg
    exact hs.2.2.2 _ ih _ g0 g1 hg
theorem hasB_no {l : List Int} {x : Int} : hasB l x = false ↔ x ∉ l := decide_eq_false_iff_not
end Go.Proofs.Ytoflahjlnbligaa
