/- Directories: plain laws. -/
import Derived.Test.YtoflahjlnbligaaEj
set_option linter.all false
set_option maxRecDepth 20000
set_option maxHeartbeats 4000000
namespace Go.Proofs.Ytoflahjlnbligaa
open Go.RowKit Go.Shelf
theorem rch_step {d : Dir} {t p q g : Int} (h : Rch (atT d t) p q) (hq : 0 ≤ q ∧ q < (d.kinds.length : Int)) (hg : 0 ≤ g ∧ g < (d.kinds.length : Int)) (he : d.edge t q g = true) : Rch (atT d t) p g :=
  .step h hg.1 (by rw [atT_len]; exact hg.2) (by rw [atT_cell hq.1 hq.2 hg.1 hg.2]; exact he)
theorem hasB_iff {l : List Int} {x : Int} : hasB l x = true ↔ x ∈ l := decide_eq_true_iff
theorem hasB_no {l : List Int} {x : Int} : hasB l x = false ↔ x ∉ l := decide_eq_false_iff_not
theorem ascB_selN (n : Nat) (q : Int → Bool) : (selN n q).Pairwise (· < ·) := by
  unfold selN intsTo
  refine List.Pairwise.filter _ ?_
  rw [List.pairwise_map]
  exact List.pairwise_lt_range.imp fun h => by omega
theorem asc_pw {l : List Int} (h : l.Pairwise (· < ·)) : AscP l := fun i hi => by
  have := (List.pairwise_iff_getElem.1 h) i (i + 1) (by omega) (by omega) (by omega)
  rw [gt_nat (by omega), show (i : Int) + 1 = ((i + 1 : Nat) : Int) by omega, gt_nat (by omega)]
  exact this
theorem upw_cls {d : Dir} (hd : dirB d = true) {p t : Int} (hp : d.ex p = true) : ClsP d t (upwS d p t) ∧ p ∈ upwS d p t := by
  refine ⟨⟨hd, asc_pw ?_, fun q hq => ex_iff.2 (mem_upwS.1 hq).2.1, fun q hq g g0 g1 hg => ?_⟩, mem_upwS.2 ⟨⟨hd, hp⟩, ex_iff.1 hp, .refl⟩⟩
  · unfold upwS
    split
    · exact ascB_selN _ _
    · exact .nil
  · have h := mem_upwS.1 hq
    exact mem_upwS.2 ⟨h.1, ⟨g0, g1⟩, rch_step h.2.2 h.2.1 ⟨g0, g1⟩ hg⟩
theorem prv_of {d : Dir} (hd : dirB d = true) {t p g : Int} {c : List Int} (h : ChnOk d t p g c) : PrvP d t c := ⟨hd, h.n, fun x hx => ex_iff.2 (h.dx x hx), h.dn, h.de⟩
end Go.Proofs.Ytoflahjlnbligaa
