/- Directories: plain laws. -/
import Derived.Test.YtoflahjlnbligaaEj
set_option linter.all false
set_option maxRecDepth 20000
set_option maxHeartbeats 4000000
namespace Go.Proofs.Ytoflahjlnbligaa
open Go.RowKit Go.Shelf
theorem edgeL_ev (evs : List Mb) (t p g : Int) (h : edgeL evs t p g = true) : ∃ x ∈ evs, x.prin = p ∧ x.grp = g := by
  have : ∀ b : Bool, evs.foldl (fun b x => if x.time ≤ t ∧ x.prin = p ∧ x.grp = g then decide (x.kind = 1) else b) b = true → b = true ∨ ∃ x ∈ evs, x.prin = p ∧ x.grp = g := by
    clear h
    induction evs with
    | nil => intro b h; exact .inl h
    | cons y r ih =>
      intro b h
      rw [List.foldl_cons] at h
      rcases ih _ h with h1 | ⟨x, hx, h2⟩
      · by_cases e : y.time ≤ t ∧ y.prin = p ∧ y.grp = g
        · exact .inr ⟨y, by simp, e.2⟩
        · rw [if_neg e] at h1; exact .inl h1
      · exact .inr ⟨x, by simp [hx], h2⟩
  rcases this false h with h | h
  · cases h
  · exact h
theorem ev_grp {d : Dir} (h : dirB d = true) {x : Mb} (hx : x ∈ d.evs) : d.grp x.grp = true := by
  obtain ⟨i, hi, rfl⟩ := mem_gt hx
  exact (evOk_iff.1 ((dirB_iff.1 h).2.2.2 i hi)).2.2.2.2.1
theorem edge_grp {d : Dir} (h : dirB d = true) {t p g : Int} (he : d.edge t p g = true) : d.grp g = true := by
  obtain ⟨x, hx, _, rfl⟩ := edgeL_ev _ _ _ _ he
  exact ev_grp h hx
theorem rch_in {d : Dir} {t p q : Int} (hp : d.ex p = true) (h : Rch (atT d t) p q) : 0 ≤ q ∧ q < (d.kinds.length : Int) := by
  cases h with
  | refl => exact ex_iff.1 hp
  | step h g0 g1 hg => exact ⟨g0, by rw [atT_len] at g1; exact g1⟩
theorem rch_last {d : Dir} {t p q : Int} (hp : d.ex p = true) (h : Rch (atT d t) p q) : q = p ∨ ∃ y, Rch (atT d t) p y ∧ (0 ≤ y ∧ y < (d.kinds.length : Int)) ∧ d.edge t y q = true := by
  cases h with
  | refl => exact .inl rfl
  | @step y _ h g0 g1 hg =>
    have hy := rch_in hp h
    rw [atT_len] at g1
    rw [atT_cell hy.1 hy.2 g0 g1] at hg
    exact .inr ⟨y, h, hy, hg⟩
theorem rch_step {d : Dir} {t p q g : Int} (h : Rch (atT d t) p q) (hq : 0 ≤ q ∧ q < (d.kinds.length : Int)) (hg : 0 ≤ g ∧ g < (d.kinds.length : Int)) (he : d.edge t q g = true) : Rch (atT d t) p g :=
  .step h hg.1 (by rw [atT_len]; exact hg.2) (by rw [atT_cell hq.1 hq.2 hg.1 hg.2]; exact he)
theorem grp_ex {d : Dir} {g : Int} (h : d.grp g = true) : d.ex g = true := by simp [Dir.grp] at h; exact h.1
theorem rch_grp {d : Dir} {t p q : Int} (hd : dirB d = true) (hp : d.ex p = true) (h : Rch (atT d t) p q) (hne : q ≠ p) : d.grp q = true := by
  rcases rch_last hp h with e | ⟨y, _, _, he⟩
  · exact absurd e hne
  · exact edge_grp hd he
theorem hasB_iff {l : List Int} {x : Int} : hasB l x = true ↔ x ∈ l := decide_eq_true_iff
theorem hasB_no {l : List Int} {x : Int} : hasB l x = false ↔ x ∉ l := decide_eq_false_iff_not
theorem prv_of {d : Dir} (hd : dirB d = true) {t p g : Int} {c : List Int} (h : ChnOk d t p g c) : PrvP d t c := ⟨hd, h.n, fun x hx => ex_iff.2 (h.dx x hx), h.dn, h.de⟩
end Go.Proofs.Ytoflahjlnbligaa
