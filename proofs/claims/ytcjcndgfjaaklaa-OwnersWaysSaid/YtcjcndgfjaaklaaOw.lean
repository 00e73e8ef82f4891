/- The law OwnersWays, shown. -/
import Derived.Test.YtcjcndgfjaaklaaOu
import Derived.Test.YtcjcndgfjaaklaaOv
set_option linter.all false
set_option maxRecDepth 20000
set_option maxHeartbeats 4000000
namespace Go.Proofs.Ytcjcndgfjaaklaa
open Go.RowKit Go.Shelf
theorem own_first {d : Dir} {s : List Stw} {p t : Int} {tl : List Int} (hw : wayS d s p t = p :: tl) : ownS d s p t = if gt d.kinds p = 1 then (p, true) else firstP d tl := by
  unfold ownS firstP
  rw [hw, List.find?_cons]
  by_cases h : gt d.kinds p = 1 <;> simp [h]
theorem Ways_il (l : List Int) : ILt 10 [lv l] := (OwnersWays_V l).2 (by
  (delta OwnersWays_V; dsimp only [mkV])
  (repeat' (first | with_reducible refine brn_nd (fun h => ?_) (fun h => ?_) | with_reducible refine brn_d (fun h => ?_) (fun h => ?_) | with_reducible refine brn_nn (fun h => ?_) (fun h => ?_) | with_reducible refine brn_nb (fun h => ?_) (fun h => ?_) | with_reducible refine Brn.mk (fun h => ?_) (fun h => ?_) | with_reducible refine Chk.mk ?_ ?_ | with_reducible refine Bth.mk ?_ ?_ | with_reducible refine Fct.mk (fun hf => ?_)))
  · rfl
  intro d hd
  have hn := hd.n
  (repeat' (first | with_reducible refine brn_nd (fun h => ?_) (fun h => ?_) | with_reducible refine brn_d (fun h => ?_) (fun h => ?_) | with_reducible refine brn_nn (fun h => ?_) (fun h => ?_) | with_reducible refine brn_nb (fun h => ?_) (fun h => ?_) | with_reducible refine Brn.mk (fun h => ?_) (fun h => ?_) | with_reducible refine Chk.mk ?_ ?_ | with_reducible refine Bth.mk ?_ ?_ | with_reducible refine Fct.mk (fun hf => ?_)))
  · exact hd
  intro s hs
  (repeat' (first | with_reducible refine brn_nd (fun h => ?_) (fun h => ?_) | with_reducible refine brn_d (fun h => ?_) (fun h => ?_) | with_reducible refine brn_nn (fun h => ?_) (fun h => ?_) | with_reducible refine brn_nb (fun h => ?_) (fun h => ?_) | with_reducible refine Brn.mk (fun h => ?_) (fun h => ?_) | with_reducible refine Chk.mk ?_ ?_ | with_reducible refine Bth.mk ?_ ?_ | with_reducible refine Fct.mk (fun hf => ?_)))
  · omega
  intro t ht
  (repeat' (first | with_reducible refine brn_nd (fun h => ?_) (fun h => ?_) | with_reducible refine brn_d (fun h => ?_) (fun h => ?_) | with_reducible refine brn_nn (fun h => ?_) (fun h => ?_) | with_reducible refine brn_nb (fun h => ?_) (fun h => ?_) | with_reducible refine Brn.mk (fun h => ?_) (fun h => ?_) | with_reducible refine Chk.mk ?_ ?_ | with_reducible refine Bth.mk ?_ ?_ | with_reducible refine Fct.mk (fun hf => ?_)))
  refine up0 (by omega) (by omega) ?_ (fun _ _ => rfl)
  intro I μ p h0 h1 nx
  have hk : knB d s p = true := knB_iff.2 ⟨hs.v, ex_iff.2 ⟨h0, h1⟩⟩
  have hp := path_of (t := t) hk
  obtain ⟨a1, a2, a3⟩ := path_at _ _ _ hp
  have hend := path_end _ _ _ hp
  have hlen := wayN_len (d := d) (l := s) (p := p) (t := t)
  have hpos : 0 < (wayS d s p t).length := by
    cases hw : wayS d s p t with
    | nil =>
      rw [hw] at hp
      have h2 : p = -1 ∨ p ∈ ([] : List Int) := hp
      simp at h2; omega
    | cons x tl => simp
  obtain ⟨b1, b2⟩ := a3 hpos
  have hofO : ∀ i : Int, 0 ≤ i → i < (wayS d s p t).length → ofO d s (gt (wayS d s p t) i) t = ofS s (gt (wayS d s p t) i) t := fun i i0 i1 => ofO_ok hs.v (ex_iff.1 (way_ex (gt_mem i0 i1))) t
  have hown : lastQ s t (wayS d s p t) p = -1 → 1 < (wayS d s p t).length → ¬ (ownS d s p t).2 = decide (gt d.kinds p = 1) → ownS d s (gt (wayS d s p t) 1) t = ownS d s p t := fun e1 e2 e3 => by
    obtain ⟨c1, c2⟩ := way_tail hk e1 e2
    obtain ⟨tl, htl⟩ : ∃ tl, wayS d s p t = p :: tl := by
      cases hw : wayS d s p t with
      | nil => rw [hw] at hpos; simp at hpos
      | cons x tl => rw [hw] at c2; exact ⟨tl, by rw [show x = p from c2]⟩
    have ho := own_first htl
    by_cases hq : gt d.kinds p = 1
    · rw [ho] at e3; simp [hq] at e3
    · rw [ho, if_neg hq]
      unfold ownS
      rw [c1, htl]; rfl
  (repeat' (first | with_reducible refine brn_nd (fun h => ?_) (fun h => ?_) | with_reducible refine brn_d (fun h => ?_) (fun h => ?_) | with_reducible refine brn_nn (fun h => ?_) (fun h => ?_) | with_reducible refine brn_nb (fun h => ?_) (fun h => ?_) | with_reducible refine Brn.mk (fun h => ?_) (fun h => ?_) | with_reducible refine Chk.mk ?_ ?_ | with_reducible refine Bth.mk ?_ ?_ | with_reducible refine Fct.mk (fun hf => ?_)))
  · omega
  · omega
  · exact absurd b1 (by assumption)
  refine lp1 (fun z => 1 ≤ z ∧ z ≤ ((wayS d s p t).length : Int)) (fun z => ((wayS d s p t).length - z).toNat) ⟨by omega, by omega⟩ ?_
  rintro I1 μ1 nx1 z ⟨z0, z1⟩
  have hlast := hofO ((wayS d s p t).length - 1) (by omega) (by omega)
  rw [b2] at hlast
  (repeat' (first | with_reducible refine brn_nd (fun h => ?_) (fun h => ?_) | with_reducible refine brn_d (fun h => ?_) (fun h => ?_) | with_reducible refine brn_nn (fun h => ?_) (fun h => ?_) | with_reducible refine brn_nb (fun h => ?_) (fun h => ?_) | with_reducible refine Brn.mk (fun h => ?_) (fun h => ?_) | with_reducible refine Chk.mk ?_ ?_ | with_reducible refine Bth.mk ?_ ?_ | with_reducible refine Fct.mk (fun hf => ?_)))
  all_goals (first | omega | exact nx | skip)
  · obtain ⟨i, rfl⟩ : ∃ i : Nat, z = i + 1 := ⟨(z - 1).toNat, by omega⟩
    have e1 := a1 i (by omega)
    have e2 := hofO i (by omega) (by omega)
    have c : (i : Int) + 1 - 1 = i := by omega
    rw [c, e2] at h
    exact absurd e1 h
  · obtain ⟨i, rfl⟩ : ∃ i : Nat, z = i := ⟨z.toNat, by omega⟩
    have e1 := a2 i (by omega)
    simp only [Int.toNat_natCast] at h
    exact absurd (hasB_iff.1 h) (by simpa using e1)
  · exact nx1 _ _ ⟨z0, z1⟩ ⟨by omega, by omega⟩ (by omega)
  · rw [hlast] at *
    have hq : lastQ s t (wayS d s p t) p ∈ wayS d s p t := by simpa using hend.resolve_left (by assumption)
    rw [hasB_iff.2 hq] at h; cases h
  · have e : lastQ s t (wayS d s p t) p = -1 := hlast.symm.trans (by assumption)
    have := hown e (by omega) (fun e2 => by have hx : ((ownS d s p t).2 == decide (gt d.kinds p = 1)) = false := (by assumption); rw [e2] at hx; simp at hx)
    rw [this] at h; simp at h
  · have e : lastQ s t (wayS d s p t) p = -1 := hlast.symm.trans (by assumption)
    have := hown e (by omega) (fun e2 => by have hx : ((ownS d s p t).2 == decide (gt d.kinds p = 1)) = false := (by assumption); rw [e2] at hx; simp at hx)
    rw [this] at h; simp at h)
end Go.Proofs.Ytcjcndgfjaaklaa
