/- DirectoryProofs, shown. -/
import Derived.Test.YtoflahjlnbligaaEkProofs
import Derived.Test.YtoflahjlnbligaaEm
set_option linter.all false
set_option maxRecDepth 20000
set_option maxHeartbeats 4000000
namespace Go.Proofs.Ytoflahjlnbligaa
open Go.RowKit Go.Shelf
theorem Proofs_il (l : List Int) : ILt 13 [lv l] := (lawProofs_V l).2 (by
  (delta lawProofs_V; dsimp only [mkV])
  (repeat' (first | with_reducible refine brn_nd (fun h => ?_) (fun h => ?_) | with_reducible refine brn_d (fun h => ?_) (fun h => ?_) | with_reducible refine brn_nn (fun h => ?_) (fun h => ?_) | with_reducible refine brn_nb (fun h => ?_) (fun h => ?_) | with_reducible refine Brn.mk (fun h => ?_) (fun h => ?_) | with_reducible refine Chk.mk ?_ ?_ | with_reducible refine Bth.mk ?_ ?_ | with_reducible refine Fct.mk (fun hf => ?_)))
  · rfl
  intro d hd
  have hdn := hd.n
  have hv := hd.v
  (repeat' (first | with_reducible refine brn_nd (fun h => ?_) (fun h => ?_) | with_reducible refine brn_d (fun h => ?_) (fun h => ?_) | with_reducible refine brn_nn (fun h => ?_) (fun h => ?_) | with_reducible refine brn_nb (fun h => ?_) (fun h => ?_) | with_reducible refine Brn.mk (fun h => ?_) (fun h => ?_) | with_reducible refine Chk.mk ?_ ?_ | with_reducible refine Bth.mk ?_ ?_ | with_reducible refine Fct.mk (fun hf => ?_)))
  · omega
  intro t ht
  (repeat' (first | with_reducible refine brn_nd (fun h => ?_) (fun h => ?_) | with_reducible refine brn_d (fun h => ?_) (fun h => ?_) | with_reducible refine brn_nn (fun h => ?_) (fun h => ?_) | with_reducible refine brn_nb (fun h => ?_) (fun h => ?_) | with_reducible refine Brn.mk (fun h => ?_) (fun h => ?_) | with_reducible refine Chk.mk ?_ ?_ | with_reducible refine Bth.mk ?_ ?_ | with_reducible refine Fct.mk (fun hf => ?_)))
  refine up0 (by omega) (by omega) (fun I μ p h0 h1 nx => ?_) (fun I μ => rfl)
  have hp : d.ex p = true := ex_iff.2 ⟨h0, h1⟩
  obtain ⟨u1, u2⟩ := upw_cls (t := t) hv hp
  (repeat' (first | with_reducible refine brn_nd (fun h => ?_) (fun h => ?_) | with_reducible refine brn_d (fun h => ?_) (fun h => ?_) | with_reducible refine brn_nn (fun h => ?_) (fun h => ?_) | with_reducible refine brn_nb (fun h => ?_) (fun h => ?_) | with_reducible refine Brn.mk (fun h => ?_) (fun h => ?_) | with_reducible refine Chk.mk ?_ ?_ | with_reducible refine Bth.mk ?_ ?_ | with_reducible refine Fct.mk (fun hf => ?_)))
  · exact True.intro
  · exact absurd u1 (pB_no (by assumption))
  · exact absurd u2 (hasB_no.1 (by assumption))
  · omega
  have hsl := selN_len d.kinds.length (fun p => d.grp p)
  refine up0 (by omega) (by omega) (fun I1 μ1 z z0 z1 nx1 => ?_) (fun I1 μ1 => ?_)
  · generalize hg : gt (selN d.kinds.length fun p => d.grp p) z = g
    have hgm := mem_selN.1 (hg ▸ gt_mem z0 z1)
    (repeat' (first | with_reducible refine brn_nd (fun h => ?_) (fun h => ?_) | with_reducible refine brn_d (fun h => ?_) (fun h => ?_) | with_reducible refine brn_nn (fun h => ?_) (fun h => ?_) | with_reducible refine brn_nb (fun h => ?_) (fun h => ?_) | with_reducible refine Brn.mk (fun h => ?_) (fun h => ?_) | with_reducible refine Chk.mk ?_ ?_ | with_reducible refine Bth.mk ?_ ?_ | with_reducible refine Fct.mk (fun hf => ?_)))
    · exact ⟨z0, z1⟩
    · omega
    · exact nx1
    rintro ⟨c, ok⟩ hw
    have hgp : ¬ g = p := by assumption
    have e1 : ok = hasB (grpsS d p t) g := by
      rcases hw with ⟨w1, w2, _⟩ | ⟨w1, w2⟩
      · rw [w1]; exact w2
      · rw [w1]; exact congrArg Prod.snd w2
    have e2 : ok = hasB (upwS d p t) g := by
      rw [e1, Bool.eq_iff_iff, hasB_iff, hasB_iff, mem_grpsS, mem_upwS]
      exact ⟨fun h => ⟨h.1, h.2.1, h.2.2.1⟩, fun h => ⟨h.1, h.2.1, h.2.2, hgp⟩⟩
    (repeat' (first | with_reducible refine brn_nd (fun h => ?_) (fun h => ?_) | with_reducible refine brn_d (fun h => ?_) (fun h => ?_) | with_reducible refine brn_nn (fun h => ?_) (fun h => ?_) | with_reducible refine brn_nb (fun h => ?_) (fun h => ?_) | with_reducible refine Brn.mk (fun h => ?_) (fun h => ?_) | with_reducible refine Chk.mk ?_ ?_ | with_reducible refine Bth.mk ?_ ?_ | with_reducible refine Fct.mk (fun hf => ?_)))
    · exfalso; simp_all
    · exfalso; simp_all
    · exfalso
      rcases hw with ⟨w1, w2, w3⟩ | ⟨w1, w2⟩
      · exact absurd (prv_of hv w3) (pB_no (by assumption))
      · have := congrArg Prod.snd w2
        simp_all
    · omega
    · exact nx1
    · omega
    · exact nx1
  · (repeat' (first | with_reducible refine brn_nd (fun h => ?_) (fun h => ?_) | with_reducible refine brn_d (fun h => ?_) (fun h => ?_) | with_reducible refine brn_nn (fun h => ?_) (fun h => ?_) | with_reducible refine brn_nb (fun h => ?_) (fun h => ?_) | with_reducible refine Brn.mk (fun h => ?_) (fun h => ?_) | with_reducible refine Chk.mk ?_ ?_ | with_reducible refine Bth.mk ?_ ?_ | with_reducible refine Fct.mk (fun hf => ?_)))
    · omega
    · exact nx)
end Go.Proofs.Ytoflahjlnbligaa
