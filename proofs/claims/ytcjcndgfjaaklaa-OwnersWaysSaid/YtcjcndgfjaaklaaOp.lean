/- The law OwnersNew, shown. -/
import Derived.Test.YtcjcndgfjaaklaaOo
set_option linter.all false
set_option maxRecDepth 20000
set_option maxHeartbeats 4000000
namespace Go.Proofs.Ytcjcndgfjaaklaa
open Go.RowKit Go.Shelf
theorem ofS_snoc (s : List Stw) (x : Stw) (p t : Int) : ofS (s ++ [x]) p t = if x.sub = p ∧ x.time ≤ t then x.stw else ofS s p t := by
  unfold ofS; rw [List.foldl_append]; rfl
theorem ofO_ok {d : Dir} {s : List Stw} {p : Int} (h : stE d s = 0) (hp : 0 ≤ p ∧ p < d.kinds.length) (t : Int) : ofO d s p t = ofS s p t := by
  unfold ofO; rw [if_pos (knB_iff.2 ⟨h, ex_iff.2 hp⟩)]
theorem sts_more {d : Dir} {s : List Stw} (hd : DirOk d) (hs : StsOk d s) {x : Stw} (hx : stOk d (prevS s s.length) x = true) : stE d (s ++ [x]) = 0 := by
  have hj : StJ d s (prevS s s.length) := ⟨hs.j.s, Int.le_refl _⟩
  have := hs.n
  exact stE_0.2 ⟨hd.v, by simp; omega, (hj.snoc hx).s⟩
theorem prevS_bd {d : Dir} {s : List Stw} (hs : StsOk d s) : 0 ≤ prevS s s.length ∧ prevS s s.length ≤ 25 := ⟨prevS_nn hs.j.s, hs.j.l⟩
theorem new_facts {d : Dir} {s : List Stw} (hd : DirOk d) (hs : StsOk d s) {last : Int} (hl : last = prevS s s.length) {p q : Int} (hp : 0 ≤ p ∧ p < d.kinds.length) (hq : 0 ≤ q ∧ q < d.kinds.length) (hne : ¬ p = q) :
    (∀ x : Int, 0 ≤ x → x < d.kinds.length → ofO d s x last = ofO d (s ++ [⟨last + 1, p, q⟩]) x last) ∧ (∀ x : Int, 0 ≤ x → x < d.kinds.length → ¬ x = p → ofO d (s ++ [⟨last + 1, p, q⟩]) x (last + 1) = ofO d s x (last + 1)) ∧ ofO d (s ++ [⟨last + 1, p, q⟩]) p (last + 1) = q := by
  have hb := prevS_bd hs
  have hm : stE d (s ++ [⟨last + 1, p, q⟩]) = 0 := sts_more hd hs (stOk_iff.2 ⟨by simp only; omega, by simp only; omega, ex_iff.2 hp, .inr ⟨ex_iff.2 hq, fun e => hne e.symm⟩⟩)
  refine ⟨fun x h0 h1 => ?_, fun x h0 h1 hx => ?_, ?_⟩
  · rw [ofO_ok hs.v ⟨h0, h1⟩, ofO_ok hm ⟨h0, h1⟩, ofS_snoc, if_neg (by simp only; omega)]
  · rw [ofO_ok hs.v ⟨h0, h1⟩, ofO_ok hm ⟨h0, h1⟩, ofS_snoc, if_neg (by simp only; omega)]
  · rw [ofO_ok hm hp, ofS_snoc, if_pos ⟨rfl, Int.le_refl _⟩]
theorem New_il (l : List Int) : ILt 11 [lv l] := (OwnersNew_V l).2 (by
  (delta OwnersNew_V; dsimp only [mkV])
  (repeat' (first | with_reducible refine brn_nd (fun h => ?_) (fun h => ?_) | with_reducible refine brn_d (fun h => ?_) (fun h => ?_) | with_reducible refine brn_nn (fun h => ?_) (fun h => ?_) | with_reducible refine brn_nb (fun h => ?_) (fun h => ?_) | with_reducible refine Brn.mk (fun h => ?_) (fun h => ?_) | with_reducible refine Chk.mk ?_ ?_ | with_reducible refine Bth.mk ?_ ?_ | with_reducible refine Fct.mk (fun hf => ?_)))
  · rfl
  intro d hd
  have hn := hd.n
  (repeat' (first | with_reducible refine brn_nd (fun h => ?_) (fun h => ?_) | with_reducible refine brn_d (fun h => ?_) (fun h => ?_) | with_reducible refine brn_nn (fun h => ?_) (fun h => ?_) | with_reducible refine brn_nb (fun h => ?_) (fun h => ?_) | with_reducible refine Brn.mk (fun h => ?_) (fun h => ?_) | with_reducible refine Chk.mk ?_ ?_ | with_reducible refine Bth.mk ?_ ?_ | with_reducible refine Fct.mk (fun hf => ?_)))
  · exact hd
  intro s hs
  have hsn := hs.n
  have hb := prevS_bd hs
  (repeat' (first | with_reducible refine brn_nd (fun h => ?_) (fun h => ?_) | with_reducible refine brn_d (fun h => ?_) (fun h => ?_) | with_reducible refine brn_nn (fun h => ?_) (fun h => ?_) | with_reducible refine brn_nb (fun h => ?_) (fun h => ?_) | with_reducible refine Brn.mk (fun h => ?_) (fun h => ?_) | with_reducible refine Chk.mk ?_ ?_ | with_reducible refine Bth.mk ?_ ?_ | with_reducible refine Fct.mk (fun hf => ?_)))
  · omega
  · omega
  · omega
  · intro p hp
    (repeat' (first | with_reducible refine brn_nd (fun h => ?_) (fun h => ?_) | with_reducible refine brn_d (fun h => ?_) (fun h => ?_) | with_reducible refine brn_nn (fun h => ?_) (fun h => ?_) | with_reducible refine brn_nb (fun h => ?_) (fun h => ?_) | with_reducible refine Brn.mk (fun h => ?_) (fun h => ?_) | with_reducible refine Chk.mk ?_ ?_ | with_reducible refine Bth.mk ?_ ?_ | with_reducible refine Fct.mk (fun hf => ?_)))
    · omega
    intro q hq
    have hlast : (gt s ((s.length : Int) - 1)).time = prevS s s.length := by unfold prevS; rw [if_neg (by omega)]
    (repeat' (first | with_reducible refine brn_nd (fun h => ?_) (fun h => ?_) | with_reducible refine brn_d (fun h => ?_) (fun h => ?_) | with_reducible refine brn_nn (fun h => ?_) (fun h => ?_) | with_reducible refine brn_nb (fun h => ?_) (fun h => ?_) | with_reducible refine Brn.mk (fun h => ?_) (fun h => ?_) | with_reducible refine Chk.mk ?_ ?_ | with_reducible refine Bth.mk ?_ ?_ | with_reducible refine Fct.mk (fun hf => ?_)))
    all_goals (first | exact rfl | omega | (simp; omega) | skip)
    have hf := new_facts hd hs hlast hp hq (by assumption)
    refine up0 (by omega) (by omega) ?_ ?_
    · intro I μ z h0 h1 nx
      (repeat' (first | with_reducible refine brn_nd (fun h => ?_) (fun h => ?_) | with_reducible refine brn_d (fun h => ?_) (fun h => ?_) | with_reducible refine brn_nn (fun h => ?_) (fun h => ?_) | with_reducible refine brn_nb (fun h => ?_) (fun h => ?_) | with_reducible refine Brn.mk (fun h => ?_) (fun h => ?_) | with_reducible refine Chk.mk ?_ ?_ | with_reducible refine Bth.mk ?_ ?_ | with_reducible refine Fct.mk (fun hf => ?_)))
      all_goals (first | omega | exact nx | exact absurd (hf.1 z h0 h1) (by assumption) | exact absurd (hf.2.1 z h0 h1 (by assumption)) (by assumption))
    · intro I μ
      (repeat' (first | with_reducible refine brn_nd (fun h => ?_) (fun h => ?_) | with_reducible refine brn_d (fun h => ?_) (fun h => ?_) | with_reducible refine brn_nn (fun h => ?_) (fun h => ?_) | with_reducible refine brn_nb (fun h => ?_) (fun h => ?_) | with_reducible refine Brn.mk (fun h => ?_) (fun h => ?_) | with_reducible refine Chk.mk ?_ ?_ | with_reducible refine Bth.mk ?_ ?_ | with_reducible refine Fct.mk (fun hf => ?_)))
      · rfl
      · exact absurd hf.2.2 (by assumption)
  · omega
  · intro p hp
    (repeat' (first | with_reducible refine brn_nd (fun h => ?_) (fun h => ?_) | with_reducible refine brn_d (fun h => ?_) (fun h => ?_) | with_reducible refine brn_nn (fun h => ?_) (fun h => ?_) | with_reducible refine brn_nb (fun h => ?_) (fun h => ?_) | with_reducible refine Brn.mk (fun h => ?_) (fun h => ?_) | with_reducible refine Chk.mk ?_ ?_ | with_reducible refine Bth.mk ?_ ?_ | with_reducible refine Fct.mk (fun hf => ?_)))
    · omega
    intro q hq
    have hlast : 0 = prevS s s.length := by unfold prevS; rw [if_pos (by omega)]
    (repeat' (first | with_reducible refine brn_nd (fun h => ?_) (fun h => ?_) | with_reducible refine brn_d (fun h => ?_) (fun h => ?_) | with_reducible refine brn_nn (fun h => ?_) (fun h => ?_) | with_reducible refine brn_nb (fun h => ?_) (fun h => ?_) | with_reducible refine Brn.mk (fun h => ?_) (fun h => ?_) | with_reducible refine Chk.mk ?_ ?_ | with_reducible refine Bth.mk ?_ ?_ | with_reducible refine Fct.mk (fun hf => ?_)))
    all_goals (first | exact rfl | omega | (simp; omega) | skip)
    have hf := new_facts hd hs hlast hp hq (by assumption)
    refine up0 (by omega) (by omega) ?_ ?_
    · intro I μ z h0 h1 nx
      (repeat' (first | with_reducible refine brn_nd (fun h => ?_) (fun h => ?_) | with_reducible refine brn_d (fun h => ?_) (fun h => ?_) | with_reducible refine brn_nn (fun h => ?_) (fun h => ?_) | with_reducible refine brn_nb (fun h => ?_) (fun h => ?_) | with_reducible refine Brn.mk (fun h => ?_) (fun h => ?_) | with_reducible refine Chk.mk ?_ ?_ | with_reducible refine Bth.mk ?_ ?_ | with_reducible refine Fct.mk (fun hf => ?_)))
      all_goals (first | omega | exact nx | exact absurd (hf.1 z h0 h1) (by assumption) | exact absurd (hf.2.1 z h0 h1 (by assumption)) (by assumption))
    · intro I μ
      (repeat' (first | with_reducible refine brn_nd (fun h => ?_) (fun h => ?_) | with_reducible refine brn_d (fun h => ?_) (fun h => ?_) | with_reducible refine brn_nn (fun h => ?_) (fun h => ?_) | with_reducible refine brn_nb (fun h => ?_) (fun h => ?_) | with_reducible refine Brn.mk (fun h => ?_) (fun h => ?_) | with_reducible refine Chk.mk ?_ ?_ | with_reducible refine Bth.mk ?_ ?_ | with_reducible refine Fct.mk (fun hf => ?_)))
      · rfl
      · exact absurd hf.2.2 (by assumption))
end Go.Proofs.Ytcjcndgfjaaklaa
