/- Regress: the law RegressAll, shown. -/
import Derived.Test.YtcbppkfnfbdkhaaKi
import Derived.Test.YtcbppkfnfbdkhaaKvAll
set_option linter.all false
set_option maxRecDepth 20000
set_option maxHeartbeats 4000000
namespace Go.Proofs.Ytcbppkfnfbdkhaa
open Go.RowKit Go.Shelf
theorem bool_ty {c : Cell} (h : HasTy tab 4 [c]) : ∃ n : Bool, c = .bool n := by
  obtain ⟨n, e⟩ := h.bool_ rfl
  injection e with e
  exact ⟨n, e⟩
theorem all_ins {l : List Rul} {n : Int} (hn : 0 ≤ n ∧ n < 4) (hl : (l.length : Int) = n ∧ RulM l) (v : Int) (hv : v = 1 ∨ v = 2) : RulOk (rAll v :: l) ∧ ∀ x ∈ rAll v :: l, x.wh.tre.size ≤ 1000 := by
  have rl := hl.2.ok (by omega)
  have hs := rnm_sz hl.2 (by omega)
  refine ⟨?_, fun x hx => ?_⟩
  · rw [← insL_0]
    exact insL_ok rl (by omega) (rAll_ck v hv) (fun x hx e => by
      have := hs x hx
      rw [e] at this
      exact absurd this (by show ¬ (3 : Nat) = 2; omega)) (by omega)
  · rcases List.mem_cons.1 hx with rfl | hx
    · have := (rAll_m v).2.2.1
      have e : szD (3 : Int).toNat = 13 := rfl
      omega
    · have := (hl.2.2 x hx).1.2.2.1
      have e : szD (3 : Int).toNat = 13 := rfl
      omega
theorem all_il (tape : List Int) (verdict : Bool) : ILt 6 [lv tape, bv verdict] := (lawAll_V tape verdict).2 (by
  (delta lawAll_V; dsimp only [mkV])
  intro kinds hk f hf
  obtain ⟨f1, f2⟩ := hf.2.ok hf.1
  have hw : ∀ x ∈ f, 0 < x.wh.length := fun x hx => (hf.2.1 x hx).1
  have hwa : ∀ x ∈ f, x.wh.length ≤ 1000 ∧ ∀ s ∈ x.wh, s.ly = [] := fun x hx => ⟨(f2.2 x hx).1, fun s hs => ((hf.2.1 x hx).2.2.2 s hs).1⟩
  constructor
  all_goals
    intro hvd
    refine Chk.mk (by omega) ?_
    intro n1 hn1
    refine Chk.mk (by omega) ?_
    intro l hl
  · rw [show ∀ L : List Rul, insL L { nm := { data := #[97, 108, 108] }, wh := { op := 5, tx := { data := #[] }, nu := 0, pr := 0, kids := [] }, vd := 2 } 0 = rAll 2 :: L from fun L => insL_0 L (rAll 2)]
    obtain ⟨h1, h2⟩ := all_ins hn1 hl 2 (.inr rfl)
    refine Chk.mk ⟨by omega, by omega, h1, h2⟩ (Chk.mk ⟨h1, f1, f2⟩ ?_)
    rw [opnS_all2]
    refine Chk.mk ⟨rfl, by simp, fun x hx => by cases hx⟩ ?_
    (repeat' (first | with_reducible refine brn_nd (fun h => ?_) (fun h => ?_) | with_reducible refine brn_d (fun h => ?_) (fun h => ?_) | with_reducible refine brn_nn (fun h => ?_) (fun h => ?_) | with_reducible refine brn_nb (fun h => ?_) (fun h => ?_) | with_reducible refine Brn.mk (fun h => ?_) (fun h => ?_) | with_reducible refine Chk.mk ?_ ?_ | with_reducible refine Bth.mk ?_ ?_ | with_reducible refine Fct.mk (fun hf => ?_)))
    all_goals first | rfl | (unfold InI; simp; omega) | skip
    exfalso
    have hne : f ≠ [] := fun e => by subst e; simp_all
    have e := idlS_all l kinds f 2 hne hw
    have hh : ¬ ((idlS (rAll 2 :: l) kinds f).length : Int) = ((rAll 2 :: l).length : Int) - 1 := by assumption
    rw [e] at hh; simp at hh
  · rw [show ∀ L : List Rul, insL L { nm := { data := #[97, 108, 108] }, wh := { op := 5, tx := { data := #[] }, nu := 0, pr := 0, kids := [] }, vd := 1 } 0 = rAll 1 :: L from fun L => insL_0 L (rAll 1)]
    obtain ⟨h1, h2⟩ := all_ins hn1 hl 1 (.inl rfl)
    refine Chk.mk ⟨by omega, by omega, h1, h2⟩ (Chk.mk ⟨h1, f1, f2⟩ ?_)
    rw [opnS_all1 l kinds f hw]
    refine Chk.mk ⟨rfl, f2.1, hwa⟩ ?_
    (repeat' (first | with_reducible refine brn_nd (fun h => ?_) (fun h => ?_) | with_reducible refine brn_d (fun h => ?_) (fun h => ?_) | with_reducible refine brn_nn (fun h => ?_) (fun h => ?_) | with_reducible refine brn_nb (fun h => ?_) (fun h => ?_) | with_reducible refine Brn.mk (fun h => ?_) (fun h => ?_) | with_reducible refine Chk.mk ?_ ?_ | with_reducible refine Bth.mk ?_ ?_ | with_reducible refine Fct.mk (fun hf => ?_)))
    all_goals first | rfl | (unfold InI; simp; omega) | skip
    exfalso
    have hne : f ≠ [] := fun e => by subst e; simp_all
    have e := idlS_all l kinds f 1 hne hw
    have hh : ¬ ((idlS (rAll 1 :: l) kinds f).length : Int) = ((rAll 1 :: l).length : Int) - 1 := by assumption
    rw [e] at hh; simp at hh)
end Go.Proofs.Ytcbppkfnfbdkhaa
