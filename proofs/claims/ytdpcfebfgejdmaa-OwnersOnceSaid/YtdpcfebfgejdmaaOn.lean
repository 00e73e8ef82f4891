/- Makers: Stewards; awake, shown. -/
import Derived.Test.YtdpcfebfgejdmaaOm
set_option linter.all false
set_option maxRecDepth 20000
set_option maxHeartbeats 2000000
namespace Go.Proofs.Ytdpcfebfgejdmaa
open Go.RowKit Go.Shelf
theorem awake_ic : ICt 27 [] (fun v => v = bv true) := (awake_V _).2 (by
  (delta awake_V; dsimp only [mkV])
  (repeat' (first | with_reducible refine brn_nd (fun h => ?_) (fun h => ?_) | with_reducible refine brn_d (fun h => ?_) (fun h => ?_) | with_reducible refine brn_nn (fun h => ?_) (fun h => ?_) | with_reducible refine brn_nb (fun h => ?_) (fun h => ?_) | with_reducible refine Brn.mk (fun h => ?_) (fun h => ?_) | with_reducible refine Chk.mk ?_ ?_ | with_reducible refine Bth.mk ?_ ?_ | with_reducible refine Fct.mk (fun hf => ?_)))
  all_goals kernel_rfl)
structure StJ (d : Dir) (l : List Stw) (b : Int) : Prop where
  s : ∀ i : Nat, i < l.length → stOk d (prevS l i) (gt l (i : Int)) = true
  l : prevS l l.length ≤ b
theorem prevS_app {a : List Stw} {x : Stw} {i : Nat} (h : i ≤ a.length) : prevS (a ++ [x]) i = prevS a i := by
  unfold prevS
  split
  · rfl
  · rw [gt_app_l (by omega) (by omega)]
theorem StJ.snoc {d : Dir} {l : List Stw} {b : Int} (h : StJ d l b) {x : Stw} (hx : stOk d b x = true) : StJ d (l ++ [x]) x.time := by
  have hh := stOk_iff.1 hx
  refine ⟨fun i hi => ?_, ?_⟩
  · simp only [List.length_append, List.length_singleton] at hi
    rw [prevS_app (by omega)]
    by_cases e : i < l.length
    · rw [gt_app_l (by omega) (by omega)]; exact h.s i e
    · obtain rfl : i = l.length := by omega
      rw [gt_app_r]
      have := h.l
      exact stOk_iff.2 ⟨by omega, hh.2⟩
  · rw [List.length_append, List.length_singleton, prevS_succ, gt_app_r]; exact Int.le_refl _
theorem StJ.mono {d : Dir} {l : List Stw} {b c : Int} (h : StJ d l b) (hb : b ≤ c) : StJ d l c := ⟨h.s, Int.le_trans h.l hb⟩
structure StsOk (d : Dir) (l : List Stw) : Prop where
  v : stE d l = 0
  n : l.length ≤ 10
  t : ∀ x ∈ l, x.time ≤ 25
  j : StJ d l 25
theorem Stewards_nd (d : Dir) : ICp (DirOk d) 29 [.one .tape, d.v] (ND (fun l : List Stw => StsOk d l) stws) := fun hd => (MkStw_V d _).2 (by
  have hn := hd.n
  (delta MkStw_V; dsimp only [mkV])
  (repeat' (first | with_reducible refine brn_nd (fun h => ?_) (fun h => ?_) | with_reducible refine brn_d (fun h => ?_) (fun h => ?_) | with_reducible refine brn_nn (fun h => ?_) (fun h => ?_) | with_reducible refine brn_nb (fun h => ?_) (fun h => ?_) | with_reducible refine Brn.mk (fun h => ?_) (fun h => ?_) | with_reducible refine Chk.mk ?_ ?_ | with_reducible refine Bth.mk ?_ ?_ | with_reducible refine Fct.mk (fun hf => ?_)))
  · omega
  intro x hx
  (repeat' (first | with_reducible refine brn_nd (fun h => ?_) (fun h => ?_) | with_reducible refine brn_d (fun h => ?_) (fun h => ?_) | with_reducible refine brn_nn (fun h => ?_) (fun h => ?_) | with_reducible refine brn_nb (fun h => ?_) (fun h => ?_) | with_reducible refine Brn.mk (fun h => ?_) (fun h => ?_) | with_reducible refine Chk.mk ?_ ?_ | with_reducible refine Bth.mk ?_ ?_ | with_reducible refine Fct.mk (fun hf => ?_)))
  · omega
  intro clk hclk
  have hcn := hclk.n
  (repeat' (first | with_reducible refine brn_nd (fun h => ?_) (fun h => ?_) | with_reducible refine brn_d (fun h => ?_) (fun h => ?_) | with_reducible refine brn_nn (fun h => ?_) (fun h => ?_) | with_reducible refine brn_nb (fun h => ?_) (fun h => ?_) | with_reducible refine Brn.mk (fun h => ?_) (fun h => ?_) | with_reducible refine Chk.mk ?_ ?_ | with_reducible refine Bth.mk ?_ ?_ | with_reducible refine Fct.mk (fun hf => ?_)))
  refine up2 (fun (l : List Stw) (z : Int) => (l.length : Int) ≤ z ∧ (∀ x ∈ l, x.time ≤ 25) ∧ StJ d l (prevI clk z.toNat)) (by omega) ⟨by simp, by simp, ⟨by simp, by simp [prevS, prevI]⟩⟩ ?_ ?_
  · rintro I μ l z hz0 hz1 ⟨he, ht, hj⟩ nx
    obtain ⟨i, rfl, hi⟩ := natz hz0 hz1
    have hc := hclk.s i (by omega)
    have hl := hclk.lo i (by omega)
    simp only [Int.toNat_natCast] at hj
    have e1 : ((i : Int) + 1).toNat = i + 1 := by omega
    rw [e1, prevI_succ] at nx
    have step : ∀ p q : Int, (0 ≤ p ∧ p < d.kinds.length) → (-1 ≤ q ∧ q ≤ (d.kinds.length : Int) - 1) → ¬ p = q → ((l ++ [(⟨gt clk (i : Int), p, q⟩ : Stw)]).length : Int) ≤ (i : Int) + 1 ∧ (∀ x ∈ l ++ [(⟨gt clk (i : Int), p, q⟩ : Stw)], x.time ≤ 25) ∧ StJ d (l ++ [⟨gt clk (i : Int), p, q⟩]) (gt clk (i : Int)) := fun p q hp hq hne => by
      refine ⟨by simp; omega, fun y hy => ?_, (hj.mono hc.1).snoc (x := ⟨gt clk (i : Int), p, q⟩) (stOk_iff.2 ⟨Int.le_refl _, by simp only; omega, ex_iff.2 hp, ?_⟩)⟩
      · rcases List.mem_append.1 hy with hy | hy
        · exact ht y hy
        · simp at hy; subst hy; simp only; omega
      · by_cases e : q = -1
        · exact .inl e
        · exact .inr ⟨ex_iff.2 ⟨by simp only; omega, by simp only; omega⟩, fun e => hne e.symm⟩
    have stay : (l.length : Int) ≤ (i : Int) + 1 ∧ (∀ x ∈ l, x.time ≤ 25) ∧ StJ d l (gt clk (i : Int)) := ⟨by omega, ht, hj.mono hc.1⟩
    (repeat' (first | with_reducible refine brn_nd (fun h => ?_) (fun h => ?_) | with_reducible refine brn_d (fun h => ?_) (fun h => ?_) | with_reducible refine brn_nn (fun h => ?_) (fun h => ?_) | with_reducible refine brn_nb (fun h => ?_) (fun h => ?_) | with_reducible refine Brn.mk (fun h => ?_) (fun h => ?_) | with_reducible refine Chk.mk ?_ ?_ | with_reducible refine Bth.mk ?_ ?_ | with_reducible refine Fct.mk (fun hf => ?_)))
    all_goals (first | omega | skip)
    all_goals (intro p hp; (repeat' (first | with_reducible refine brn_nd (fun h => ?_) (fun h => ?_) | with_reducible refine brn_d (fun h => ?_) (fun h => ?_) | with_reducible refine brn_nn (fun h => ?_) (fun h => ?_) | with_reducible refine brn_nb (fun h => ?_) (fun h => ?_) | with_reducible refine Brn.mk (fun h => ?_) (fun h => ?_) | with_reducible refine Chk.mk ?_ ?_ | with_reducible refine Bth.mk ?_ ?_ | with_reducible refine Fct.mk (fun hf => ?_))))
    all_goals (first | omega | skip)
    all_goals (intro q hq; (repeat' (first | with_reducible refine brn_nd (fun h => ?_) (fun h => ?_) | with_reducible refine brn_d (fun h => ?_) (fun h => ?_) | with_reducible refine brn_nn (fun h => ?_) (fun h => ?_) | with_reducible refine brn_nb (fun h => ?_) (fun h => ?_) | with_reducible refine Brn.mk (fun h => ?_) (fun h => ?_) | with_reducible refine Chk.mk ?_ ?_ | with_reducible refine Bth.mk ?_ ?_ | with_reducible refine Fct.mk (fun hf => ?_))))
    all_goals (first | omega | (simp; omega) | exact nx _ stay | exact nx _ (step _ _ (by assumption) (by assumption) (by first | assumption | exact fun e => absurd e.symm (by assumption))))
  · rintro I μ l ⟨he, ht, hj⟩
    have hcl : clk.length ≤ 9 := by omega
    refine ⟨l, ⟨stE_0.2 ⟨hd.v, by omega, hj.s⟩, by omega, ht, hj.mono ?_⟩, rfl⟩
    rw [Int.toNat_natCast]
    unfold prevI
    split
    · omega
    · have := (hclk.s (clk.length - 1) (by omega)).2
      have e : ((clk.length : Int) - 1) = ((clk.length - 1 : Nat) : Int) := by omega
      rw [e]; omega)
end Go.Proofs.Ytdpcfebfgejdmaa
