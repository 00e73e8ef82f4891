/- Makers: Directory. -/
import Derived.Test.YtcbppkfnfbdkhaaQCo
set_option linter.all false
set_option maxRecDepth 20000
set_option maxHeartbeats 2000000
namespace Go.Proofs.Ytcbppkfnfbdkhaa
open Go.RowKit Go.Shelf
theorem ex_iff {d : Dir} {p : Int} : d.ex p = true ↔ 0 ≤ p ∧ p < (d.kinds.length : Int) := by simp [Dir.ex]
structure DirOk (d : Dir) : Prop where
  v : dirB d = true
  n : 3 ≤ d.kinds.length ∧ d.kinds.length ≤ 7
  m : d.evs.length ≤ 11 ∧ ∀ x ∈ d.evs, x.time ≤ 100
structure EvJ (ks : List Int) (evs : List Mb) (b : Int) : Prop where
  s : ∀ i : Nat, i < evs.length → evOk ⟨ks, []⟩ (prevT evs i) (gt evs (i : Int)) = true
  l : prevT evs evs.length ≤ b
theorem prevT_app {a : List Mb} {x : Mb} {i : Nat} (h : i ≤ a.length) : prevT (a ++ [x]) i = prevT a i := by
  unfold prevT
  split
  · rfl
  · rw [gt_app_l (by omega) (by omega)]
theorem EvJ.snoc {ks : List Int} {evs : List Mb} {b : Int} (h : EvJ ks evs b) {x : Mb} (hb : b ≤ x.time) (hx : evOk ⟨ks, []⟩ b x = true) : EvJ ks (evs ++ [x]) x.time := by
  have hh := evOk_iff.1 hx
  refine ⟨fun i hi => ?_, ?_⟩
  · simp only [List.length_append, List.length_singleton] at hi
    rw [prevT_app (by omega)]
    by_cases e : i < evs.length
    · rw [gt_app_l (by omega) (by omega)]; exact h.s i e
    · obtain rfl : i = evs.length := by omega
      rw [gt_app_r]
      have := h.l
      exact evOk_iff.2 ⟨hh.1, by omega, hh.2.2⟩
  · rw [List.length_append, List.length_singleton, prevT_succ, gt_app_r]; exact Int.le_refl _
theorem EvJ.mono {ks : List Int} {evs : List Mb} {b c : Int} (h : EvJ ks evs b) (hb : b ≤ c) : EvJ ks evs c := ⟨h.s, Int.le_trans h.l hb⟩
theorem dir_of {ks : List Int} {evs : List Mb} {b : Int} (hk : ∀ k ∈ ks, 1 ≤ k ∧ k ≤ 3) (h1 : ks.length ≤ 24) (h2 : evs.length ≤ 120) (h : EvJ ks evs b) : dirB ⟨ks, evs⟩ = true :=
  dirB_iff.2 ⟨h1, h2, hk, h.s⟩
theorem ClkOk.lo {n : Int} {l : List Int} (h : ClkOk n l) : ∀ i : Nat, i ≤ l.length → 0 ≤ prevI l i := by
  intro i
  induction i with
  | zero => simp [prevI]
  | succ i ih =>
    intro hi
    have h1 := ih (by omega)
    have h2 := (h.s i (by omega)).1
    unfold prevI
    rw [if_neg (by omega)]
    have : ((i + 1 : Nat) : Int) - 1 = (i : Int) := by omega
    rw [this]; omega
theorem prevI_succ (l : List Int) (i : Nat) : prevI l (i + 1) = gt l (i : Int) := by
  unfold prevI; rw [if_neg (by omega)]; congr 1; omega
theorem Directory_nd : ICt 27 [.one .tape] (ND (fun d => DirOk d) Dir.v) := (MkDir_V _).2 (by
  (delta MkDir_V; dsimp only [mkV])
  (repeat' (first | with_reducible refine brn_nd (fun h => ?_) (fun h => ?_) | with_reducible refine brn_d (fun h => ?_) (fun h => ?_) | with_reducible refine brn_nn (fun h => ?_) (fun h => ?_) | with_reducible refine brn_nb (fun h => ?_) (fun h => ?_) | with_reducible refine Brn.mk (fun h => ?_) (fun h => ?_) | with_reducible refine Chk.mk ?_ ?_ | with_reducible refine Bth.mk ?_ ?_ | with_reducible refine Fct.mk (fun hf => ?_)))
  · omega
  intro x hx
  refine lp2 (fun (ks : List Int) (i : Int) => 0 ≤ i ∧ i ≤ x ∧ (ks.length : Int) = 1 + (x - i) ∧ ∀ k ∈ ks, 1 ≤ k ∧ k ≤ 3) (fun _ i => i.toNat) ⟨by omega, by omega, by simp, by simp⟩ ?_
  rintro I μ nx ks i ⟨h0, h1, h2, hk⟩
  (repeat' (first | with_reducible refine brn_nd (fun h => ?_) (fun h => ?_) | with_reducible refine brn_d (fun h => ?_) (fun h => ?_) | with_reducible refine brn_nn (fun h => ?_) (fun h => ?_) | with_reducible refine brn_nb (fun h => ?_) (fun h => ?_) | with_reducible refine Brn.mk (fun h => ?_) (fun h => ?_) | with_reducible refine Chk.mk ?_ ?_ | with_reducible refine Bth.mk ?_ ?_ | with_reducible refine Fct.mk (fun hf => ?_)))
  · simp
  · intro y hy
    (repeat' (first | with_reducible refine brn_nd (fun h => ?_) (fun h => ?_) | with_reducible refine brn_d (fun h => ?_) (fun h => ?_) | with_reducible refine brn_nn (fun h => ?_) (fun h => ?_) | with_reducible refine brn_nb (fun h => ?_) (fun h => ?_) | with_reducible refine Brn.mk (fun h => ?_) (fun h => ?_) | with_reducible refine Chk.mk ?_ ?_ | with_reducible refine Bth.mk ?_ ?_ | with_reducible refine Fct.mk (fun hf => ?_)))
    all_goals (first | omega | (simp; omega) | skip)
    refine nx _ _ _ _ ⟨h0, h1, h2, hk⟩ ⟨by omega, by omega, by simp; omega, fun k hk' => ?_⟩ (by omega)
    rcases List.mem_append.1 hk' with hk' | hk'
    · exact hk k hk'
    · simp at hk' hy; subst hk'; omega
  have hx0 : i = 0 := by omega
  refine up2 (fun (g : List Int) z => g.length ≤ z ∧ ∀ p ∈ g, 0 ≤ p ∧ p < ks.length ∧ gt ks p = 2) (by omega) ⟨by simp, by simp⟩ ?_ ?_
  · rintro I μ g z hz0 hz1 ⟨hg0, hg⟩ nx
    (repeat' (first | with_reducible refine brn_nd (fun h => ?_) (fun h => ?_) | with_reducible refine brn_d (fun h => ?_) (fun h => ?_) | with_reducible refine brn_nn (fun h => ?_) (fun h => ?_) | with_reducible refine brn_nb (fun h => ?_) (fun h => ?_) | with_reducible refine Brn.mk (fun h => ?_) (fun h => ?_) | with_reducible refine Chk.mk ?_ ?_ | with_reducible refine Bth.mk ?_ ?_ | with_reducible refine Fct.mk (fun hf => ?_)))
    all_goals (first | omega | (simp; omega) | skip)
    · refine nx _ ⟨by simp; omega, fun p hp => ?_⟩
      rcases List.mem_append.1 hp with hp | hp
      · exact hg p hp
      · simp at hp; subst hp; exact ⟨by omega, by omega, h⟩
    · exact nx _ ⟨by omega, hg⟩
  rintro I μ g ⟨hg0, hg⟩
  (repeat' (first | with_reducible refine brn_nd (fun h => ?_) (fun h => ?_) | with_reducible refine brn_d (fun h => ?_) (fun h => ?_) | with_reducible refine brn_nn (fun h => ?_) (fun h => ?_) | with_reducible refine brn_nb (fun h => ?_) (fun h => ?_) | with_reducible refine Brn.mk (fun h => ?_) (fun h => ?_) | with_reducible refine Chk.mk ?_ ?_ | with_reducible refine Bth.mk ?_ ?_ | with_reducible refine Fct.mk (fun hf => ?_)))
  · refine ⟨⟨ks, []⟩, ⟨dir_of hk (by omega) (by simp) (b := 0) ⟨by simp, by simp [prevT]⟩, by constructor <;> (show _ ≤ _) <;> simp only <;> omega, ⟨by simp, by simp⟩⟩, rfl⟩
  · omega
  intro y hy
  (repeat' (first | with_reducible refine brn_nd (fun h => ?_) (fun h => ?_) | with_reducible refine brn_d (fun h => ?_) (fun h => ?_) | with_reducible refine brn_nn (fun h => ?_) (fun h => ?_) | with_reducible refine brn_nb (fun h => ?_) (fun h => ?_) | with_reducible refine Brn.mk (fun h => ?_) (fun h => ?_) | with_reducible refine Chk.mk ?_ ?_ | with_reducible refine Bth.mk ?_ ?_ | with_reducible refine Fct.mk (fun hf => ?_)))
  · omega
  intro clk hclk
  have hcn := hclk.n
  (repeat' (first | with_reducible refine brn_nd (fun h => ?_) (fun h => ?_) | with_reducible refine brn_d (fun h => ?_) (fun h => ?_) | with_reducible refine brn_nn (fun h => ?_) (fun h => ?_) | with_reducible refine brn_nb (fun h => ?_) (fun h => ?_) | with_reducible refine Brn.mk (fun h => ?_) (fun h => ?_) | with_reducible refine Chk.mk ?_ ?_ | with_reducible refine Bth.mk ?_ ?_ | with_reducible refine Fct.mk (fun hf => ?_)))
  refine up3 (fun (ks' : List Int) (evs : List Mb) (z : Int) => ks' = ks ∧ (evs.length : Int) ≤ z ∧ EvJ ks evs (prevI clk z.toNat) ∧ ∀ x ∈ evs, x.time ≤ 100) (by omega) ⟨rfl, by simp, ⟨by simp, by simp [prevT, prevI]⟩, by simp⟩ ?_ ?_
  · rintro I μ ks' evs z hz0 hz1 ⟨rfl, he, hj, ht⟩ nx
    obtain ⟨i, rfl, hi⟩ := natz hz0 hz1
    have hc := hclk.s i (by omega)
    have hl := hclk.lo i (by omega)
    simp only [Int.toNat_natCast] at hj
    have e1 : ((i : Int) + 1).toNat = i + 1 := by omega
    rw [e1, prevI_succ] at nx
    (repeat' (first | with_reducible refine brn_nd (fun h => ?_) (fun h => ?_) | with_reducible refine brn_d (fun h => ?_) (fun h => ?_) | with_reducible refine brn_nn (fun h => ?_) (fun h => ?_) | with_reducible refine brn_nb (fun h => ?_) (fun h => ?_) | with_reducible refine Brn.mk (fun h => ?_) (fun h => ?_) | with_reducible refine Chk.mk ?_ ?_ | with_reducible refine Bth.mk ?_ ?_ | with_reducible refine Fct.mk (fun hf => ?_)))
    · omega
    · omega
    intro p hp
    (repeat' (first | with_reducible refine brn_nd (fun h => ?_) (fun h => ?_) | with_reducible refine brn_d (fun h => ?_) (fun h => ?_) | with_reducible refine brn_nn (fun h => ?_) (fun h => ?_) | with_reducible refine brn_nb (fun h => ?_) (fun h => ?_) | with_reducible refine Brn.mk (fun h => ?_) (fun h => ?_) | with_reducible refine Chk.mk ?_ ?_ | with_reducible refine Bth.mk ?_ ?_ | with_reducible refine Fct.mk (fun hf => ?_)))
    · omega
    intro q hq
    (repeat' (first | with_reducible refine brn_nd (fun h => ?_) (fun h => ?_) | with_reducible refine brn_d (fun h => ?_) (fun h => ?_) | with_reducible refine brn_nn (fun h => ?_) (fun h => ?_) | with_reducible refine brn_nb (fun h => ?_) (fun h => ?_) | with_reducible refine Brn.mk (fun h => ?_) (fun h => ?_) | with_reducible refine Chk.mk ?_ ?_ | with_reducible refine Bth.mk ?_ ?_ | with_reducible refine Fct.mk (fun hf => ?_)))
    · omega
    intro r hr
    obtain ⟨g1, g2, g3⟩ := hg (gt g q) (gt_mem hq.1 hq.2)
    have step : ∀ kd : Int, kd = 1 ∨ kd = 2 → ¬ p = gt g q → ks' = ks' ∧ ((evs ++ [(⟨gt clk (i : Int), kd, p, gt g q⟩ : Mb)]).length : Int) ≤ (i : Int) + 1 ∧ EvJ ks' (evs ++ [⟨gt clk (i : Int), kd, p, gt g q⟩]) (gt clk (i : Int)) ∧ ∀ x ∈ evs ++ [(⟨gt clk (i : Int), kd, p, gt g q⟩ : Mb)], x.time ≤ 100 := fun kd hkd hne => by
      refine ⟨rfl, by simp; omega, hj.snoc (x := ⟨gt clk (i : Int), kd, p, gt g q⟩) hc.1 (evOk_iff.2 ⟨hkd, hc.1, by simp only; omega, ?_, ?_, hne⟩), fun w hw => ?_⟩
      · exact ex_iff.2 hp
      · simp only [Dir.grp, Bool.and_eq_true, decide_eq_true_eq]; exact ⟨ex_iff.2 ⟨g1, g2⟩, g3⟩
      · rcases List.mem_append.1 hw with hw | hw
        · exact ht w hw
        · simp at hw; subst hw; simp only; omega
    have stay : ks' = ks' ∧ (evs.length : Int) ≤ (i : Int) + 1 ∧ EvJ ks' evs (gt clk (i : Int)) ∧ ∀ x ∈ evs, x.time ≤ 100 := ⟨rfl, by omega, hj.mono hc.1, ht⟩
    (repeat' (first | with_reducible refine brn_nd (fun h => ?_) (fun h => ?_) | with_reducible refine brn_d (fun h => ?_) (fun h => ?_) | with_reducible refine brn_nn (fun h => ?_) (fun h => ?_) | with_reducible refine brn_nb (fun h => ?_) (fun h => ?_) | with_reducible refine Brn.mk (fun h => ?_) (fun h => ?_) | with_reducible refine Chk.mk ?_ ?_ | with_reducible refine Bth.mk ?_ ?_ | with_reducible refine Fct.mk (fun hf => ?_)))
    all_goals (first | omega | (simp; omega) | exact nx _ _ stay | exact nx _ _ (step _ (by omega) (by assumption)))
  · rintro I μ ks' evs ⟨rfl, he, hj, ht⟩
    exact ⟨⟨ks', evs⟩, ⟨dir_of hk (by omega) (by omega) hj, by constructor <;> (show _ ≤ _) <;> simp only <;> omega, ⟨by simp only; omega, ht⟩⟩, rfl⟩)
end Go.Proofs.Ytcbppkfnfbdkhaa
