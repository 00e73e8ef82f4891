/- Stewards: the same, shown. -/
import Derived.Test.YtdpcfebfgejdmaaOe
set_option linter.all false
set_option maxRecDepth 20000
set_option maxHeartbeats 2000000
namespace Go.Proofs.Ytdpcfebfgejdmaa
open Go.RowKit Go.Shelf
/-- The place of x, or -1. -/
def at_ (l : List Int) (x : Int) : Int := idxOf (fun y => decide (y = x)) l
def hasB (l : List Int) (x : Int) : Bool := decide (x ∈ l)
theorem hasB_at (l : List Int) (x : Int) : decide (0 ≤ at_ l x) = hasB l x := by
  unfold at_ hasB
  rw [idxOf_ge, Bool.eq_iff_iff]
  simp
theorem take_snoc {α : Type} [Inhabited α] {l : List α} {i : Nat} (h : i < l.length) : l.take (i + 1) = l.take i ++ [gt l (i : Int)] := by
  rw [List.take_succ_eq_append_getElem h, gt_nat h]
theorem sIndex_ic (l : List Int) (x : Int) : ICt 86 [lv l, iv x] (fun v => v = iv (at_ l x)) := (sIndex_V l x _).2 (by
  (delta sIndex_V; dsimp only [mkV])
  (repeat' (first | with_reducible refine brn_nd (fun h => ?_) (fun h => ?_) | with_reducible refine brn_d (fun h => ?_) (fun h => ?_) | with_reducible refine brn_nn (fun h => ?_) (fun h => ?_) | with_reducible refine brn_nb (fun h => ?_) (fun h => ?_) | with_reducible refine Brn.mk (fun h => ?_) (fun h => ?_) | with_reducible refine Chk.mk ?_ ?_ | with_reducible refine Bth.mk ?_ ?_ | with_reducible refine Fct.mk (fun hf => ?_)))
  refine up1 (fun z => x ∉ l.take z.toNat) (by omega) (by simp) ?_ ?_
  · rintro I μ z h0 h1 hj nx
    obtain ⟨i, rfl, hi⟩ := natz h0 h1
    simp only [Int.toNat_natCast] at hj
    (repeat' (first | with_reducible refine brn_nd (fun h => ?_) (fun h => ?_) | with_reducible refine brn_d (fun h => ?_) (fun h => ?_) | with_reducible refine brn_nn (fun h => ?_) (fun h => ?_) | with_reducible refine brn_nb (fun h => ?_) (fun h => ?_) | with_reducible refine Brn.mk (fun h => ?_) (fun h => ?_) | with_reducible refine Chk.mk ?_ ?_ | with_reducible refine Bth.mk ?_ ?_ | with_reducible refine Fct.mk (fun hf => ?_)))
    · omega
    · refine congrArg iv (idxOf_at (i := i) (by omega) (by rw [← gt_nat (by omega)]; simp [h]) fun j hj' => ?_).symm
      have : l[j] ∈ l.take i := by rw [List.mem_take_iff_getElem]; exact ⟨j, by omega, rfl⟩
      simp only [decide_eq_false_iff_not]
      intro e; exact hj (e ▸ this)
    · omega
    · refine nx ?_
      have e : ((i : Int) + 1).toNat = i + 1 := by omega
      rw [e, take_snoc (by omega)]
      simp [hj, h]
  · intro I μ hj
    simp only [Int.toNat_natCast, List.take_length] at hj
    refine congrArg iv (idxOf_none fun y hy => ?_).symm
    simp only [decide_eq_false_iff_not]
    intro e; exact hj (e ▸ hy))
theorem rHas_ic (l : List Int) (x : Int) : ICt 20 [lv l, iv x] (fun v => v = bv (hasB l x)) := (rHas_V l x _).2 (by
  (delta rHas_V; dsimp only [mkV])
  (repeat' (first | with_reducible refine brn_nd (fun h => ?_) (fun h => ?_) | with_reducible refine brn_d (fun h => ?_) (fun h => ?_) | with_reducible refine brn_nn (fun h => ?_) (fun h => ?_) | with_reducible refine brn_nb (fun h => ?_) (fun h => ?_) | with_reducible refine Brn.mk (fun h => ?_) (fun h => ?_) | with_reducible refine Chk.mk ?_ ?_ | with_reducible refine Bth.mk ?_ ?_ | with_reducible refine Fct.mk (fun hf => ?_)))
  refine up1 (fun z => x ∉ l.take z.toNat) (by omega) (by simp) ?_ ?_
  · rintro I μ z h0 h1 hj nx
    obtain ⟨i, rfl, hi⟩ := natz h0 h1
    simp only [Int.toNat_natCast] at hj
    (repeat' (first | with_reducible refine brn_nd (fun h => ?_) (fun h => ?_) | with_reducible refine brn_d (fun h => ?_) (fun h => ?_) | with_reducible refine brn_nn (fun h => ?_) (fun h => ?_) | with_reducible refine brn_nb (fun h => ?_) (fun h => ?_) | with_reducible refine Brn.mk (fun h => ?_) (fun h => ?_) | with_reducible refine Chk.mk ?_ ?_ | with_reducible refine Bth.mk ?_ ?_ | with_reducible refine Fct.mk (fun hf => ?_)))
    · omega
    · have := gt_mem (xs := l) h0 h1
      rw [h] at this
      simp [hasB, this]
    · omega
    · refine nx ?_
      have e : ((i : Int) + 1).toNat = i + 1 := by omega
      rw [e, take_snoc (by omega)]
      simp only [List.mem_append, List.mem_singleton, not_or]
      exact ⟨hj, fun e => h e.symm⟩
  · intro I μ hj
    simp only [Int.toNat_natCast, List.take_length] at hj
    simp [hasB, hj])
/-- The newest steward. -/
def ofS (l : List Stw) (p t : Int) : Int := l.foldl (fun o x => if x.sub = p ∧ x.time ≤ t then x.stw else o) (-1)
theorem ofS_succ {l : List Stw} {i : Nat} (h : i < l.length) (p t : Int) : ofS (l.take (i + 1)) p t = if (gt l (i : Int)).sub = p ∧ (gt l (i : Int)).time ≤ t then (gt l (i : Int)).stw else ofS (l.take i) p t := by
  rw [take_snoc h]; unfold ofS; rw [List.foldl_append]; rfl
theorem oof_ic (l : List Stw) (p t : Int) : ICt 73 [.one (.d (.list (l.map Stw.row))), iv p, iv t] (fun v => v = iv (ofS l p t)) := (oof_V l p t _).2 (by
  (delta oof_V; dsimp only [mkV])
  (repeat' (first | with_reducible refine brn_nd (fun h => ?_) (fun h => ?_) | with_reducible refine brn_d (fun h => ?_) (fun h => ?_) | with_reducible refine brn_nn (fun h => ?_) (fun h => ?_) | with_reducible refine brn_nb (fun h => ?_) (fun h => ?_) | with_reducible refine Brn.mk (fun h => ?_) (fun h => ?_) | with_reducible refine Chk.mk ?_ ?_ | with_reducible refine Bth.mk ?_ ?_ | with_reducible refine Fct.mk (fun hf => ?_)))
  refine up2 (fun o z => o = ofS (l.take z.toNat) p t) (by omega) rfl ?_ ?_
  · rintro I μ o z h0 h1 rfl nx
    obtain ⟨i, rfl, hi⟩ := natz h0 h1
    have e : ((i : Int) + 1).toNat = i + 1 := by omega
    have hs := ofS_succ (l := l) (i := i) (by omega) p t
    (repeat' (first | with_reducible refine brn_nd (fun h => ?_) (fun h => ?_) | with_reducible refine brn_d (fun h => ?_) (fun h => ?_) | with_reducible refine brn_nn (fun h => ?_) (fun h => ?_) | with_reducible refine brn_nb (fun h => ?_) (fun h => ?_) | with_reducible refine Brn.mk (fun h => ?_) (fun h => ?_) | with_reducible refine Chk.mk ?_ ?_ | with_reducible refine Bth.mk ?_ ?_ | with_reducible refine Fct.mk (fun hf => ?_)))
    all_goals (first | omega | refine nx _ ?_)
    all_goals (simp only [e, hs, Int.toNat_natCast]; simp [*])
  · rintro I μ o rfl
    simp)
theorem rof_ic (l : List Stw) (p t : Int) : ICt 78 [.one (.d (.list (l.map Stw.row))), iv p, iv t] (fun v => v = iv (ofS l p t)) := (rof_V l p t _).2 (by
  (delta rof_V; dsimp only [mkV])
  (repeat' (first | with_reducible refine brn_nd (fun h => ?_) (fun h => ?_) | with_reducible refine brn_d (fun h => ?_) (fun h => ?_) | with_reducible refine brn_nn (fun h => ?_) (fun h => ?_) | with_reducible refine brn_nb (fun h => ?_) (fun h => ?_) | with_reducible refine Brn.mk (fun h => ?_) (fun h => ?_) | with_reducible refine Chk.mk ?_ ?_ | with_reducible refine Bth.mk ?_ ?_ | with_reducible refine Fct.mk (fun hf => ?_)))
  refine up2 (fun o z => o = ofS (l.take z.toNat) p t) (by omega) rfl ?_ ?_
  · rintro I μ o z h0 h1 rfl nx
    obtain ⟨i, rfl, hi⟩ := natz h0 h1
    have e : ((i : Int) + 1).toNat = i + 1 := by omega
    have hs := ofS_succ (l := l) (i := i) (by omega) p t
    (repeat' (first | with_reducible refine brn_nd (fun h => ?_) (fun h => ?_) | with_reducible refine brn_d (fun h => ?_) (fun h => ?_) | with_reducible refine brn_nn (fun h => ?_) (fun h => ?_) | with_reducible refine brn_nb (fun h => ?_) (fun h => ?_) | with_reducible refine Brn.mk (fun h => ?_) (fun h => ?_) | with_reducible refine Chk.mk ?_ ?_ | with_reducible refine Bth.mk ?_ ?_ | with_reducible refine Fct.mk (fun hf => ?_)))
    all_goals (first | omega | refine nx _ ?_)
    all_goals (simp only [e, hs, Int.toNat_natCast]; simp [*])
  · rintro I μ o rfl
    simp)
def stOk (d : Dir) (last : Int) (x : Stw) : Bool := decide (last ≤ x.time) && decide (x.time ≤ 1099511627776) && d.ex x.sub && (decide (x.stw = -1) || d.ex x.stw && !decide (x.stw = x.sub))
theorem stOk_iff {d : Dir} {t : Int} {x : Stw} : stOk d t x = true ↔ t ≤ x.time ∧ x.time ≤ 1099511627776 ∧ d.ex x.sub = true ∧ (x.stw = -1 ∨ d.ex x.stw = true ∧ ¬ x.stw = x.sub) := by
  simp [stOk, and_assoc]
def prevS (l : List Stw) (i : Nat) : Int := if i = 0 then 0 else (gt l ((i : Int) - 1)).time
theorem prevS_succ (l : List Stw) (i : Nat) : prevS l (i + 1) = (gt l (i : Int)).time := by
  unfold prevS; rw [if_neg (by omega)]; congr 1; congr 1; omega
/-- 0, 30 or 33. -/
def stE (d : Dir) (l : List Stw) : Int :=
  if dirB d = true then (if l.length ≤ 120 ∧ allN l.length (fun i => stOk d (prevS l i) (gt l (i : Int))) = true then 0 else 33) else 30
theorem stE_0 {d : Dir} {l : List Stw} : stE d l = 0 ↔ dirB d = true ∧ l.length ≤ 120 ∧ ∀ i, i < l.length → stOk d (prevS l i) (gt l (i : Int)) = true := by
  unfold stE
  simp only [allN_iff]
  by_cases h : dirB d = true
  · simp only [h, if_true, true_and]
    split <;> simp_all
  · simp [h]
theorem prevS_nn {d : Dir} {l : List Stw} {i : Nat} (h : ∀ j, j < i → stOk d (prevS l j) (gt l (j : Int)) = true) : 0 ≤ prevS l i := by
  induction i with
  | zero => simp [prevS]
  | succ i ih =>
    rw [prevS_succ]
    have h1 := ih fun j hj => h j (by omega)
    have h2 := (stOk_iff.1 (h i (by omega))).1
    omega
theorem ex_no {d : Dir} {p : Int} (h : d.ex p = true) : ¬ p = -1 := by simp [Dir.ex] at h; omega
theorem stE_bad {d : Dir} {l : List Stw} (h1 : dirB d = true) (h2 : ¬ (l.length ≤ 120 ∧ ∀ i, i < l.length → stOk d (prevS l i) (gt l (i : Int)) = true)) : iv 33 = iv (stE d l) := by
  simp only [stE, h1, if_true, allN_iff, if_neg h2]
theorem oCheck_ic (d : Dir) (l : List Stw) : ICt 36 [d.v, .one (.d (.list (l.map Stw.row)))] (fun v => v = iv (stE d l)) := (oCheck_V d l _).2 (by
  (delta oCheck_V; dsimp only [mkV])
  (repeat' (first | with_reducible refine brn_nd (fun h => ?_) (fun h => ?_) | with_reducible refine brn_d (fun h => ?_) (fun h => ?_) | with_reducible refine brn_nn (fun h => ?_) (fun h => ?_) | with_reducible refine brn_nb (fun h => ?_) (fun h => ?_) | with_reducible refine Brn.mk (fun h => ?_) (fun h => ?_) | with_reducible refine Chk.mk ?_ ?_ | with_reducible refine Bth.mk ?_ ?_ | with_reducible refine Fct.mk (fun hf => ?_)))
  · by_cases hd : dirB d = true <;> simp [hd, stE] at h ⊢
  · exact stE_bad (by simpa using ‹(if dirB d = true then (0 : Int) else 30) = 0›) (by omega)
  have hd : dirB d = true := by simpa using ‹(if dirB d = true then (0 : Int) else 30) = 0›
  refine up2 (fun t z => ∃ i : Nat, z = i ∧ t = prevS l i ∧ ∀ j, j < i → stOk d (prevS l j) (gt l (j : Int)) = true) (by omega) ⟨0, rfl, rfl, by intros; omega⟩ ?_ ?_
  · rintro I μ t z h0 h1 ⟨i, rfl, rfl, hj⟩ nx
    have key := @stOk_iff d (prevS l i) (gt l (i : Int))
    cases hv : stOk d (prevS l i) (gt l (i : Int)) with
    | false =>
      have hb := stE_bad hd (fun hh => by rw [hh.2 i (by omega)] at hv; cases hv)
      (repeat' (first | with_reducible refine brn_nd (fun h => ?_) (fun h => ?_) | with_reducible refine brn_d (fun h => ?_) (fun h => ?_) | with_reducible refine brn_nn (fun h => ?_) (fun h => ?_) | with_reducible refine brn_nb (fun h => ?_) (fun h => ?_) | with_reducible refine Brn.mk (fun h => ?_) (fun h => ?_) | with_reducible refine Chk.mk ?_ ?_ | with_reducible refine Bth.mk ?_ ?_ | with_reducible refine Fct.mk (fun hf => ?_)))
      all_goals (first | exact hb | omega | skip)
      all_goals (exfalso; rw [key.2 ⟨by omega, by omega, by assumption, by first | (left; assumption) | (right; exact ⟨by assumption, by assumption⟩)⟩] at hv; cases hv)
    | true =>
      have hh := key.1 hv
      obtain ⟨k1, k2, k3, k4⟩ := hh
      (repeat' (first | with_reducible refine brn_nd (fun h => ?_) (fun h => ?_) | with_reducible refine brn_d (fun h => ?_) (fun h => ?_) | with_reducible refine brn_nn (fun h => ?_) (fun h => ?_) | with_reducible refine brn_nb (fun h => ?_) (fun h => ?_) | with_reducible refine Brn.mk (fun h => ?_) (fun h => ?_) | with_reducible refine Chk.mk ?_ ?_ | with_reducible refine Bth.mk ?_ ?_ | with_reducible refine Fct.mk (fun hf => ?_)))
      all_goals (first | omega | (exfalso; omega) | (exfalso; simp_all; done) | skip)
      all_goals exact nx _ ⟨i + 1, by omega, (prevS_succ _ _).symm, fun j hj' => by
        by_cases e : j < i
        · exact hj j e
        · obtain rfl : j = i := by omega
          exact hv⟩
  · rintro I μ t ⟨i, hi, _, hj⟩
    exact congrArg iv (stE_0.2 ⟨hd, by omega, fun j hj' => hj j (by omega)⟩).symm)
theorem rOCheck_ic (d : Dir) (l : List Stw) : ICt 37 [d.v, .one (.d (.list (l.map Stw.row)))] (fun v => v = iv (stE d l)) := (rOCheck_V d l _).2 (by
  (delta rOCheck_V; dsimp only [mkV])
  (repeat' (first | with_reducible refine brn_nd (fun h => ?_) (fun h => ?_) | with_reducible refine brn_d (fun h => ?_) (fun h => ?_) | with_reducible refine brn_nn (fun h => ?_) (fun h => ?_) | with_reducible refine brn_nb (fun h => ?_) (fun h => ?_) | with_reducible refine Brn.mk (fun h => ?_) (fun h => ?_) | with_reducible refine Chk.mk ?_ ?_ | with_reducible refine Bth.mk ?_ ?_ | with_reducible refine Fct.mk (fun hf => ?_)))
  · simp [h, stE]
  · exact stE_bad (by assumption) (by omega)
  have hd : dirB d = true := by assumption
  refine up1 (fun z => ∃ i : Nat, z = i ∧ ∀ j, j < i → stOk d (prevS l j) (gt l (j : Int)) = true) (by omega) ⟨0, rfl, by intros; omega⟩ ?_ ?_
  · rintro I μ z h0 h1 ⟨i, rfl, hj⟩ nx
    have key := @stOk_iff d (prevS l i) (gt l (i : Int))
    have hn := prevS_nn hj
    have hp : 0 < i → prevS l i = (gt l ((i : Int) - 1)).time := fun h => by simp [prevS, show ¬ i = 0 by omega]
    have hz : i = 0 → prevS l i = 0 := fun h => by simp [prevS, h]
    cases hv : stOk d (prevS l i) (gt l (i : Int)) with
    | false =>
      have hb := stE_bad hd (fun hh => by rw [hh.2 i (by omega)] at hv; cases hv)
      (repeat' (first | with_reducible refine brn_nd (fun h => ?_) (fun h => ?_) | with_reducible refine brn_d (fun h => ?_) (fun h => ?_) | with_reducible refine brn_nn (fun h => ?_) (fun h => ?_) | with_reducible refine brn_nb (fun h => ?_) (fun h => ?_) | with_reducible refine Brn.mk (fun h => ?_) (fun h => ?_) | with_reducible refine Chk.mk ?_ ?_ | with_reducible refine Bth.mk ?_ ?_ | with_reducible refine Fct.mk (fun hf => ?_)))
      all_goals (first | exact hb | omega | skip)
      all_goals (exfalso; rw [key.2 ⟨by omega, by omega, by assumption, by first | (left; assumption) | (right; exact ⟨by assumption, by assumption⟩)⟩] at hv; cases hv)
    | true =>
      have hh := key.1 hv
      obtain ⟨k1, k2, k3, k4⟩ := hh
      have k5 := ex_no k3
      (repeat' (first | with_reducible refine brn_nd (fun h => ?_) (fun h => ?_) | with_reducible refine brn_d (fun h => ?_) (fun h => ?_) | with_reducible refine brn_nn (fun h => ?_) (fun h => ?_) | with_reducible refine brn_nb (fun h => ?_) (fun h => ?_) | with_reducible refine Brn.mk (fun h => ?_) (fun h => ?_) | with_reducible refine Chk.mk ?_ ?_ | with_reducible refine Bth.mk ?_ ?_ | with_reducible refine Fct.mk (fun hf => ?_)))
      all_goals (first | omega | (exfalso; omega) | (exfalso; simp_all; done) | skip)
      all_goals exact nx ⟨i + 1, by omega, fun j hj' => by
        by_cases e : j < i
        · exact hj j e
        · obtain rfl : j = i := by omega
          exact hv⟩
  · rintro I μ ⟨i, hi, hj⟩
    exact congrArg iv (stE_0.2 ⟨hd, by omega, fun j hj' => hj j (by omega)⟩).symm)
end Go.Proofs.Ytdpcfebfgejdmaa
