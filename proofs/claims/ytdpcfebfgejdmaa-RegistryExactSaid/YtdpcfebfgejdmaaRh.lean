/- Registries: plain facts. -/
import Derived.Test.YtdpcfebfgejdmaaRg
set_option linter.all false
set_option maxRecDepth 20000
set_option maxHeartbeats 2000000
namespace Go.Proofs.Ytdpcfebfgejdmaa
open Go.RowKit Go.Shelf
theorem Reg.eta (x : Reg) : (⟨x.isss, x.crds⟩ : Reg) = x := rfl
theorem Crd.eta (x : Crd) : (⟨x.iss, x.fp, x.hold, x.frm, x.til⟩ : Crd) = x := rfl
theorem selN_le {n : Nat} {p q : Int → Bool} (h : ∀ x : Int, 0 ≤ x → x < n → p x = true → q x = true) : (selN n p).length ≤ (selN n q).length := by
  unfold selN
  rw [← List.countP_eq_length_filter, ← List.countP_eq_length_filter]
  refine List.countP_mono_left fun x hx hp => ?_
  obtain ⟨j, hj, rfl⟩ := List.mem_map.1 hx
  have := List.mem_range.1 hj
  exact h _ (by omega) (by omega) hp
theorem selN_congr {n : Nat} {p q : Int → Bool} (h : ∀ x : Int, 0 ≤ x → x < n → p x = q x) : selN n p = selN n q := by
  unfold selN
  refine List.filter_congr fun x hx => ?_
  obtain ⟨j, hj, rfl⟩ := List.mem_map.1 hx
  have := List.mem_range.1 hj
  exact h _ (by omega) (by omega)
theorem max_in {l : List Int} (f : Int → Int) (h : l ≠ []) : ∃ x ∈ l, ∀ y ∈ l, f y ≤ f x := by
  induction l with
  | nil => exact absurd rfl h
  | cons a l ih =>
    by_cases hl : l = []
    · subst hl; exact ⟨a, by simp, fun y hy => by simp at hy; subst hy; omega⟩
    · obtain ⟨x, hx, hm⟩ := ih hl
      by_cases hax : f x ≤ f a
      · refine ⟨a, by simp, fun y hy => ?_⟩
        rcases List.mem_cons.1 hy with rfl | hy
        · omega
        · have := hm y hy; omega
      · refine ⟨x, by simp [hx], fun y hy => ?_⟩
        rcases List.mem_cons.1 hy with rfl | hy
        · omega
        · exact hm y hy
theorem heldB_iff {r : Reg} {i h t j : Int} : heldB r i h t j = true ↔ (gt r.crds j).iss = i ∧ (gt r.crds j).hold = h ∧ (gt r.crds j).frm ≤ t ∧ t < (gt r.crds j).til := by
  simp [heldB, validC]
theorem validC_iff {c : Crd} {t : Int} : validC c t = true ↔ c.frm ≤ t ∧ t < c.til := by simp [validC]
theorem okR_iff {r : Reg} : okR r = true ↔ r.isss.length ≤ 8 ∧ r.crds.length ≤ 24 ∧ (∀ x ∈ r.isss, okIs x = true) ∧ (∀ c ∈ r.crds, rightC r c = true) ∧ ∀ c ∈ r.crds, ((heldL r c.iss c.hold c.frm).length : Int) ≤ (gt r.isss c.iss).slots := by
  simp only [okR, Bool.and_eq_true, List.all_eq_true, decide_eq_true_eq, roomC]
/-- At no time are more held than the issuer has slots. -/
theorem held_slots {r : Reg} {i h t : Int} (ho : okR r = true) (h0 : 0 ≤ i) (h1 : i < r.isss.length) : ((heldL r i h t).length : Int) ≤ (gt r.isss i).slots := by
  have hs := okR_slots ho h0 h1
  by_cases he : heldL r i h t = []
  · rw [he]; simp; omega
  · obtain ⟨x, hx, hm⟩ := max_in (fun j => (gt r.crds j).frm) he
    obtain ⟨q0, q1, q2⟩ := mem_selN.1 hx
    obtain ⟨b1, b2, b3, b4⟩ := heldB_iff.1 q2
    have hroom := (okR_iff.1 ho).2.2.2.2 _ (gt_mem q0 q1)
    rw [b1, b2] at hroom
    refine Int.le_trans ?_ hroom
    have : (heldL r i h t).length ≤ (heldL r i h (gt r.crds x).frm).length := selN_le fun j j0 j1 hj => by
      have hj2 := hm j (mem_selN.2 ⟨j0, j1, hj⟩)
      obtain ⟨c1, c2, c3, c4⟩ := heldB_iff.1 hj
      exact heldB_iff.2 ⟨c1, c2, hj2, by omega⟩
    omega
theorem gt_app_l {α : Type} [Inhabited α] {a b : List α} {i : Int} (h0 : 0 ≤ i) (h : i < a.length) : gt (a ++ b) i = gt a i := by
  unfold gt
  simp only [List.getD_eq_getElem?_getD]
  rw [List.getElem?_append_left (by omega)]
theorem gt_app_r {α : Type} [Inhabited α] {a : List α} {x : α} : gt (a ++ [x]) (a.length : Int) = x := by
  unfold gt; simp
/-- What is held behind an issue. -/
theorem held_app (r : Reg) (c : Crd) (i h t : Int) : (heldL ⟨r.isss, r.crds ++ [c]⟩ i h t).length = (heldL r i h t).length + if c.iss = i ∧ c.hold = h ∧ c.frm ≤ t ∧ t < c.til then 1 else 0 := by
  have e1 : selN r.crds.length (heldB ⟨r.isss, r.crds ++ [c]⟩ i h t) = selN r.crds.length (heldB r i h t) := selN_congr fun x h0 h1 => by
    unfold heldB; dsimp only; rw [gt_app_l h0 h1]
  have e2 : heldB ⟨r.isss, r.crds ++ [c]⟩ i h t (r.crds.length : Int) = true ↔ c.iss = i ∧ c.hold = h ∧ c.frm ≤ t ∧ t < c.til := by
    rw [heldB_iff]; dsimp only; rw [gt_app_r]
  have e3 : heldL ⟨r.isss, r.crds ++ [c]⟩ i h t = selN (r.crds.length + 1) (heldB ⟨r.isss, r.crds ++ [c]⟩ i h t) := by unfold heldL; simp
  rw [e3, selN_succ, e1]
  by_cases hb : heldB ⟨r.isss, r.crds ++ [c]⟩ i h t (r.crds.length : Int) = true
  · rw [if_pos hb, if_pos (e2.1 hb)]; simp [heldL]
  · rw [if_neg hb, if_neg fun q => hb (e2.2 q)]; simp [heldL]
/-- It is issued exactly if there is room. -/
theorem issue_room {r : Reg} {c : Crd} (ho : okR r = true) (hlen : r.crds.length < 24) (hc : rightC r c = true) : okR ⟨r.isss, r.crds ++ [c]⟩ = true ↔ ∀ t, c.frm ≤ t → t < c.til → ((heldL r c.iss c.hold t).length : Int) < (gt r.isss c.iss).slots := by
  have hi := right_iss hc
  constructor
  · intro h2 t t0 t1
    have := held_slots (i := c.iss) (h := c.hold) (t := t) h2 hi.1 hi.2
    rw [held_app, if_pos ⟨rfl, rfl, t0, t1⟩] at this
    dsimp only at this
    omega
  · intro hroom
    obtain ⟨a1, a2, a3, a4, a5⟩ := okR_iff.1 ho
    have hr : ∀ x ∈ r.crds ++ [c], rightC r x = true := fun x hx => by
      rcases List.mem_append.1 hx with hx | hx
      · exact a4 x hx
      · rw [List.mem_singleton] at hx; subst hx; exact hc
    refine okR_iff.2 ⟨a1, by simp; omega, a3, hr, fun x hx => ?_⟩
    have hxi := right_iss (hr x hx)
    rw [held_app]
    dsimp only
    split
    · rename_i hm
      have := hroom x.frm hm.2.2.1 hm.2.2.2
      rw [hm.1, hm.2.1] at this
      omega
    · have := held_slots (i := x.iss) (h := x.hold) (t := x.frm) ho hxi.1 hxi.2
      omega
/-- A credential ends earlier. -/
theorem revoke_ok {r : Reg} {k t : Int} (ho : okR r = true) (h0 : 0 ≤ k) (h1 : k < r.crds.length) (ht : (gt r.crds k).frm < t) : okR ⟨r.isss, r.crds.set k.toNat { gt r.crds k with til := min (gt r.crds k).til t }⟩ = true := by
  obtain ⟨a1, a2, a3, a4, a5⟩ := okR_iff.1 ho
  have hk := a4 _ (gt_mem h0 h1)
  have hr : ∀ x ∈ r.crds.set k.toNat { gt r.crds k with til := min (gt r.crds k).til t }, rightC r x = true := fun x hx => by
    rcases List.mem_or_eq_of_mem_set hx with hx | hx
    · exact a4 x hx
    · subst hx
      simp only [rightC, Bool.and_eq_true, decide_eq_true_eq] at hk ⊢
      exact ⟨hk.1, hk.2.1, hk.2.2.1, by omega, by omega⟩
  refine okR_iff.2 ⟨a1, by simpa using a2, a3, hr, fun x hx => ?_⟩
  have hxi := right_iss (hr x hx)
  refine Int.le_trans ?_ (held_slots (r := r) (i := x.iss) (h := x.hold) (t := x.frm) ho hxi.1 hxi.2)
  have : (heldL ⟨r.isss, r.crds.set k.toNat { gt r.crds k with til := min (gt r.crds k).til t }⟩ x.iss x.hold x.frm).length ≤ (heldL r x.iss x.hold x.frm).length := by
    unfold heldL
    rw [List.length_set]
    refine selN_le fun j j0 j1 hj => ?_
    obtain ⟨c1, c2, c3, c4⟩ := heldB_iff.1 hj
    dsimp only at c1 c2 c3 c4
    by_cases e : k = j
    · subst e
      have hg : gt (r.crds.set k.toNat { gt r.crds k with til := min (gt r.crds k).til t }) k = { gt r.crds k with til := min (gt r.crds k).til t } := by
        unfold gt; simp [show k.toNat < r.crds.length by omega]
      rw [hg] at c1 c2 c3 c4
      exact heldB_iff.2 ⟨c1, c2, c3, by dsimp only at c4; omega⟩
    · have hg : gt (r.crds.set k.toNat { gt r.crds k with til := min (gt r.crds k).til t }) j = gt r.crds j := by
        unfold gt
        have : ¬ k.toNat = j.toNat := by omega
        simp [List.getElem?_set, this]
      rw [hg] at c1 c2 c3 c4
      exact heldB_iff.2 ⟨c1, c2, c3, c4⟩
  omega
end Go.Proofs.Ytdpcfebfgejdmaa
