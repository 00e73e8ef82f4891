/- Directories: Why, plain. -/
import Derived.Test.YtoflahjlnbligaaEf
import Derived.Test.YtoflahjlnbligaaEd
set_option linter.all false
set_option maxRecDepth 20000
set_option maxHeartbeats 4000000
namespace Go.Proofs.Ytoflahjlnbligaa
open Go.RowKit Go.Shelf
def bits (b : List Int) : List Bool := b.map fun v => decide (0 ≤ v)
theorem bits_gt {b : List Int} {q : Int} (h0 : 0 ≤ q) (h : q < (b.length : Int)) : gt (bits b) q = decide (0 ≤ gt b q) := by
  rw [gt_eq (by simp [bits]; omega), gt_eq (by omega)]; simp [bits]
theorem bits_len (b : List Int) : (bits b).length = b.length := by simp [bits]
theorem bits_set {b : List Int} {i v : Int} (hv : 0 ≤ v) : bits (b.set i.toNat v) = (bits b).set i.toNat true := by
  simp [bits, List.map_set, hv]
structure RkJ (x : List (List Bool)) (p : Int) (b : List Int) (rk : Int → Nat) : Prop where
  p0 : gt b p = p
  q0 : ∀ q : Int, 0 ≤ q → q < (x.length : Int) → 0 ≤ gt b q → q ≠ p → gt b q < (x.length : Int) ∧ 0 ≤ gt b (gt b q) ∧ rk (gt b q) < rk q ∧ gt (gt x (gt b q)) q = true
theorem RkJ.set {x : List (List Bool)} {p cur z : Int} {b : List Int} {rk : Int → Nat} (h : RkJ x p b rk) (hb : b.length = x.length) (hp : 0 ≤ p ∧ p < (x.length : Int)) (c0 : 0 ≤ cur) (c1 : cur < (x.length : Int)) (hc : 0 ≤ gt b cur) (z0 : 0 ≤ z) (z1 : z < (x.length : Int)) (hz : gt b z < 0) (he : gt (gt x cur) z = true) : RkJ x p (b.set z.toNat cur) (fun q => if q = z then rk cur + 1 else rk q) := by
  have hzp : p ≠ z := fun e => by subst e; rw [h.p0] at hz; omega
  have hcz : cur ≠ z := fun e => by subst e; omega
  have hs : ∀ q : Int, 0 ≤ q → q < (x.length : Int) → gt (b.set z.toNat cur) q = if q = z then cur else gt b q := fun q q0 q1 => gt_sq z0 q0 (by omega)
  refine ⟨by rw [hs p hp.1 hp.2, if_neg hzp, h.p0], fun q q0 q1 hq hqp => ?_⟩
  rw [hs q q0 q1] at hq ⊢
  by_cases e : q = z
  · subst e
    simp only [if_true] at hq ⊢
    rw [hs cur c0 c1, if_neg hcz, if_neg hcz]
    exact ⟨c1, hc, by omega, he⟩
  · rw [if_neg e] at hq ⊢
    obtain ⟨a1, a2, a3, a4⟩ := h.q0 q q0 q1 hq hqp
    have hne : gt b q ≠ z := fun e2 => by rw [e2] at a2; omega
    rw [hs _ hq a1, if_neg hne, if_neg hne, if_neg e]
    exact ⟨a1, a2, a3, a4⟩
structure WyJ (x : List (List Bool)) (b : List Int) (rk : Int → Nat) (g : Int) (c : List Int) : Prop where
  n : 0 < c.length
  l : gt c ((c.length : Int) - 1) = g
  m : ∀ y ∈ c, (0 ≤ y ∧ y < (x.length : Int)) ∧ 0 ≤ gt b y
  e : ∀ i : Nat, i + 1 < c.length → gt (gt x (gt c (i : Int))) (gt c ((i : Int) + 1)) = true
  r : c.Pairwise fun a b => rk a < rk b
theorem gt_cons0 (y : Int) (c : List Int) : gt (y :: c) 0 = y := rfl
theorem gt_consS (y : Int) (c : List Int) {i : Int} (h : 0 ≤ i) : gt (y :: c) (i + 1) = gt c i := by
  unfold gt; rw [show (i + 1).toNat = i.toNat + 1 by omega]; rfl
theorem WyJ.cons {x : List (List Bool)} {p g : Int} {b : List Int} {rk : Int → Nat} {c : List Int} (h : WyJ x b rk g c) (hr : RkJ x p b rk) (hp : gt c 0 ≠ p) : WyJ x b rk g (gt b (gt c 0) :: c) := by
  have hn := h.n
  obtain ⟨y, r, rfl⟩ : ∃ y r, c = y :: r := by cases c with | nil => simp at hn | cons y r => exact ⟨y, r, rfl⟩
  rw [gt_cons0] at hp ⊢
  have hm := h.m y (by simp)
  obtain ⟨a1, a2, a3, a4⟩ := hr.q0 y hm.1.1 hm.1.2 hm.2 hp
  refine ⟨by simp, ?_, fun z hz => ?_, fun i hi => ?_, ?_⟩
  · have := h.l
    rw [← this]
    rw [show (((gt b y :: y :: r).length : Int) - 1) = (((y :: r).length : Int) - 1) + 1 by simp, gt_consS _ _ (by simp)]
  · rcases List.mem_cons.1 hz with hz | hz
    · subst hz; exact ⟨⟨hm.2, a1⟩, a2⟩
    · exact h.m z hz
  · cases i with
    | zero => exact a4
    | succ i =>
      have := h.e i (by simpa using hi)
      rw [show ((i + 1 : Nat) : Int) = (i : Int) + 1 by omega, gt_consS _ _ (by omega), gt_consS _ _ (by omega)]
      exact this
  · refine List.pairwise_cons.2 ⟨fun z hz => ?_, h.r⟩
    rcases List.mem_cons.1 hz with hz | hz
    · subst hz; exact a3
    · exact Nat.lt_trans a3 ((List.pairwise_cons.1 h.r).1 z hz)
theorem WyJ.nodup {x : List (List Bool)} {g : Int} {b : List Int} {rk : Int → Nat} {c : List Int} (h : WyJ x b rk g c) : c.Nodup := h.r.imp fun hh e => by rw [e] at hh; exact Nat.lt_irrefl _ hh
structure ChnOk (d : Dir) (t p g : Int) (c : List Int) : Prop where
  n : 2 ≤ c.length
  h : gt c 0 = p
  l : gt c ((c.length : Int) - 1) = g
  dn : c.Nodup
  dx : ∀ y ∈ c, 0 ≤ y ∧ y < (d.kinds.length : Int)
  de : ∀ i : Nat, i + 1 < c.length → d.edge t (gt c (i : Int)) (gt c ((i : Int) + 1)) = true
theorem WyJ.ok {d : Dir} {t p g : Int} {b : List Int} {rk : Int → Nat} {c : List Int} (h : WyJ (atT d t) b rk g c) (hp : gt c 0 = p) (hg : g ≠ p) : ChnOk d t p g c := by
  have hn := h.n
  have ha := atT_len d t
  refine ⟨?_, hp, h.l, h.nodup, fun y hy => by have := (h.m y hy).1; rw [ha] at this; exact this, fun i hi => ?_⟩
  · rcases Nat.lt_or_ge c.length 2 with hl | hl
    · exfalso
      have := h.l
      rw [show (c.length : Int) - 1 = 0 by omega, hp] at this
      exact hg this.symm
    · exact hl
  · have h1 := (h.m _ (gt_mem (i := (i : Int)) (by omega) (by omega))).1
    have h2 := (h.m _ (gt_mem (i := (i : Int) + 1) (by omega) (by omega))).1
    have := h.e i hi
    unfold atT at this
    rw [ha] at h1 h2
    rw [tblL_cell h1.1 h1.2 h2.1 h2.2] at this
    exact this
theorem mem_thoS {l : List Bool} {q : Int} : q ∈ thoS l ↔ (0 ≤ q ∧ q < (l.length : Int)) ∧ gt l q = true := by
  unfold thoS; rw [mem_selN]; exact and_assoc.symm
theorem mem_upwS {d : Dir} {p t q : Int} : q ∈ upwS d p t ↔ (dirB d = true ∧ d.ex p = true) ∧ (0 ≤ q ∧ q < (d.kinds.length : Int)) ∧ Rch (atT d t) p q := by
  unfold upwS
  split
  · rename_i h
    have hh := Bool.and_eq_true_iff.1 h
    rw [mem_thoS, upS_len, atT_len]
    constructor
    · rintro ⟨a, b⟩; exact ⟨hh, a, (upS_iff a.1 (by rw [atT_len]; exact a.2)).1 b⟩
    · rintro ⟨_, a, b⟩; exact ⟨a, (upS_iff a.1 (by rw [atT_len]; exact a.2)).2 b⟩
  · rename_i h
    constructor
    · intro h; cases h
    · rintro ⟨a, _⟩; exact absurd (Bool.and_eq_true_iff.2 a) h
theorem mem_grpsS {d : Dir} {p t q : Int} : q ∈ grpsS d p t ↔ (dirB d = true ∧ d.ex p = true) ∧ (0 ≤ q ∧ q < (d.kinds.length : Int)) ∧ Rch (atT d t) p q ∧ q ≠ p := by
  unfold grpsS
  rw [List.mem_filter, mem_upwS]
  simp only [Bool.not_eq_true', decide_eq_false_iff_not, and_assoc]
end Go.Proofs.Ytoflahjlnbligaa
