/- Regress: what is open stays in order, and stays open. -/
import Derived.Test.YtcbppkfnfbdkhaaKb
set_option linter.all false
set_option maxRecDepth 20000
set_option maxHeartbeats 4000000
namespace Go.Proofs.Ytcbppkfnfbdkhaa
open Go.RowKit Go.Shelf
theorem fcmp_lt {a b : Fnd} : fcmp a b < 0 ↔ a.kd < b.kd ∨ a.kd = b.kd ∧ a.pr < b.pr := by
  rw [fcmp_eq]
  repeat' split
  all_goals omega
theorem fcmp_tr {a b c : Fnd} (h1 : fcmp a b < 0) (h2 : fcmp b c < 0) : fcmp a c < 0 := by
  rw [fcmp_lt] at *; omega
def FndP (f : List Fnd) : Prop := f.Pairwise (fun a b => fcmp a b < 0) ∧ ∀ x ∈ f, 0 < x.wh.length ∧ x.wh.length ≤ 1000 ∧ (∀ s ∈ x.wh, s.ly = [] ∧ SpOk s) ∧ x.wh.Pairwise fun a b => a.pl.sr < b.pl.sr
theorem pw_gt {α : Type} [Inhabited α] {R : α → α → Prop} {l : List α} (h : l.Pairwise R) {i j : Int} (h0 : 0 ≤ i) (h1 : i < j) (h2 : j < l.length) : R (gt l i) (gt l j) := by
  rw [gt_eq (xs := l) (i := i) (by omega), gt_eq (xs := l) (i := j) (by omega)]
  exact List.pairwise_iff_getElem.1 h _ _ _ _ (by omega)
theorem FndP.ok {f : List Fnd} (h : FndP f) : FndOk f := by
  refine ⟨fun x hx => ?_, fun z h1 h2 => pw_gt h.1 (by omega) (by omega) h2⟩
  obtain ⟨h1, h2, h3, h4⟩ := h.2 x hx
  refine ⟨h1, fun s hs => (h3 s hs).1, fun z z1 z2 => ?_⟩
  have := pw_gt h4 (i := z - 1) (j := z) (by omega) (by omega) z2
  unfold cmpSp
  rw [orS_cons, show cmpN (gt x.wh (z - 1)).pl.sr (gt x.wh z).pl.sr = -1 by unfold cmpN; rw [if_pos this], if_neg (by decide)]
  decide
theorem FndP.a {f : List Fnd} (h : FndP f) (hl : f.length ≤ 1000) : FndA f := ⟨hl, fun x hx => ⟨(h.2 x hx).2.1, fun s hs => ((h.2 x hx).2.2.1 s hs).2⟩⟩
theorem pw_of {α : Type} [Inhabited α] {R : α → α → Prop} (tr : ∀ a b c, R a b → R b c → R a c) {l : List α} (h : ∀ z : Int, 1 ≤ z → z < l.length → R (gt l (z - 1)) (gt l z)) : l.Pairwise R := by
  have key : ∀ (n i : Nat), i + n + 1 < l.length → R (gt l (i : Int)) (gt l ((i + n + 1 : Nat) : Int)) := fun n => by
    induction n with
    | zero =>
      intro i hi
      have := h ((i + 0 + 1 : Nat) : Int) (by omega) (by omega)
      rwa [show ((i + 0 + 1 : Nat) : Int) - 1 = i by omega] at this
    | succ n ih =>
      intro i hi
      have h1 := ih i (by omega)
      have h2 := h ((i + (n + 1) + 1 : Nat) : Int) (by omega) (by omega)
      rw [show ((i + (n + 1) + 1 : Nat) : Int) - 1 = ((i + n + 1 : Nat) : Int) by omega] at h2
      exact tr _ _ _ h1 h2
  refine List.pairwise_iff_getElem.2 fun i j hi hj hij => ?_
  have := key (j - i - 1) i (by omega)
  rw [show i + (j - i - 1) + 1 = j by omega, gt_nat hi, gt_nat hj] at this
  exact this
theorem FndM.p {f : List Fnd} (h : FndM f) : FndP f := by
  refine ⟨pw_of (R := fun a b : Fnd => fcmp a b < 0) (fun a b c h1 h2 => fcmp_tr h1 h2) h.2.2, fun x hx => ?_⟩
  obtain ⟨h1, h2, h3⟩ := h.1 x hx
  refine ⟨h1, by omega, fun s hs => ⟨(h3.2 s hs).1, (h3.2 s hs).2.1⟩, pw_of (R := fun a b : Spt => a.pl.sr < b.pl.sr) (fun a b c h1 h2 => Int.lt_trans h1 h2) fun z z1 z2 => ?_⟩
  have e1 := h3.1 (z - 1).toNat (by omega)
  have e2 := h3.1 z.toNat (by omega)
  rw [show (((z - 1).toNat : Nat) : Int) = z - 1 by omega] at e1
  rw [show ((z.toNat : Nat) : Int) = z by omega] at e2
  omega
end Go.Proofs.Ytcbppkfnfbdkhaa
