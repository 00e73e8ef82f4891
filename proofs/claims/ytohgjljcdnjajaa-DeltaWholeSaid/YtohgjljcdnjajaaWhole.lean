/- What whole operations make: the plain law. -/
import Derived.Test.YtohgjljcdnjajaaMade
set_option linter.unusedVariables false
namespace Go.Proofs.Ytohgjljcdnjajaa
open Go.RowKit Go.Shelf

theorem limB_few (m : Int) (rs : List OpR) : ∀ left : Int, (∀ r ∈ rs, amountZ r ≤ m) → (rs.length : Int) * m ≤ left → 0 ≤ m → limB left rs = false := by
  induction rs with
  | nil => intro left _ _ _; rfl
  | cons a rs ih =>
    intro left h hl hm
    have ha := h a (by simp)
    have e : ((a :: rs).length : Int) * m = (rs.length : Int) * m + m := by rw [List.length_cons]; push_cast; rw [Int.add_mul, Int.one_mul]
    have hp : 0 ≤ (rs.length : Int) * m := Int.mul_nonneg (by omega) hm
    rw [limB_cons, if_neg (by omega)]
    exact ih _ (fun r hr => h r (by simp [hr])) (by omega) hm

theorem check_few (n : Nat) (rs : List OpR) (m : Int) (hn : n ≤ 65536) (hr : rs.length ≤ 200) (hm : 0 ≤ m) (h1 : (rs.length : Int) * m ≤ 65536) (hf : ∀ r ∈ rs, fitsB r.fr r.sz r.dat.length n = true ∧ amountZ r ≤ m) : checkS n rs = 0 := by
  unfold checkS
  have hl := limB_few m rs 65536 (fun r hr => (hf r hr).2) h1 hm
  have hb : rs.any (badB n) = false := by
    rw [List.any_eq_false]
    intro r hr
    unfold badB
    rw [(hf r hr).1]
    decide
  rw [if_neg (by omega), hl, hb]
  simp

theorem whole_ins (base text : List UInt8) (A : Option Addr) (c : Nat) (hb : base.length ≤ 65536) (h1 : 1 ≤ text.length) (h2 : text.length ≤ 65536) :
    checkS base.length [⟨0, 0, A, text, c⟩] = 0 ∧ applyS base [⟨0, 0, A, text, c⟩] = text := by
  have hc : checkS base.length [⟨0, 0, A, text, c⟩] = 0 := by
    refine check_few _ _ 65536 hb (by simp) (by omega) (by simp) (fun r hr => ?_)
    simp at hr
    subst hr
    refine ⟨?_, ?_⟩
    · unfold fitsB rightB; simp; exact h1
    · unfold amountZ; simp; omega
  refine ⟨hc, ?_⟩
  unfold applyS
  rw [if_pos hc]
  unfold madeS pieceS
  simp

theorem whole_copy (base : List UInt8) (hb : base.length ≤ 65536) (h1 : 1 ≤ base.length) :
    checkS base.length [⟨0, (base.length : Int), none, [], 0⟩] = 0 ∧ applyS base [⟨0, (base.length : Int), none, [], 0⟩] = base := by
  have hc : checkS base.length [⟨0, (base.length : Int), none, [], 0⟩] = 0 := by
    refine check_few _ _ 65536 hb (by simp) (by omega) (by simp) (fun r hr => ?_)
    simp at hr
    subst hr
    refine ⟨?_, ?_⟩
    · unfold fitsB rightB
      simp
      exact ⟨fun e => by rw [e] at h1; simp at h1, h1⟩
    · unfold amountZ
      simp only
      split <;> omega
  refine ⟨hc, ?_⟩
  unfold applyS
  rw [if_pos hc]
  unfold madeS pieceS
  simp

theorem whole_few (base : List UInt8) (rs : List OpR) (hb : base.length ≤ 20) (hr : rs.length ≤ 10) (hf : ∀ r ∈ rs, fitsB r.fr r.sz r.dat.length base.length = true ∧ amountZ r ≤ base.length + 6) :
    checkS base.length rs = 0 ∧ applyS base rs = madeS base rs := by
  have hc : checkS base.length rs = 0 := check_few _ _ 26 (by omega) (by omega) (by omega) (by omega) (fun r hr => ⟨(hf r hr).1, by have := (hf r hr).2; omega⟩)
  refine ⟨hc, ?_⟩
  unfold applyS
  rw [if_pos hc]

theorem made_two (base : List UInt8) (a b : List OpR) : madeS base (a ++ b) = madeS base a ++ madeS base b := by
  unfold madeS
  rw [List.flatMap_append]
end Go.Proofs.Ytohgjljcdnjajaa
