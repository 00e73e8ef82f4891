/- Facts on what is at hand; searches. -/
import Derived.Test.YtbnmcdnkeipdhaaIvk
set_option linter.all false
namespace Go.Proofs.Ytbnmcdnkeipdhaa
open Go.RowKit Go.Shelf

/-- What is known of all data: numbers are in their range, lists are no longer than a slice can be. -/
inductive Cell.Ok : Cell → Prop where
  | bool (b : Bool) : Ok (.bool b)
  | int {k : IntKind} {n : Int} (h : (Lit.int k n).wf = true) : Ok (.int k n)
  | str {s : ByteArray} (h : s.size ≤ 9223372036854775807) : Ok (.str s)
  | list {xs : List (List Cell)} (h : xs.length ≤ 9223372036854775807) (hr : ∀ row ∈ xs, ∀ c ∈ row, Ok c) : Ok (.list xs)
theorem RepCell.okk {Rd : Nat → Nat → Prop} {w : World} {v : Value} {c : Cell} (h : RepCell Rd w v c) : c.Ok := by
  induction h with
  | bool b => exact .bool b
  | int k n h => exact .int h
  | str s h => exact .str (by unfold maxLen at h; omega)
  | list A cap xs sz vals h0 h1 h2 hsz hc hr ih =>
    refine .list (by unfold maxLen at h2; omega) fun row hrow c hc' => ?_
    obtain ⟨i, hi⟩ := List.getElem?_of_mem hrow
    obtain ⟨j, hj⟩ := List.getElem?_of_mem hc'
    exact ih i j row c hi hj
theorem Cell.Ok.i64 {n : Int} (h : Cell.Ok (.int .i64 n)) : -9223372036854775808 ≤ n ∧ n ≤ 9223372036854775807 := by
  cases h with | int h => simp [Lit.wf, IntKind.min, IntKind.max, IntKind.bits, IntKind.signed] at h; omega
theorem Cell.Ok.u8 {n : Int} (h : Cell.Ok (.int .u8 n)) : 0 ≤ n ∧ n ≤ 255 := by
  cases h with | int h => simp [Lit.wf, IntKind.min, IntKind.max, IntKind.bits, IntKind.signed] at h; omega
theorem Cell.Ok.len {xs : List (List Cell)} (h : Cell.Ok (.list xs)) : xs.length ≤ 9223372036854775807 := by cases h; assumption
theorem Cell.Ok.at_ {xs : List (List Cell)} (h : Cell.Ok (.list xs)) {row : List Cell} (hr : row ∈ xs) {c : Cell} (hc : c ∈ row) : c.Ok := by cases h with | list h1 h2 => exact h2 row hr c hc
theorem Cell.Ok.map {α : Type} {f : α → List Cell} {xs : List α} (h : Cell.Ok (.list (xs.map f))) : xs.length ≤ 9223372036854775807 ∧ ∀ x ∈ xs, ∀ c ∈ f x, c.Ok :=
  ⟨by have := h.len; simpa using this, fun x hx c hc => h.at_ (List.mem_map_of_mem hx) hc⟩
section
variable {k : Wk} {w0 : Org} {s : St} {Q : Exit → St → Prop} {c : Code}
theorem k_one {x : Nat} {d : Cell} (hx : getF s.F x = .one (.d d)) (h : d.Ok → wk k w0 c Q s) : wk k w0 c Q s := wkI fun g a w hs => wkO (h (by have := hs.hF x; rw [hx] at this; exact (this.one_inv.unD rfl).okk)) g a w hs
theorem k_agg {x : Nat} {cs : List CV} (j : Nat) {d : Cell} (hx : getF s.F x = .agg cs) (hj : cs[j]? = some (.d d)) (h : d.Ok → wk k w0 c Q s) : wk k w0 c Q s := wkI fun g a w hs => wkO (h (by
  have := hs.hF x; rw [hx] at this
  obtain ⟨vs, _, hsz, hr⟩ := this.agg_inv
  have hlt := (List.getElem?_eq_some_iff.1 hj).1
  exact ((hr j _ _ (Array.getElem?_eq_getElem (by omega)) hj).unD rfl).okk)) g a w hs
theorem k_rp {x : Nat} {cs : List CV} (j : Nat) {d : Cell} (hx : getF s.F x = .one (.rp cs)) (hj : cs[j]? = some (.d d)) (h : d.Ok → wk k w0 c Q s) : wk k w0 c Q s := wkI fun g a w hs => wkO (h (by
  have := hs.hF x; rw [hx] at this
  obtain ⟨b, o, vals, _, h1, h2⟩ := this.one_inv.rp_inv
  exact ((h2 j _ hj).unD rfl).okk)) g a w hs
theorem k_blk {r t : Nat} {cs : List CV} (j : Nat) {d : Cell} (hx : getH s.H r = .blk t cs) (hj : cs[j]? = some (.d d)) (h : d.Ok → wk k w0 c Q s) : wk k w0 c Q s := wkI fun g a w hs => wkO (h (by
  have := hs.hH r; rw [hx] at this
  obtain ⟨b, vals, _, _, hsz, hr⟩ := this
  have hlt := (List.getElem?_eq_some_iff.1 hj).1
  exact ((hr j _ _ (Array.getElem?_eq_getElem (by omega)) hj).unD rfl).okk)) g a w hs
end

/-- The first place where q holds, or -1. -/
def idxOf {α : Type} (q : α → Bool) : List α → Int
  | [] => -1
  | x :: l => if q x then 0 else if idxOf q l < 0 then -1 else idxOf q l + 1
theorem idxOf_none {α : Type} {q : α → Bool} {l : List α} (h : ∀ x ∈ l, q x = false) : idxOf q l = -1 := by
  induction l with
  | nil => rfl
  | cons x l ih =>
    have h1 := h x (by simp)
    have h2 := ih fun y hy => h y (by simp [hy])
    simp [idxOf, h1, h2]
theorem idxOf_at {α : Type} {q : α → Bool} {l : List α} {i : Nat} (hi : i < l.length) (hq : q l[i] = true) (h : ∀ j (hj : j < i), q (l[j]'(by omega)) = false) : idxOf q l = i := by
  induction l generalizing i with
  | nil => simp at hi
  | cons x l ih =>
    cases i with
    | zero => simp at hq; simp [idxOf, hq]
    | succ i =>
      have h0 := h 0 (by omega)
      simp at h0
      have := ih (i := i) (by simpa using hi) (by simpa using hq) fun j hj => by have := h (j + 1) (by omega); simpa using this
      simp [idxOf, h0, this]
      omega
theorem idxOf_ge {α : Type} (q : α → Bool) (l : List α) : decide (0 ≤ idxOf q l) = l.any q := by
  rw [Bool.eq_iff_iff]
  induction l with
  | nil => simp [idxOf]
  | cons x l ih =>
    simp only [decide_eq_true_eq] at ih
    simp only [idxOf, List.any_cons, decide_eq_true_eq, Bool.or_eq_true, ← ih]
    by_cases hx : q x = true
    · simp [hx]
    · by_cases h : idxOf q l < 0
      · simp [hx, h]
      · simp [hx, h]; omega
theorem idxOf_bd {α : Type} (q : α → Bool) (l : List α) : -1 ≤ idxOf q l ∧ idxOf q l < l.length := by
  induction l with
  | nil => simp [idxOf]
  | cons x l ih =>
    simp only [idxOf, List.length_cons]
    split
    · omega
    · split <;> omega
end Go.Proofs.Ytbnmcdnkeipdhaa
