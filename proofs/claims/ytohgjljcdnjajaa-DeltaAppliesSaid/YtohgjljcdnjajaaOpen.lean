/- Arguments that are slices of structs, opened. -/
import Derived.Test.YtohgjljcdnjajaaBase
import Derived.Deep.Slices
import Derived.Deep.Fields
import Derived.ChangeSame
import Derived.OpenShut
namespace Go.Proofs.Ytohgjljcdnjajaa
open Go.ChangeShapes Go.WideShapes Go.Deep Go.RowKit
section
variable {H : Type} {enc : TypeId × Value → H} {P : Program} {w : World} {base : Nat} {spare : Nat → Bool} {held : Bool}
theorem open_slice_fields {t e : TypeId} {fs : Array Field} {fuel : Nat} {cs : List Value} {x : DataW H × List MemPlace} (ht : P.underlying t = some (.slice e)) (he : P.underlying e = some (.struct fs))
    (hone : oneCellFields P fs = true) (hC : P.cellsOf e = fs.size) (h : DataW.trod enc P w base spare held fuel t cs = some x) :
    (cs = [.slice none 0 0] ∧ x = (.nil, [])) ∨
    ∃ (a : Addr) (len cap m : Nat) (D : Nat → DataW H) (Pl : Nat → List MemPlace), cs = [.slice (some a) len cap] ∧ base ≤ a.block ∧ len ≤ cap ∧ cap ≤ maxLen ∧ m = (if spare a.block then cap else len) ∧
      x = (.slice ((List.range len).map D) ((List.range (m - len)).map fun j => D (len + j)), MemPlace.row a (m * fs.size) ++ (List.range m).flatMap Pl) ∧
      ∀ i, i < m → ∃ (ys : List (DataW H × List MemPlace)) (n : Nat), D i = .agg (ys.map (·.1)) ∧ Pl i = ys.flatMap (·.2) ∧ ys.length = fs.size ∧
        ∀ (j : Nat) (f : Field), fs[j]? = some f → ∃ (v : Value) (y : DataW H × List MemPlace), w.cell? (a.add (i * fs.size + j)) = some v ∧ ys[j]? = some y ∧ DataW.trod enc P w base spare held n f.type [v] = some y := by
  rcases open_slice ht h with h0 | ⟨a, len, cap, m, n, D, Pl, hcs, hb, hl, hm, hmm, hx, hi⟩
  · exact .inl h0
  · refine .inr ⟨a, len, cap, m, D, Pl, hcs, hb, hl, hm, hmm, by rw [hC] at hx; exact hx, fun i him => ?_⟩
    obtain ⟨cs', hc, ht'⟩ := hi i him
    rw [hC] at hc
    obtain ⟨ys, n', hn', hy, hlen, hyl, hf⟩ := DataW.trod_struct he ht'
    obtain ⟨_, hcl, hat⟩ := World.cells?_some hc
    simp only [Prod.mk.injEq] at hy
    refine ⟨ys, n', hy.1, hy.2, hyl, fun j f hj => ?_⟩
    obtain ⟨ho, hk⟩ := hone_of hone j f hj
    have hjl : j < fs.size := (Array.getElem?_eq_some_iff.1 hj).1
    have hcell := hat j hjl
    have hv : cs'[j]? = some (cs'[j]'(by omega)) := List.getElem?_eq_getElem (by omega)
    have h1 := hf j f hj
    rw [ho, hk] at h1
    have hone' : (cs'.drop j).take 1 = [cs'[j]'(by omega)] := by
      rw [List.drop_eq_getElem_cons (by omega)]
      rfl
    rw [hone'] at h1
    have hys : ys[j]? = some (ys[j]'(by omega)) := List.getElem?_eq_getElem (by omega)
    refine ⟨_, _, ?_, hys, h1.trans hys⟩
    rw [← Go.Deep.add_add, hcell, hv]

/-- A slice of integers, by its reading. -/
theorem row_of_trod {k : IntKind} {t e : TypeId} {n : Nat} {v : Value} {x : DataW H × List MemPlace} (hu : P.underlying t = some (.slice e)) (he : P.underlying e = some (.int k)) (hc : P.cellsOf e = 1)
    (h : DataW.trod enc P w base (fun _ => true) held n t [v] = some x) : ∃ a len cap zs, v = .slice a len cap ∧ IsRow k w a len cap zs := by
  rcases open_ints hu he hc h with ⟨hcs, _⟩ | ⟨a, l, c, zs, hcs, _, hl, hm, hz, _, hcell, hwz⟩
  · simp at hcs
    exact ⟨none, 0, 0, [], hcs, .inl ⟨rfl, rfl, rfl, rfl⟩⟩
  · simp at hcs
    exact ⟨some a, l, c, zs, hcs, .inr ⟨a, rfl, hl, hm, by simpa using hz, hcell, hwz⟩⟩
/-- A slice of bytes, by its reading. -/
theorem bytes_of_trod {t e : TypeId} {n : Nat} {v : Value} {x : DataW H × List MemPlace} (hu : P.underlying t = some (.slice e)) (he : P.underlying e = some (.int .u8)) (hc : P.cellsOf e = 1)
    (h : DataW.trod enc P w base (fun _ => true) held n t [v] = some x) : ∃ A c, ∃ l : List UInt8, v = .slice A l.length c ∧ l.length ≤ c ∧ c ≤ maxLen ∧ Bts (fun b => w.heap.size ≤ b) w A l := by
  obtain ⟨a, len, cap, zs, rfl, hr⟩ := row_of_trod hu he hc h
  obtain ⟨l, rfl, h1, h2, h3⟩ := hr.bytes
  exact ⟨a, cap, l, rfl, h1, h2, h3⟩
theorem int_of_trod {k : IntKind} {t : TypeId} {n : Nat} {v : Value} {x : DataW H × List MemPlace} (ht : P.underlying t = some (.int k)) (h : DataW.trod enc P w base (fun _ => true) held n t [v] = some x) : ∃ z, v = .int k z ∧ (Lit.int k z).wf = true := by
  obtain ⟨z, hz, _, hw⟩ := DataW.trod_int ht h
  simp at hz
  exact ⟨z, hz, hw⟩
theorem wf_i64 {z : Int} (h : (Lit.int .i64 z).wf = true) : -9223372036854775808 ≤ z ∧ z ≤ 9223372036854775807 := by
  simp [Lit.wf, IntKind.min, IntKind.max, IntKind.bits, IntKind.signed] at h
  exact h
end
/-- Numbers chosen for each place make a list. -/
theorem list_of_all {α : Type} (n : Nat) (p : Nat → α → Prop) (h : ∀ i, i < n → ∃ x, p i x) : ∃ xs : List α, xs.length = n ∧ ∀ i (hi : i < xs.length), p i xs[i] := by
  induction n with
  | zero => exact ⟨[], rfl, fun i hi => by simp at hi⟩
  | succ n ih =>
    obtain ⟨xs, hl, hp⟩ := ih fun i hi => h i (by omega)
    obtain ⟨x, hx⟩ := h n (by omega)
    refine ⟨xs ++ [x], by simp [hl], fun i hi => ?_⟩
    by_cases hin : i < xs.length
    · rw [List.getElem_append_left hin]; exact hp i hin
    · have : i = xs.length := by simp at hi; omega
      subst this
      rw [List.getElem_append_right (by omega)]
      simp
      rw [hl]; exact hx
/-- Cells laid one struct behind the other. -/
theorem cells_of_all {α : Type} (f : α → List Value) (k : Nat) (hf : ∀ x, (f x).length = k) (hk : 0 < k) {S : Nat → Prop} {w : World} {a : Addr} (hs : ¬ S a.block) (xs : List α)
    (h : ∀ i (hi : i < xs.length) j u, (f xs[i])[j]? = some u → w.cell? (a.add (i * k + j)) = some u) : Cells S w (some a) (xs.flatMap f) := by
  intro m u hu
  have hl : (xs.flatMap f).length = xs.length * k := by
    clear h hu
    induction xs with
    | nil => simp
    | cons x xs ih => simp [hf, ih, Nat.add_mul, Nat.add_comm]
  have hm : m < xs.length * k := by rw [← hl]; exact (List.getElem?_eq_some_iff.1 hu).1
  have hi : m / k < xs.length := Nat.div_lt_of_lt_mul (by rw [Nat.mul_comm]; exact hm)
  have hj : m % k < k := Nat.mod_lt _ hk
  have e : m / k * k + m % k = m := by rw [Nat.mul_comm]; exact Nat.div_add_mod m k
  refine ⟨a, rfl, hs, ?_⟩
  have hg : (xs.flatMap f)[m / k * k + m % k]? = (f xs[m / k])[m % k]? := by
    clear h hu hm e hl
    generalize m / k = i at hi
    generalize m % k = j at hj
    induction xs generalizing i with
    | nil => simp at hi
    | cons x xs ih =>
      rw [List.flatMap_cons]
      cases i with
      | zero => rw [Nat.zero_mul, Nat.zero_add, List.getElem?_append_left (by rw [hf]; exact hj)]; rfl
      | succ i =>
        rw [List.getElem?_append_right (by rw [hf, Nat.add_mul]; omega), hf]
        have e : (i + 1) * k + j - k = i * k + j := by rw [Nat.add_mul]; omega
        rw [e, ih i (by simpa using hi)]
        rfl
  rw [e] at hg
  rw [hg] at hu
  have := h (m / k) hi (m % k) u hu
  rwa [e] at this
end Go.Proofs.Ytohgjljcdnjajaa
