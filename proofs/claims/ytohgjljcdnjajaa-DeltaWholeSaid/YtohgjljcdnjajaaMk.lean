/- Rows of structs that a maker fills. -/
import Derived.Test.YtohgjljcdnjajaaTape
namespace Go.Proofs.Ytohgjljcdnjajaa
open Go.RowKit

/-- What may not hold what a row's elements lead to. -/
def Av (w : World) (v : Value) (b : Nat) : Prop := b < w.heap.size ∨ v.ownBlock = some b

/-- How an element's own memory is said: it is kept where its blocks are kept. -/
structure Elem {α : Type} (R : (Nat → Prop) → World → α → Prop) : Prop where
  keep : ∀ {S S' : Nat → Prop} {W W' : World} {x : α}, R S W x → Keep S' W W' → (∀ k, k < W.heap.size → S' k → S k) → R S W' x
  other : ∀ {S S' : Nat → Prop} {W : World} {x : α}, R S W x → (∀ k, k < W.heap.size → S' k → S k) → R S' W x
theorem Elem.flat {α : Type} (p : α → Prop) : Elem (fun _ _ x => p x) := ⟨fun h _ _ => h, fun h _ => h⟩

/-- A row that is being filled. -/
structure Mk {α : Type} (e size : Nat) (f : α → List Value) (R : (Nat → Prop) → World → α → Prop) (w : World) (tb : Nat) (v : Value) (xs : List α) (wr : World) : Prop where
  own : wr.ownsRow w.heap.size e size v xs.length (xs.flatMap f)
  ok : ∀ x ∈ xs, R (Av w v) wr x
  tape : TapeOK 27 wr tb
  keep : Keep (fun b => b = tb ∨ w.heap.size ≤ b) w wr
  tlt : tb < w.heap.size

section
variable {α : Type} {e size : Nat} {f : α → List Value} {R : (Nat → Prop) → World → α → Prop} {w wr w' : World} {tb : Nat} {v v' : Value} {xs : List α} {x : α}
theorem Mk.nil (ht : TapeOK 27 w tb) (hk : Keep (fun b => b = tb ∨ w'.heap.size ≤ b) w' w) (hlt : tb < w'.heap.size) : Mk e size f R w' tb (.slice none 0 0) [] w :=
  ⟨World.ownsRow_nil _ _ _ _, by simp, ht, hk, hlt⟩
theorem Mk.step (hR : Elem R) (h : Mk e size f R w tb v xs wr) {S : Nat → Prop} (hk : Keep S wr w') (hS : ∀ k, S k → k = tb ∨ wr.heap.size ≤ k) (ht : TapeOK 27 w' tb) : Mk e size f R w tb v xs w' := by
  have hsz := h.keep.size
  have htl := h.tlt
  have hk2 : Keep (fun b => b = tb ∨ w.heap.size ≤ b) wr w' := hk.mono fun k h1 => by
    rcases hS k h1 with h4 | h4
    · exact .inl h4
    · exact .inr (by omega)
  exact ⟨ownsRow_keep h.own hk (fun k h1 h2 h3 => by rcases hS k h3 with h4 | h4 <;> omega), fun x hx => hR.keep (h.ok x hx) hk (fun k h1 h2 => .inl (by rcases hS k h2 with h4 | h4 <;> omega)), ht, h.keep.trans hk2, htl⟩
theorem Mk.next (hR : Elem R) (h : Mk e size f R w tb v xs wr) (ht : TapeOK 27 w' tb) (hk : Keep (fun b => b = tb) wr w') : Mk e size f R w tb v xs w' :=
  h.step hR hk (fun _ h => .inl h) ht
theorem Mk.push (hR : Elem R) (h : Mk e size f R w tb v xs wr) (hx : R (Av w v) wr x) {o : Obj} {n : Nat} {ys : List Value} (hown : w'.ownsRow w.heap.size e size v' n ys) (hn : n = xs.length + 1) (hys : ys = xs.flatMap f ++ f x)
    (hg : (wr.alloc o).grownBy w' v.ownBlock) (hat : v'.ownBlock = v.ownBlock ∨ v'.ownBlock = some (wr.alloc o).heap.size) : Mk e size f R w tb v' (xs ++ [x]) w' := by
  have hsz := h.keep.size
  have htl := h.tlt
  subst hn hys
  have hk : Keep (fun b => v.ownBlock = some b ∨ wr.heap.size ≤ b) wr w' :=
    ((Keep.refl _ wr).alloc (.inr (Nat.le_refl _)) o).grown hg (fun k hk => .inr (by simp at hk; omega)) (fun k hk => .inl hk)
  have key : ∀ y, R (Av w v) wr y → R (Av w v') w' y := fun y hy => by
    have h1 : R (fun b => Av w v b ∨ wr.heap.size ≤ b) wr y := hR.other hy (fun k h1 h2 => by
      rcases h2 with h2 | h2
      · exact h2
      · omega)
    have h2 : R (fun b => Av w v b ∨ wr.heap.size ≤ b) w' y := hR.keep h1 hk (fun k _ h3 => by
      rcases h3 with h3 | h3
      · exact .inl (.inr h3)
      · exact .inr h3)
    refine hR.other h2 (fun k _ h3 => ?_)
    rcases h3 with h3 | h3
    · exact .inl (.inl h3)
    · rcases hat with e | e
      · rw [e] at h3; exact .inl (.inr h3)
      · rw [e] at h3; injection h3 with h3; simp at h3; exact .inr (by omega)
  refine ⟨by rw [List.length_append, List.flatMap_append]; simpa using hown, fun y hy => ?_, h.tape.keep hk (fun k hk h2 => ?_), h.keep.trans (hk.mono fun k h1 => ?_), htl⟩
  · rcases List.mem_append.1 hy with hy | hy
    · exact key y (h.ok y hy)
    · simp at hy; rw [hy]; exact key x hx
  · rcases h2 with h2 | h2
    · have := (h.own.lt k h2).1; omega
    · omega
  · rcases h1 with h1 | h1
    · exact .inr (h.own.lt k h1).1
    · exact .inr (by omega)
/-- What has just been made beside the row may go into it. -/
theorem Mk.fresh (hR : Elem R) (h : Mk e size f R w tb v xs wr) (hx : R (fun b => b < wr.heap.size) w' x) : R (Av w v) w' x :=
  hR.other hx (fun k h1 h2 => by
    have hsz := h.keep.size
    rcases h2 with h2 | h2
    · omega
    · exact (h.own.lt k h2).2)
end
end Go.Proofs.Ytohgjljcdnjajaa
