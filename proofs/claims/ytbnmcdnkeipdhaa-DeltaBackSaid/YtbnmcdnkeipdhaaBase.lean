/- Words for memory: what a call leaves as it was, and a tape of numbers. -/
import Derived.Test.YtbnmcdnkeipdhaaRows
import Derived.WalkKit
import Derived.WalkSpells
import Derived.WalkLawsBesides
import Derived.Maps.AppendAt
import Derived.Deep.AppendLies
import Derived.Deep.Draws
import Derived.Laws.OwnMore
import Derived.Deep.QuietTactic
import Derived.BigQuiet
import Derived.IntWalk
import Derived.Lib.SlBytesConst
import Derived.Laws.AppendOwnNone
import Derived.ProofKit
import Derived.Shelf.Abstract
set_option linter.all false
namespace Go.Proofs.Ytbnmcdnkeipdhaa
open Go.RowKit

theorem hid {p : Prop} (h : p) : Hid p := h

/-- Every block outside S is as it was. -/
structure Keep (S : Nat → Prop) (w w' : World) : Prop where
  os : w'.os = w.os
  tape : w'.tape = w.tape
  output : w'.output = w.output
  size : w.heap.size ≤ w'.heap.size
  block : ∀ k, ¬ S k → w'.heap[k]? = w.heap[k]?

section
variable {S S' : Nat → Prop} {w w' w'' a b c : World}
theorem Keep.refl (S : Nat → Prop) (w : World) : Keep S w w := ⟨rfl, rfl, rfl, Nat.le_refl _, fun _ _ => rfl⟩
theorem Keep.trans (h : Keep S a b) (k : Keep S b c) : Keep S a c :=
  ⟨k.os.trans h.os, k.tape.trans h.tape, k.output.trans h.output, Nat.le_trans h.size k.size, fun i hi => (k.block i hi).trans (h.block i hi)⟩
theorem Keep.mono (h : Keep S w w') (hs : ∀ k, S k → S' k) : Keep S' w w' :=
  ⟨h.os, h.tape, h.output, h.size, fun k hk => h.block k fun hh => hk (hs k hh)⟩
theorem Keep.drew (h : Keep S a w) : Keep S a w.drew := ⟨h.os, h.tape, h.output, h.size, h.block⟩
theorem Keep.drewN (h : Keep S a w) (n : Nat) : Keep S a (w.drewN n) := ⟨h.os, h.tape, h.output, h.size, h.block⟩
theorem Keep.setCell (h : Keep S a w) {p : Addr} (hp : S p.block) (u : Value) : Keep S a (w.setCell p u) :=
  h.trans ⟨rfl, rfl, rfl, by simp [World.setCell], fun k hk => Below.heap_setCell _ _ _ _ (fun e => hk (e ▸ hp))⟩
theorem Keep.alloc (h : Keep S a w) (hS : S w.heap.size) (o : Obj) : Keep S a (w.alloc o) :=
  h.trans ⟨rfl, rfl, rfl, by simp, fun k hk => by
    show (w.heap.push o)[k]? = _
    rw [Array.getElem?_push, if_neg (fun (e : k = w.heap.size) => hk (by rw [e]; exact hS))]⟩
theorem Keep.below {B : Nat} (h : Below B w w') (hS : ∀ k, B ≤ k → S k) : Keep S w w' :=
  ⟨h.os, h.tape, h.output, h.size, fun k hk => h.block k (Nat.lt_of_not_le fun hle => hk (hS k hle))⟩
theorem Keep.to_below {B : Nat} (h : Keep S w w') (hS : ∀ k, S k → B ≤ k) : Below B w w' :=
  ⟨h.os, h.tape, h.output, h.size, fun k hk => h.block k fun hs => by have := hS k hs; omega⟩
theorem Keep.grown {row : Option Nat} (h : Keep S a w) (hg : w.grownBy w' row) (hS : ∀ k, w.heap.size ≤ k → S k) (hr : ∀ k, row = some k → S k) : Keep S a w' :=
  h.trans ⟨hg.os, hg.tape, hg.output, hg.size, fun k hk => hg.block k (Nat.lt_of_not_le fun hle => hk (hS k hle)) (fun e => hk (hr k e.symm))⟩
theorem Keep.cell (h : Keep S w w') {p : Addr} (hp : ¬ S p.block) : w'.cell? p = w.cell? p := World.cell?_of_block (w := w) (h.block p.block hp)
theorem Keep.frozen (h : Keep S w w') {p : Addr} (hp : ¬ S p.block) : w'.frozen? p = w.frozen? p := World.frozen?_of_block (w := w) (h.block p.block hp)
end

theorem block_of_add (a : Addr) (n : Nat) : (a.add n).block = a.block := by unfold Addr.add; split <;> rfl
theorem add_of_add (a : Addr) (i j : Nat) : (a.add i).add j = a.add (i + j) := by
  unfold Addr.add
  by_cases hi : i = 0 <;> by_cases hj : j = 0 <;> simp [hi, hj, Nat.add_assoc]

/-- Block g is just the cells cs of type t, none frozen. -/
def Blk (w : World) (g : Nat) (t : TypeId) (cs : Array Value) : Prop := w.heap[g]? = some (.cells cs t (0, 0))

section
variable {w w' : World} {g : Nat} {t : TypeId} {cs : Array Value}
theorem Blk.lt (h : Blk w g t cs) : g < w.heap.size := by
  rcases Nat.lt_or_ge g w.heap.size with hlt | hge
  · exact hlt
  · unfold Blk at h; rw [Array.getElem?_eq_none hge] at h; cases h
theorem Blk.cell (h : Blk w g t cs) (i : Nat) : w.cell? ⟨g, i, none⟩ = cs[i]? := cell_of_row w g i cs t (0, 0) h
theorem Blk.frozen (h : Blk w g t cs) (i : Nat) : w.frozen? ⟨g, i, none⟩ = false := by
  unfold Blk at h
  simp [World.frozen?, h]
theorem Blk.new (w : World) (t : TypeId) (cs : Array Value) : Blk (w.alloc (.cells cs t)) w.heap.size t cs := heap_alloc_new w _
theorem Blk.drew (h : Blk w g t cs) : Blk w.drew g t cs := h
theorem Blk.drewN (h : Blk w g t cs) (n : Nat) : Blk (w.drewN n) g t cs := h
theorem Blk.alloc (h : Blk w g t cs) (o : Obj) : Blk (w.alloc o) g t cs := (Below.heap_alloc w o g h.lt).trans h
theorem Blk.set_ (h : Blk w g t cs) (i : Nat) (u : Value) : Blk (w.setCell ⟨g, i, none⟩ u) g t (cs.setIfInBounds i u) := by
  unfold Blk at h ⊢
  simp [World.setCell, Array.getElem?_modify, h]
theorem Blk.far (h : Blk w g t cs) {p : Addr} (hp : g ≠ p.block) (u : Value) : Blk (w.setCell p u) g t cs := (Below.heap_setCell w p u g hp).trans h
theorem Blk.keep {S : Nat → Prop} (h : Blk w g t cs) (hk : Keep S w w') (hg : ¬ S g) : Blk w' g t cs := (hk.block g hg).trans h
theorem Blk.grown {row : Option Nat} (h : Blk w g t cs) (hb : w.grownBy w' row) (hg : some g ≠ row) : Blk w' g t cs := (hb.block g h.lt hg).trans h
end

/-- The cells xs can be read from A on, in a block outside S. -/
def Cells (S : Nat → Prop) (w : World) (A : Option Addr) (xs : List Value) : Prop :=
  ∀ i u, xs[i]? = some u → ∃ ad, A = some ad ∧ ¬ S ad.block ∧ w.cell? (ad.add i) = some u

section
variable {S S' : Nat → Prop} {w w' : World} {A : Option Addr} {xs ys : List Value}
theorem Cells.nil (S : Nat → Prop) (w : World) (A : Option Addr) : Cells S w A [] := fun i u h => by simp at h
theorem lt_of_cell {a : Addr} {i : Nat} {v : Value} (h : w.cell? (a.add i) = some v) : a.block < w.heap.size := by
  have := World.block_lt_of_cell? _ _ h
  rwa [block_of_add] at this
theorem Cells.keep (h : Cells S w A xs) (hk : Keep S' w w') (hS : ∀ k, k < w.heap.size → S' k → S k) : Cells S w' A xs := by
  intro i u hu
  obtain ⟨ad, e, hs, hc⟩ := h i u hu
  exact ⟨ad, e, hs, (hk.cell (p := ad.add i) (by rw [block_of_add]; exact fun hh => hs (hS _ (lt_of_cell hc) hh))).trans hc⟩
theorem Cells.below (h : Cells S w A xs) (hk : Below w.heap.size w w') : Cells S w' A xs :=
  h.keep (Keep.below hk fun _ hh => hh) fun k h1 h2 => by omega
theorem Cells.drewN (h : Cells S w A xs) (n : Nat) : Cells S (w.drewN n) A xs := h
theorem Cells.alloc (h : Cells S w A xs) (o : Obj) : Cells S (w.alloc o) A xs := h.below ((Below.refl _ _).alloc (Nat.le_refl _) _)
theorem Cells.mono (h : Cells S w A xs) (hS : ∀ k, S' k → S k) : Cells S' w A xs := fun i u hu => by
  obtain ⟨ad, e, hs, hc⟩ := h i u hu
  exact ⟨ad, e, fun hh => hs (hS _ hh), hc⟩
/-- What is read may be given another set, if the blocks that are there lie outside it. -/
theorem Cells.other (h : Cells S w A xs) (hS : ∀ k, k < w.heap.size → S' k → S k) : Cells S' w A xs := fun i u hu => by
  obtain ⟨ad, e, hs, hc⟩ := h i u hu
  exact ⟨ad, e, fun hh => hs (hS _ (lt_of_cell hc) hh), hc⟩
theorem Cells.take (h : Cells S w A xs) (n : Nat) : Cells S w A (xs.take n) := fun i u hu => by
  rw [List.getElem?_take] at hu
  split at hu
  · exact h i u hu
  · cases hu
theorem Cells.drop (h : Cells S w A xs) (n : Nat) : Cells S w (A.map (·.add n)) (xs.drop n) := fun i u hu => by
  rw [List.getElem?_drop] at hu
  obtain ⟨ad, rfl, hs, hc⟩ := h _ u hu
  exact ⟨ad.add n, rfl, by rw [block_of_add]; exact hs, by rw [add_of_add]; exact hc⟩
theorem Cells.some_ (h : Cells S w A xs) (hn : 0 < xs.length) : ∃ ad, A = some ad ∧ ¬ S ad.block ∧ ∀ i u, xs[i]? = some u → w.cell? (ad.add i) = some u := by
  obtain ⟨ad, e, hs, _⟩ := h 0 _ (List.getElem?_eq_getElem hn)
  refine ⟨ad, e, hs, fun i u hu => ?_⟩
  obtain ⟨ad', e', _, hc⟩ := h i u hu
  rw [e] at e'
  injection e' with e'
  subst e'
  exact hc
theorem Cells.plain (h : Cells S w A xs) (hn : 0 < xs.length) : ∃ b o, A = some ⟨b, o, none⟩ ∧ ¬ S b ∧ ∀ i u, xs[i]? = some u → w.cell? ⟨b, o + i, none⟩ = some u := by
  obtain ⟨ad, e, hs, hc⟩ := h.some_ hn
  obtain ⟨b, o, sp⟩ := ad
  have h0 := hc 0 _ (List.getElem?_eq_getElem hn)
  have hsp : sp = none := by
    cases sp with
    | none => rfl
    | some x =>
      simp only [World.cell?, Addr.add] at h0
      split at h0 <;> simp_all
  subst hsp
  refine ⟨b, o, e, hs, fun i u hu => ?_⟩
  have := hc i u hu
  rwa [Addr.add_lit] at this
theorem Cells.of_own {base : Nat} {e : TypeId} {size n c : Nat} (h : w.ownsRow base e size (.slice A n c) n xs) (hS : ∀ k, base ≤ k → k < w.heap.size → ¬ S k) : Cells S w A xs := by
  intro i u hu
  rcases h.2 with ⟨hv, hn⟩ | ⟨g, cap, cur, hv, hg, hh, _⟩
  · have h1 := h.1
    subst hn
    rw [Nat.zero_mul] at h1
    rw [List.eq_nil_of_length_eq_zero h1] at hu
    simp at hu
  · injection hv with hA
    subst hA
    have hlt : g < w.heap.size := by
      rcases Nat.lt_or_ge g w.heap.size with hlt | hge
      · exact hlt
      · rw [Array.getElem?_eq_none hge] at hh; cases hh
    exact ⟨⟨g, 0, none⟩, rfl, hS g hg hlt, h.cells (g := g) rfl i u hu⟩
end

/-- What an owned row's value looks like. -/
theorem own_form {w : World} {base : Nat} {e : TypeId} {size n : Nat} {v : Value} {xs : List Value} (h : w.ownsRow base e size v n xs) : ∃ A c, v = .slice A n c ∧ n ≤ c ∧ c ≤ maxLen ∧ (A = none → n = 0 ∧ c = 0) := by
  rcases h.2 with ⟨rfl, rfl⟩ | ⟨g, cap, cur, rfl, _, _, hn, hm, _⟩
  · exact ⟨none, 0, rfl, Nat.le_refl _, by unfold maxLen; omega, fun _ => ⟨rfl, rfl⟩⟩
  · exact ⟨_, cap, rfl, hn, hm, fun h => by cases h⟩

theorem ownsRow_keep {S : Nat → Prop} {w w' : World} {base : Nat} {e : TypeId} {size : Nat} {v : Value} {n : Nat} {xs : List Value} (h : w.ownsRow base e size v n xs) (hk : Keep S w w') (hS : ∀ k, base ≤ k → k < w.heap.size → ¬ S k) : w'.ownsRow base e size v n xs := by
  obtain ⟨h1, h2⟩ := h
  refine ⟨h1, ?_⟩
  rcases h2 with h2 | ⟨g, cap, cur, hv, hg, hh, r⟩
  · exact Or.inl h2
  · refine Or.inr ⟨g, cap, cur, hv, hg, ?_, r⟩
    have hlt : g < w.heap.size := by
      rcases Nat.lt_or_ge g w.heap.size with hlt | hge
      · exact hlt
      · rw [Array.getElem?_eq_none hge] at hh; cases hh
    rw [hk.block g (hS g hg hlt)]; exact hh
/-- An owned row is kept where its own block is. -/
theorem ownsRow_at {S : Nat → Prop} {w w' : World} {base : Nat} {e : TypeId} {size : Nat} {v : Value} {n : Nat} {xs : List Value} (h : w.ownsRow base e size v n xs) (hk : Keep S w w') (hS : ∀ k, v.ownBlock = some k → ¬ S k) : w'.ownsRow base e size v n xs := by
  obtain ⟨h1, h2⟩ := h
  refine ⟨h1, ?_⟩
  rcases h2 with h2 | ⟨g, cap, cur, hv, hg, hh, r⟩
  · exact Or.inl h2
  · refine Or.inr ⟨g, cap, cur, hv, hg, ?_, r⟩
    rw [hk.block g (hS g (by rw [hv]; rfl))]; exact hh
theorem ownsRow_below {w w' : World} {base : Nat} {e : TypeId} {size : Nat} {v : Value} {n : Nat} {xs : List Value} (h : w.ownsRow base e size v n xs) (hk : Below w.heap.size w w') : w'.ownsRow base e size v n xs :=
  ownsRow_keep h (Keep.below hk fun _ hh => hh) fun k _ h2 h3 => by omega

/-- A REGION THAT DRAWS ITS ORDER, whose operations read, and whose calls may make memory: one walk of the text's order serves every order, in every world g x. -/
theorem wp_region_class {P : Program} {X : Type} (g : X → World) {id : Nat} {Q : Exit → Act → World → Prop} {a : Act} {w : World} {l : List Oper} (hm : P.follows .mixedOrders = true) (hB : Region.lexB .any l.toArray = true) (x0 : X) (h0 : w.drew = g x0)
    (h : wpQuiet P l.toArray (fun w' => ∃ x : X, w' = g x) (fun a' => ∀ w', (∃ x : X, w' = g x) → Q .normal a' w') l a) : (Code.region id l.toArray true).wp P Q a w :=
  wp_region_quiet (C := fun w' => ∃ x : X, w' = g x) hm hB ⟨x0, h0⟩ (by simpa using h)

/-- The worlds that are as w below its heap's size. -/
structure Later (w : World) where
  val : World
  prop : Below w.heap.size w val
def Later.drew (w : World) : Later w := ⟨w.drew, (Below.refl _ _).drew⟩
instance (w : World) : Nonempty (Later w) := ⟨Later.drew w⟩
theorem Later.then_ {w : World} (x : Later w) {w' : World} (h : Below x.val.heap.size x.val w') : ∃ y : Later w, w' = y.val := ⟨⟨w', x.prop.trans (h.mono x.prop.size)⟩, rfl⟩
theorem Later.same {w : World} (x : Later w) {w' : World} (h : x.val = w') : ∃ y : Later w, w' = y.val := ⟨x, h.symm⟩
theorem Later.cell {w : World} {a : Addr} {v : Value} (h : w.cell? a = some v) (x : Later w) : x.val.cell? a = some v := cell_later x.prop h

theorem cell_new {w : World} {a : Addr} {v : Value} (h : w.cell? a = some v) (o : Obj) : (w.alloc o).cell? a = some v := cell_later ((Below.refl _ _).alloc (Nat.le_refl _) o) h
/-- A new block is there behind a call. -/
theorem new_later {w w' : World} {C : Array Value} {t : TypeId} (hB : Below (w.alloc (.cells C t)).heap.size (w.alloc (.cells C t)) w') : Blk w' w.heap.size t C :=
  (hB.block w.heap.size (by simp)).trans (heap_alloc_new w _)
theorem ret_bool {a b : Bool} (h : a = b) : Ending.returned (.bool a) = .returned (.bool b) := by rw [h]
theorem ret_int {k : IntKind} {a b : Int} (h : a = b) : Ending.returned (.int k a) = .returned (.int k b) := by rw [h]

/-- A new block's cells. -/
theorem Cells.new (w : World) (cs : Array Value) (t : TypeId) : Cells (fun _ => False) (w.alloc (.cells cs t)) (some ⟨w.heap.size, 0, none⟩) cs.toList := fun j u hu => by
  refine ⟨_, rfl, fun h => h, ?_⟩
  rw [Addr.add_lit, Nat.zero_add, (Blk.new w t cs).cell j]
  simpa using hu

/-! cuts of slices -/

/-- Where a cut from lo on begins. -/
@[irreducible] def subA (A : Option Addr) (cap lo size : Nat) : Option Addr := if cap = lo then A else A.map (·.add (lo * size))
theorem Cells.sub {S : Nat → Prop} {w : World} {A : Option Addr} {xs : List Value} (h : Cells S w A xs) (cap lo size : Nat) (hc : xs.length ≤ cap * size) : Cells S w (subA A cap lo size) (xs.drop (lo * size)) := by
  unfold subA
  split
  · rename_i e
    subst e
    rw [List.drop_of_length_le hc]
    exact Cells.nil _ _ _
  · exact h.drop _
section
variable {P : Program} (w : World)
theorem run_bound (k : IntKind) (i : Int) (y : Nat) (code : BoundsCode) (h0 : 0 ≤ i) (h1 : i ≤ (y : Int)) : (Instr.sliceBound (.int k i) y code).run P w = .ok i.toNat w := by
  simp [Instr.sliceBound, asIntOf, h0, h1, go_sem]
theorem run_slice_both (t e : TypeId) (hu : P.underlying t = some (.slice e)) (i0 : TypeInfo) (hi : P.info? e = some i0) (A : Option Addr) (len cap : Nat) (i j : Int) (h0 : 0 ≤ i) (h1 : i ≤ j) (h2 : j ≤ (cap : Int)) :
    (Instr.slice t (.slice A len cap) (some (.int .i64 i)) (some (.int .i64 j)) none).run P w = .ok (.slice (subA A cap i.toNat i0.size) (j.toNat - i.toNat) (cap - i.toNat)) w := by
  have b1 := fun code => run_bound (P := P) w .i64 j cap code (by omega) h2
  have b2 := fun code => run_bound (P := P) w .i64 i j.toNat code h0 (by omega)
  simp [Instr.slice, Instr.sliceBounds, run_underlying hu, sizeOf, typeInfo, hi, b1, b2, subA]
theorem run_slice_from (t e : TypeId) (hu : P.underlying t = some (.slice e)) (i0 : TypeInfo) (hi : P.info? e = some i0) (A : Option Addr) (len cap : Nat) (i : Int) (h0 : 0 ≤ i) (h1 : i ≤ (len : Int)) :
    (Instr.slice t (.slice A len cap) (some (.int .i64 i)) none none).run P w = .ok (.slice (subA A cap i.toNat i0.size) (len - i.toNat) (cap - i.toNat)) w := by
  have b2 := fun code => run_bound (P := P) w .i64 i len code h0 (by omega)
  simp [Instr.slice, Instr.sliceBounds, run_underlying hu, sizeOf, typeInfo, hi, b2, subA]
theorem run_slice_to (t e : TypeId) (hu : P.underlying t = some (.slice e)) (i0 : TypeInfo) (hi : P.info? e = some i0) (A : Option Addr) (len cap : Nat) (j : Int) (h0 : 0 ≤ j) (h2 : j ≤ (cap : Int)) :
    (Instr.slice t (.slice A len cap) none (some (.int .i64 j)) none).run P w = .ok (.slice A j.toNat cap) w := by
  have b1 := fun code => run_bound (P := P) w .i64 j cap code h0 h2
  simp [Instr.slice, Instr.sliceBounds, run_underlying hu, sizeOf, typeInfo, hi, b1, go_sem]
end

/-! append onto a row of the call's own, the source nil, empty or not -/
section
variable {P : Program} (w : World)

theorem run_append_of_nil (base : Nat) (t ty e : TypeId) (i : TypeInfo) (size : Nat) (ht : P.underlying t = some (.slice e)) (hi : P.info? e = some i)
    (v : Value) (n : Nat) (xs : List Value) (hown : w.ownsRow base e size v n xs) (c : Nat) : (Builtin.append_ #[t, t] ty #[v, .slice none 0 c]).run P w = .ok v w := by
  rcases hown.2 with ⟨rfl, rfl⟩ | ⟨g, cap, cur, rfl, _, _, hnc, _⟩
  · simp [Builtin.append_, run_underlying ht, sizeOf, typeInfo, hi, Builtin.lenOf, Builtin.firstCells]
  · simp [Builtin.append_, run_underlying ht, sizeOf, typeInfo, hi, Builtin.lenOf, Builtin.firstCells, hnc, storeCells]

theorem run_append_any (base : Nat) (t ty e : TypeId) (i : TypeInfo) (z : Value) (size bytes : Nat) (ht : P.underlying t = some (.slice e)) (hi : P.info? e = some i) (hz : i.zero = some z)
    (hsize : i.size = size) (hby : i.bytes = bytes) (hzs : z.cells.size = size) (hsz : 0 < size)
    (v : Value) (n : Nat) (xs : List Value) (hown : w.ownsRow base e size v n xs)
    (S : Nat → Prop) (A : Option Addr) (m c : Nat) (news : List Value) (hr : Cells S w A news) (hlen : news.length = m * size) (h1 : ∀ u ∈ news, u.oneCell' = true)
    (h63 : n + m ≤ maxLen) (hbytes : (n + m) * bytes ≤ 140737488355328) (hbase : base ≤ w.heap.size) :
    ∃ v' w', (Builtin.append_ #[t, t] ty #[v, .slice A m c]).run P w = .ok v' w' ∧ w'.ownsRow base e size v' (n + m) (xs ++ news) ∧ w.grownBy w' v.ownBlock ∧
      (v'.ownBlock = v.ownBlock ∨ v'.ownBlock = some w.heap.size) := by
  rcases A with _ | ad
  · have hn : news = [] := by
      rcases news with _ | ⟨u, news⟩
      · rfl
      · obtain ⟨ad, h, _⟩ := hr 0 u rfl
        cases h
    subst hn
    have hm : m = 0 := by
      rcases Nat.eq_zero_or_pos m with h0 | h0
      · exact h0
      · have := Nat.mul_pos h0 hsz
        simp at hlen
        omega
    subst hm
    exact ⟨v, w, run_append_of_nil w base t ty e i size ht hi v n xs hown c, by simpa using hown, World.grownBy.refl w _, .inl rfl⟩
  · have hcells : ∀ j u, news[j]? = some u → w.cell? (ad.add j) = some u := by
      intro j u hu
      obtain ⟨ad', h, _, hc⟩ := hr j u hu
      injection h with h
      subst h
      exact hc
    obtain ⟨v', w', hrun, h2, h3, _, h5⟩ := run_append_own_at (P := P) w base t ty e i z size bytes ht hi hz hsize hby hzs hsz v n xs hown ad m c news hlen hcells h1 h63 hbytes hbase
    exact ⟨v', w', hrun, h2, h3, h5⟩

theorem wp_append_any {o : Oper} {a : Act} {K : Act → World → Prop} {Q : Exit → Act → World → Prop} (s x : Operand) (t : TypeId)
    (ho : o.op = .call { callee := .builtin .append, args := #[s, x], argTypes := #[t, t] })
    (base : Nat) (e : TypeId) (i : TypeInfo) (z : Value) (size bytes : Nat) (ht : P.underlying t = some (.slice e)) (hi : P.info? e = some i) (hz : i.zero = some z)
    (hsize : i.size = size) (hby : i.bytes = bytes) (hzs : z.cells.size = size) (hsz : 0 < size)
    (v : Value) (n : Nat) (xs : List Value) (hs : a.eval s = v) (hown : w.ownsRow base e size v n xs)
    (S : Nat → Prop) (A : Option Addr) (m c : Nat) (news : List Value) (hx : a.eval x = .slice A m c) (hr : Cells S w A news) (hlen : news.length = m * size) (h1 : ∀ u ∈ news, u.oneCell' = true)
    (h63 : n + m ≤ maxLen) (hbytes : (n + m) * bytes ≤ 140737488355328) (hbase : base ≤ w.heap.size)
    (h : ∀ v' w', w'.ownsRow base e size v' (n + m) (xs ++ news) → w.grownBy w' v.ownBlock → (v'.ownBlock = v.ownBlock ∨ v'.ownBlock = some w.heap.size) → K (a.put o.dst v') w') : o.wp P a w K Q := by
  obtain ⟨v', w', hrun, h2, h3, h4⟩ := run_append_any (P := P) w base t o.type e i z size bytes ht hi hz hsize hby hzs hsz v n xs hown S A m c news hr hlen h1 h63 hbytes hbase
  unfold Oper.wp execOp
  simp only [ho, resolve, invoke, builtin, Sem.run_bind, Sem.run_pure, Result.andThen_ok, List.map_toArray, List.map_cons, List.map_nil, hs, hx, hrun]
  exact h v' w' h2 h3 h4

theorem wpList_append_any {ops : Array Oper} {rest : List Oper} {o : Oper} {a : Act} {Q : Exit → Act → World → Prop} (hgd : o.guard = none) (s x : Operand) (t : TypeId)
    (ho : o.op = .call { callee := .builtin .append, args := #[s, x], argTypes := #[t, t] })
    (base : Nat) (e : TypeId) (i : TypeInfo) (z : Value) (size bytes : Nat) (ht : P.underlying t = some (.slice e)) (hi : P.info? e = some i) (hz : i.zero = some z)
    (hsize : i.size = size) (hby : i.bytes = bytes) (hzs : z.cells.size = size) (hsz : 0 < size)
    (v : Value) (n : Nat) (xs : List Value) (hs : a.eval s = v) (hown : w.ownsRow base e size v n xs)
    (S : Nat → Prop) (A : Option Addr) (m c : Nat) (news : List Value) (hx : a.eval x = .slice A m c) (hr : Cells S w A news) (hlen : news.length = m * size) (h1 : ∀ u ∈ news, u.oneCell' = true)
    (h63 : n + m ≤ maxLen) (hbytes : (n + m) * bytes ≤ 140737488355328) (hbase : base ≤ w.heap.size)
    (h : ∀ v' w', w'.ownsRow base e size v' (n + m) (xs ++ news) → w.grownBy w' v.ownBlock → (v'.ownBlock = v.ownBlock ∨ v'.ownBlock = some w.heap.size) → wpList P ops Q rest (a.put o.dst v') w') : wpList P ops Q (o :: rest) a w :=
  wpList_plain hgd fun _ hK => wp_append_any w s x t ho base e i z size bytes ht hi hz hsize hby hzs hsz v n xs hs hown S A m c news hx hr hlen h1 h63 hbytes hbase fun v' w' h2 h3 h4 => hK _ _ (h v' w' h2 h3 h4)

theorem step_append_any {ops : Array Oper} {o : Oper} {a : Act} {K : Act → World → Prop} {Q : Exit → Act → World → Prop} {E : Prop} (hgd : o.guard = none) (s x : Operand) (t : TypeId)
    (ho : o.op = .call { callee := .builtin .append, args := #[s, x], argTypes := #[t, t] })
    (base : Nat) (e : TypeId) (i : TypeInfo) (z : Value) (size bytes : Nat) (ht : P.underlying t = some (.slice e)) (hi : P.info? e = some i) (hz : i.zero = some z)
    (hsize : i.size = size) (hby : i.bytes = bytes) (hzs : z.cells.size = size) (hsz : 0 < size)
    (v : Value) (n : Nat) (xs : List Value) (hs : a.eval s = v) (hown : w.ownsRow base e size v n xs)
    (S : Nat → Prop) (A : Option Addr) (m c : Nat) (news : List Value) (hx : a.eval x = .slice A m c) (hr : Cells S w A news) (hlen : news.length = m * size) (h1 : ∀ u ∈ news, u.oneCell' = true)
    (h63 : n + m ≤ maxLen) (hbytes : (n + m) * bytes ≤ 140737488355328) (hbase : base ≤ w.heap.size)
    (h : ∀ v' w', w'.ownsRow base e size v' (n + m) (xs ++ news) → w.grownBy w' v.ownBlock → (v'.ownBlock = v.ownBlock ∨ v'.ownBlock = some w.heap.size) → K (a.put o.dst v') w') :
    if Region.wanted o (yielded ops a.tmps) = true then Oper.wp P o a w K Q else E := by
  have hw : Region.wanted o (yielded ops a.tmps) = true := by simp [Region.wanted, hgd]
  rw [if_pos hw]
  exact wp_append_any w s x t ho base e i z size bytes ht hi hz hsize hby hzs hsz v n xs hs hown S A m c news hx hr hlen h1 h63 hbytes hbase h
end

/-! ### bytes -/

/-- Byte i of a list, as the model has it. -/
def byt (l : List UInt8) (i : Nat) : Int := ((l.getD i 0).toNat : Int)
theorem byt_bd (l : List UInt8) (i : Nat) : 0 ≤ byt l i ∧ byt l i ≤ 255 := by
  unfold byt; have := (l.getD i 0).toNat_lt; omega
def byteV (b : UInt8) : Value := .int .u8 (b.toNat : Int)
theorem byteV_one (l : List UInt8) : ∀ u ∈ l.map byteV, u.oneCell' = true := by
  intro u hu
  obtain ⟨b, _, rfl⟩ := List.mem_map.1 hu
  rfl

/-- The bytes l can be read from A on, in a block outside S. -/
def Bts (S : Nat → Prop) (w : World) (A : Option Addr) (l : List UInt8) : Prop := Cells S w A (l.map byteV)

section
variable {S S' : Nat → Prop} {w w' : World} {A : Option Addr} {l : List UInt8}
theorem Bts.at_ (h : Bts S w A l) (i : Nat) (hi : i < l.length) : ∃ ad, A = some ad ∧ ¬ S ad.block ∧ w.cell? (ad.add i) = some (.int .u8 (byt l i)) := by
  refine h i _ ?_
  simp [hi, byteV, byt]
theorem Bts.keep (h : Bts S w A l) (hk : Keep S' w w') (hS : ∀ k, k < w.heap.size → S' k → S k) : Bts S w' A l := Cells.keep h hk hS
theorem Bts.below (h : Bts S w A l) (hk : Below w.heap.size w w') : Bts S w' A l := Cells.below h hk
theorem Bts.mono (h : Bts S w A l) (hS : ∀ k, S' k → S k) : Bts S' w A l := Cells.mono h hS
theorem Bts.other (h : Bts S w A l) (hS : ∀ k, k < w.heap.size → S' k → S k) : Bts S' w A l := Cells.other h hS
end

theorem Bts.sub {S : Nat → Prop} {w : World} {A : Option Addr} {l : List UInt8} (h : Bts S w A l) (cap lo : Nat) (hc : l.length ≤ cap) : Bts S w (subA A cap lo 1) (l.drop lo) := by
  have := Cells.sub h cap lo 1 (by simpa using hc)
  unfold Bts
  rw [List.map_drop]
  simpa using this
theorem Bts.cut {S : Nat → Prop} {w : World} {A : Option Addr} {l : List UInt8} (h : Bts S w A l) (cap lo n : Nat) (hc : l.length ≤ cap) : Bts S w (subA A cap lo 1) ((l.drop lo).take n) := by
  have := Cells.take (h.sub cap lo hc) n
  unfold Bts
  rw [List.map_take]
  exact this
theorem Bts.take {S : Nat → Prop} {w : World} {A : Option Addr} {l : List UInt8} (h : Bts S w A l) (n : Nat) : Bts S w A (l.take n) := by
  have := Cells.take h n
  unfold Bts
  rw [List.map_take]
  exact this

/-- The string of bytes l. -/
def bstr (l : List UInt8) : ByteArray := ⟨l.toArray⟩
theorem bstr_list (l : List UInt8) : (bstr l).toList = l := by rw [ByteArray.toList_eq]; rfl
theorem bstr_beq (a b : List UInt8) : ((bstr a).toList == (bstr b).toList) = decide (a = b) := by
  rw [bstr_list, bstr_list]
  by_cases h : a = b
  · simp [h]
  · simp [h]
theorem Bts.string {S : Nat → Prop} {P : Program} {w : World} {A : Option Addr} {l : List UInt8} (h : Bts S w A l) (src dst e : TypeId) (c : Nat) (hs : P.underlying src = some (.slice e)) (he : P.underlying e = some (.int .u8)) (hd : P.underlying dst = some .string) :
    (convert src dst (.slice A l.length c)).run P w = .ok (.string (bstr l)) w := by
  cases A with
  | none =>
    have hl : l = [] := by
      rcases l with _ | ⟨b, l⟩
      · rfl
      · obtain ⟨ad, e, _⟩ := h 0 _ rfl
        cases e
    subst hl
    exact run_convert_bytes_nil (P := P) (w := w) src e hs he _ c dst hd
  | some ad =>
    refine run_convert_bytes_back w src dst e ad c l hs he hd fun j hj => ?_
    obtain ⟨ad', e, _, hc⟩ := h.at_ j hj
    injection e with e
    subst e
    rw [hc, byt]
    simp [hj]

/-- A value that is a byte. -/
def isByte (v : Value) : Prop := ∃ b : UInt8, v = byteV b
theorem isByte_of (x : Int) (h0 : 0 ≤ x) (h1 : x ≤ 255) : isByte (.int .u8 x) := by
  refine ⟨UInt8.ofNat x.toNat, ?_⟩
  unfold byteV
  rw [UInt8.toNat_ofNat']
  congr 1; simp; omega
theorem isByte_snoc {vs : List Value} {u : Value} (h : ∀ u ∈ vs, isByte u) (hu : isByte u) : ∀ x ∈ vs ++ [u], isByte x := by
  intro x hx
  rcases List.mem_append.1 hx with hx | hx
  · exact h x hx
  · simp at hx; rw [hx]; exact hu
theorem bytes_of_vals (vs : List Value) (h : ∀ u ∈ vs, isByte u) : ∃ l : List UInt8, l.map byteV = vs := by
  induction vs with
  | nil => exact ⟨[], rfl⟩
  | cons u vs ih =>
    obtain ⟨b, hb⟩ := h u (by simp)
    obtain ⟨l, hl⟩ := ih fun u hu => h u (by simp [hu])
    exact ⟨b :: l, by simp [hb, hl]⟩

/-- What the walk is told of a slice of integers that came in: it is nil, or it leads to a row of cap cells. -/
def IsRow (k : IntKind) (w : World) (a : Option Addr) (len cap : Nat) (zs : List Int) : Prop :=
  (a = none ∧ len = 0 ∧ cap = 0 ∧ zs = []) ∨
  ∃ x, a = some x ∧ len ≤ cap ∧ cap ≤ maxLen ∧ zs.length = cap ∧ (∀ i, i < zs.length → w.cell? (x.add i) = some (.int k (zs.getD i 0))) ∧ ∀ n ∈ zs, (Lit.int k n).wf = true

theorem IsRow.bytes {w : World} {a : Option Addr} {len cap : Nat} {zs : List Int} (h : IsRow .u8 w a len cap zs) : ∃ l : List UInt8, len = l.length ∧ l.length ≤ cap ∧ cap ≤ maxLen ∧ Bts (fun b => w.heap.size ≤ b) w a l := by
  rcases h with ⟨rfl, rfl, rfl, rfl⟩ | ⟨x, rfl, h1, h2, h3, h4, h5⟩
  · exact ⟨[], rfl, Nat.le_refl _, by unfold maxLen; omega, Cells.nil _ _ _⟩
  · refine ⟨(zs.take len).map fun z => UInt8.ofNat z.toNat, by simp; omega, by simp; omega, h2, ?_⟩
    intro i u hu
    have hi : i < len := by
      have := (List.getElem?_eq_some_iff.1 hu).1
      simp at this
      omega
    have hc := h4 i (by omega)
    have hw := h5 (zs[i]'(by omega)) (List.getElem_mem _)
    have hbd : 0 ≤ zs[i]'(by omega) ∧ zs[i]'(by omega) ≤ 255 := by
      simp [Lit.wf, IntKind.min, IntKind.max, IntKind.bits, IntKind.signed] at hw
      omega
    refine ⟨x, rfl, ?_, ?_⟩
    · have := lt_of_cell hc; omega
    · rw [hc]
      simp [hi, show i < zs.length by omega] at hu
      rw [← hu]
      unfold byteV
      simp [show i < zs.length by omega, UInt8.toNat_ofNat']
      omega

/-- A tape: its numbers can be read, and lie below its block. -/
def TapeAt (T : TypeId) (w : World) (tb : Nat) (A : Option Addr) (n c : Nat) (zs : Nat → Int) (k : Nat) : Prop :=
  Blk w tb T #[.slice A n c, .int .i64 (k : Int)] ∧ k ≤ n ∧ n ≤ 9223372036854775807 ∧
    ∀ i, i < n → ∃ ad, A = some ad ∧ ad.block < tb ∧ w.cell? (ad.add i) = some (.int .i64 (zs i))

def TapeOK (T : TypeId) (w : World) (tb : Nat) : Prop := ∃ A n c zs k, TapeAt T w tb A n c zs k

theorem TapeOK.keep {T : TypeId} {S : Nat → Prop} {w w' : World} {tb : Nat} (h : TapeOK T w tb) (hk : Keep S w w') (hS : ∀ k, k ≤ tb → ¬ S k) : TapeOK T w' tb := by
  obtain ⟨A, n, c, zs, k, hb, h1, h2, h3⟩ := h
  refine ⟨A, n, c, zs, k, hb.keep hk (hS _ (Nat.le_refl _)), h1, h2, fun i hi => ?_⟩
  obtain ⟨ad, e, hlt, hc⟩ := h3 i hi
  exact ⟨ad, e, hlt, (hk.cell (p := ad.add i) (by rw [block_of_add]; exact hS _ (by omega))).trans hc⟩

theorem IsRow.tape {T : TypeId} {w : World} {a : Option Addr} {len cap : Nat} {zs : List Int} (h : IsRow .i64 w a len cap zs) : TapeOK T (w.alloc (.cells #[.slice a len cap, .int .i64 0] T)) w.heap.size := by
  refine ⟨a, len, cap, fun i => zs.getD i 0, 0, Blk.new _ _ _, Nat.zero_le _, ?_, fun i hi => ?_⟩
  · rcases h with ⟨rfl, rfl, rfl, rfl⟩ | ⟨x, rfl, h1, h2, h3, h4, h5⟩
    · omega
    · unfold maxLen at h2; omega
  · rcases h with ⟨rfl, rfl, rfl, rfl⟩ | ⟨x, rfl, h1, h2, h3, h4, h5⟩
    · omega
    · have hc := h4 i (by omega)
      have hlt := lt_of_cell hc
      exact ⟨x, rfl, hlt, (World.cell?_alloc_lt w _ (x.add i) (by rw [block_of_add]; exact hlt)).trans hc⟩

end Go.Proofs.Ytbnmcdnkeipdhaa
