/- Texts of the library, put together. -/
import Derived.Test.YtcbppkfnfbdkhaaRows
import Derived.WalkKit
import Derived.WalkSpells
import Derived.WalkLawsBesides
import Derived.Maps.AppendAt
import Derived.Deep.AppendLies
import Derived.Deep.Draws
import Derived.Laws.OwnMore
import Derived.Deep.QuietTactic
import Derived.BigQuiet
import Derived.IntWalk
import Derived.Lib.SlBytesConst
import Derived.Laws.AppendOwnNone
import Derived.ProofKit
import Derived.Shelf.Abstract
import Derived.Laws.StructEq
import Derived.Laws.Cells
import Derived.Laws.Tables
import Derived.Laws.CopyRow
import Derived.Great.BuildSlice
/- Words for memory: what a call leaves as it was, and a tape of numbers. -/
set_option linter.all false
namespace Go.Proofs.Ytcbppkfnfbdkhaa
open Go.RowKit

theorem hid {p : Prop} (h : p) : Hid p := h

structure Keep (S : Nat → Prop) (w w' : World) : Prop where
  os : w'.os = w.os
  tape : w'.tape = w.tape
  output : w'.output = w.output
  size : w.heap.size ≤ w'.heap.size
  block : ∀ k, ¬ S k → w'.heap[k]? = w.heap[k]?

section
variable {S S' : Nat → Prop} {w w' w'' a b c : World}
theorem Keep.refl (S : Nat → Prop) (w : World) : Keep S w w := ⟨rfl, rfl, rfl, Nat.le_refl _, fun _ _ => rfl⟩
theorem Keep.trans (h : Keep S a b) (k : Keep S b c) : Keep S a c :=
  ⟨k.os.trans h.os, k.tape.trans h.tape, k.output.trans h.output, Nat.le_trans h.size k.size, fun i hi => (k.block i hi).trans (h.block i hi)⟩
theorem Keep.mono (h : Keep S w w') (hs : ∀ k, S k → S' k) : Keep S' w w' :=
  ⟨h.os, h.tape, h.output, h.size, fun k hk => h.block k fun hh => hk (hs k hh)⟩
theorem Keep.drew (h : Keep S a w) : Keep S a w.drew := ⟨h.os, h.tape, h.output, h.size, h.block⟩
theorem Keep.drewN (h : Keep S a w) (n : Nat) : Keep S a (w.drewN n) := ⟨h.os, h.tape, h.output, h.size, h.block⟩
theorem Keep.setCell (h : Keep S a w) {p : Addr} (hp : S p.block) (u : Value) : Keep S a (w.setCell p u) :=
  h.trans ⟨rfl, rfl, rfl, by simp [World.setCell], fun k hk => Below.heap_setCell _ _ _ _ (fun e => hk (e ▸ hp))⟩
theorem Keep.alloc (h : Keep S a w) (hS : S w.heap.size) (o : Obj) : Keep S a (w.alloc o) :=
  h.trans ⟨rfl, rfl, rfl, by simp, fun k hk => by
    show (w.heap.push o)[k]? = _
    rw [Array.getElem?_push, if_neg (fun (e : k = w.heap.size) => hk (by rw [e]; exact hS))]⟩
theorem Keep.below {B : Nat} (h : Below B w w') (hS : ∀ k, B ≤ k → S k) : Keep S w w' :=
  ⟨h.os, h.tape, h.output, h.size, fun k hk => h.block k (Nat.lt_of_not_le fun hle => hk (hS k hle))⟩
theorem Keep.to_below {B : Nat} (h : Keep S w w') (hS : ∀ k, S k → B ≤ k) : Below B w w' :=
  ⟨h.os, h.tape, h.output, h.size, fun k hk => h.block k fun hs => by have := hS k hs; omega⟩
theorem Keep.cell (h : Keep S w w') {p : Addr} (hp : ¬ S p.block) : w'.cell? p = w.cell? p := World.cell?_of_block (w := w) (h.block p.block hp)
theorem Keep.frozen (h : Keep S w w') {p : Addr} (hp : ¬ S p.block) : w'.frozen? p = w.frozen? p := World.frozen?_of_block (w := w) (h.block p.block hp)
end

theorem block_of_add (a : Addr) (n : Nat) : (a.add n).block = a.block := by unfold Addr.add; split <;> rfl
theorem add_of_add (a : Addr) (i j : Nat) : (a.add i).add j = a.add (i + j) := by
  unfold Addr.add
  by_cases hi : i = 0 <;> by_cases hj : j = 0 <;> simp [hi, hj, Nat.add_assoc]

def Blk (w : World) (g : Nat) (t : TypeId) (cs : Array Value) : Prop := w.heap[g]? = some (.cells cs t (0, 0))

section
variable {w w' : World} {g : Nat} {t : TypeId} {cs : Array Value}
theorem Blk.lt (h : Blk w g t cs) : g < w.heap.size := by
  rcases Nat.lt_or_ge g w.heap.size with hlt | hge
  · exact hlt
  · unfold Blk at h; rw [Array.getElem?_eq_none hge] at h; cases h
theorem Blk.cell (h : Blk w g t cs) (i : Nat) : w.cell? ⟨g, i, none⟩ = cs[i]? := cell_of_row w g i cs t (0, 0) h
theorem Blk.frozen (h : Blk w g t cs) (i : Nat) : w.frozen? ⟨g, i, none⟩ = false := by
  unfold Blk at h
  simp [World.frozen?, h]
theorem Blk.new (w : World) (t : TypeId) (cs : Array Value) : Blk (w.alloc (.cells cs t)) w.heap.size t cs := heap_alloc_new w _
theorem Blk.drew (h : Blk w g t cs) : Blk w.drew g t cs := h
theorem Blk.drewN (h : Blk w g t cs) (n : Nat) : Blk (w.drewN n) g t cs := h
theorem Blk.alloc (h : Blk w g t cs) (o : Obj) : Blk (w.alloc o) g t cs := (Below.heap_alloc w o g h.lt).trans h
theorem Blk.set_ (h : Blk w g t cs) (i : Nat) (u : Value) : Blk (w.setCell ⟨g, i, none⟩ u) g t (cs.setIfInBounds i u) := by
  unfold Blk at h ⊢
  simp [World.setCell, Array.getElem?_modify, h]
theorem Blk.keep {S : Nat → Prop} (h : Blk w g t cs) (hk : Keep S w w') (hg : ¬ S g) : Blk w' g t cs := (hk.block g hg).trans h
end

def Cells (S : Nat → Prop) (w : World) (A : Option Addr) (xs : List Value) : Prop :=
  ∀ i u, xs[i]? = some u → ∃ ad, A = some ad ∧ ¬ S ad.block ∧ w.cell? (ad.add i) = some u

section
variable {S S' : Nat → Prop} {w w' : World} {A : Option Addr} {xs ys : List Value}
theorem Cells.nil (S : Nat → Prop) (w : World) (A : Option Addr) : Cells S w A [] := fun i u h => by simp at h
theorem lt_of_cell {a : Addr} {i : Nat} {v : Value} (h : w.cell? (a.add i) = some v) : a.block < w.heap.size := by
  have := World.block_lt_of_cell? _ _ h
  rwa [block_of_add] at this
theorem Cells.keep (h : Cells S w A xs) (hk : Keep S' w w') (hS : ∀ k, k < w.heap.size → S' k → S k) : Cells S w' A xs := by
  intro i u hu
  obtain ⟨ad, e, hs, hc⟩ := h i u hu
  exact ⟨ad, e, hs, (hk.cell (p := ad.add i) (by rw [block_of_add]; exact fun hh => hs (hS _ (lt_of_cell hc) hh))).trans hc⟩
theorem Cells.below (h : Cells S w A xs) (hk : Below w.heap.size w w') : Cells S w' A xs :=
  h.keep (Keep.below hk fun _ hh => hh) fun k h1 h2 => by omega
theorem Cells.drewN (h : Cells S w A xs) (n : Nat) : Cells S (w.drewN n) A xs := h
theorem Cells.alloc (h : Cells S w A xs) (o : Obj) : Cells S (w.alloc o) A xs := h.below ((Below.refl _ _).alloc (Nat.le_refl _) _)
theorem Cells.mono (h : Cells S w A xs) (hS : ∀ k, S' k → S k) : Cells S' w A xs := fun i u hu => by
  obtain ⟨ad, e, hs, hc⟩ := h i u hu
  exact ⟨ad, e, fun hh => hs (hS _ hh), hc⟩
theorem Cells.other (h : Cells S w A xs) (hS : ∀ k, k < w.heap.size → S' k → S k) : Cells S' w A xs := fun i u hu => by
  obtain ⟨ad, e, hs, hc⟩ := h i u hu
  exact ⟨ad, e, fun hh => hs (hS _ (lt_of_cell hc) hh), hc⟩
theorem Cells.take (h : Cells S w A xs) (n : Nat) : Cells S w A (xs.take n) := fun i u hu => by
  rw [List.getElem?_take] at hu
  split at hu
  · exact h i u hu
  · cases hu
theorem Cells.drop (h : Cells S w A xs) (n : Nat) : Cells S w (A.map (·.add n)) (xs.drop n) := fun i u hu => by
  rw [List.getElem?_drop] at hu
  obtain ⟨ad, rfl, hs, hc⟩ := h _ u hu
  exact ⟨ad.add n, rfl, by rw [block_of_add]; exact hs, by rw [add_of_add]; exact hc⟩
theorem Cells.some_ (h : Cells S w A xs) (hn : 0 < xs.length) : ∃ ad, A = some ad ∧ ¬ S ad.block ∧ ∀ i u, xs[i]? = some u → w.cell? (ad.add i) = some u := by
  obtain ⟨ad, e, hs, _⟩ := h 0 _ (List.getElem?_eq_getElem hn)
  refine ⟨ad, e, hs, fun i u hu => ?_⟩
  obtain ⟨ad', e', _, hc⟩ := h i u hu
  rw [e] at e'
  injection e' with e'
  subst e'
  exact hc
theorem Cells.plain (h : Cells S w A xs) (hn : 0 < xs.length) : ∃ b o, A = some ⟨b, o, none⟩ ∧ ¬ S b ∧ ∀ i u, xs[i]? = some u → w.cell? ⟨b, o + i, none⟩ = some u := by
  obtain ⟨ad, e, hs, hc⟩ := h.some_ hn
  obtain ⟨b, o, sp⟩ := ad
  have h0 := hc 0 _ (List.getElem?_eq_getElem hn)
  have hsp : sp = none := by
    cases sp with
    | none => rfl
    | some x =>
      simp only [World.cell?, Addr.add] at h0
      split at h0 <;> simp_all
  subst hsp
  refine ⟨b, o, e, hs, fun i u hu => ?_⟩
  have := hc i u hu
  rwa [Addr.add_lit] at this
end

structure Later (w : World) where
  val : World
  prop : Below w.heap.size w val
def Later.drew (w : World) : Later w := ⟨w.drew, (Below.refl _ _).drew⟩
instance (w : World) : Nonempty (Later w) := ⟨Later.drew w⟩
theorem Later.same {w : World} (x : Later w) {w' : World} (h : x.val = w') : ∃ y : Later w, w' = y.val := ⟨x, h.symm⟩
theorem Later.cell {w : World} {a : Addr} {v : Value} (h : w.cell? a = some v) (x : Later w) : x.val.cell? a = some v := cell_later x.prop h

theorem Cells.new (w : World) (cs : Array Value) (t : TypeId) : Cells (fun _ => False) (w.alloc (.cells cs t)) (some ⟨w.heap.size, 0, none⟩) cs.toList := fun j u hu => by
  refine ⟨_, rfl, fun h => h, ?_⟩
  rw [Addr.add_lit, Nat.zero_add, (Blk.new w t cs).cell j]
  simpa using hu

@[irreducible] def subA (A : Option Addr) (cap lo size : Nat) : Option Addr := if cap = lo then A else A.map (·.add (lo * size))
theorem Cells.sub {S : Nat → Prop} {w : World} {A : Option Addr} {xs : List Value} (h : Cells S w A xs) (cap lo size : Nat) (hc : xs.length ≤ cap * size) : Cells S w (subA A cap lo size) (xs.drop (lo * size)) := by
  unfold subA
  split
  · rename_i e
    subst e
    rw [List.drop_of_length_le hc]
    exact Cells.nil _ _ _
  · exact h.drop _
section
variable {P : Program} (w : World)
end

section
variable {P : Program} (w : World)

theorem run_append_of_nil (base : Nat) (t ty e : TypeId) (i : TypeInfo) (size : Nat) (ht : P.underlying t = some (.slice e)) (hi : P.info? e = some i)
    (v : Value) (n : Nat) (xs : List Value) (hown : w.ownsRow base e size v n xs) (c : Nat) : (Builtin.append_ #[t, t] ty #[v, .slice none 0 c]).run P w = .ok v w := by
  rcases hown.2 with ⟨rfl, rfl⟩ | ⟨g, cap, cur, rfl, _, _, hnc, _⟩
  · simp [Builtin.append_, run_underlying ht, sizeOf, typeInfo, hi, Builtin.lenOf, Builtin.firstCells]
  · simp [Builtin.append_, run_underlying ht, sizeOf, typeInfo, hi, Builtin.lenOf, Builtin.firstCells, hnc, storeCells]

theorem run_append_any (base : Nat) (t ty e : TypeId) (i : TypeInfo) (z : Value) (size bytes : Nat) (ht : P.underlying t = some (.slice e)) (hi : P.info? e = some i) (hz : i.zero = some z)
    (hsize : i.size = size) (hby : i.bytes = bytes) (hzs : z.cells.size = size) (hsz : 0 < size)
    (v : Value) (n : Nat) (xs : List Value) (hown : w.ownsRow base e size v n xs)
    (S : Nat → Prop) (A : Option Addr) (m c : Nat) (news : List Value) (hr : Cells S w A news) (hlen : news.length = m * size) (h1 : ∀ u ∈ news, u.oneCell' = true)
    (h63 : n + m ≤ maxLen) (hbytes : (n + m) * bytes ≤ 140737488355328) (hbase : base ≤ w.heap.size) :
    ∃ v' w', (Builtin.append_ #[t, t] ty #[v, .slice A m c]).run P w = .ok v' w' ∧ w'.ownsRow base e size v' (n + m) (xs ++ news) ∧ w.grownBy w' v.ownBlock ∧
      (v'.ownBlock = v.ownBlock ∨ v'.ownBlock = some w.heap.size) := by
  rcases A with _ | ad
  · have hn : news = [] := by
      rcases news with _ | ⟨u, news⟩
      · rfl
      · obtain ⟨ad, h, _⟩ := hr 0 u rfl
        cases h
    subst hn
    have hm : m = 0 := by
      rcases Nat.eq_zero_or_pos m with h0 | h0
      · exact h0
      · have := Nat.mul_pos h0 hsz
        simp at hlen
        omega
    subst hm
    exact ⟨v, w, run_append_of_nil w base t ty e i size ht hi v n xs hown c, by simpa using hown, World.grownBy.refl w _, .inl rfl⟩
  · have hcells : ∀ j u, news[j]? = some u → w.cell? (ad.add j) = some u := by
      intro j u hu
      obtain ⟨ad', h, _, hc⟩ := hr j u hu
      injection h with h
      subst h
      exact hc
    obtain ⟨v', w', hrun, h2, h3, _, h5⟩ := run_append_own_at (P := P) w base t ty e i z size bytes ht hi hz hsize hby hzs hsz v n xs hown ad m c news hlen hcells h1 h63 hbytes hbase
    exact ⟨v', w', hrun, h2, h3, h5⟩

theorem wp_append_any {o : Oper} {a : Act} {K : Act → World → Prop} {Q : Exit → Act → World → Prop} (s x : Operand) (t : TypeId)
    (ho : o.op = .call { callee := .builtin .append, args := #[s, x], argTypes := #[t, t] })
    (base : Nat) (e : TypeId) (i : TypeInfo) (z : Value) (size bytes : Nat) (ht : P.underlying t = some (.slice e)) (hi : P.info? e = some i) (hz : i.zero = some z)
    (hsize : i.size = size) (hby : i.bytes = bytes) (hzs : z.cells.size = size) (hsz : 0 < size)
    (v : Value) (n : Nat) (xs : List Value) (hs : a.eval s = v) (hown : w.ownsRow base e size v n xs)
    (S : Nat → Prop) (A : Option Addr) (m c : Nat) (news : List Value) (hx : a.eval x = .slice A m c) (hr : Cells S w A news) (hlen : news.length = m * size) (h1 : ∀ u ∈ news, u.oneCell' = true)
    (h63 : n + m ≤ maxLen) (hbytes : (n + m) * bytes ≤ 140737488355328) (hbase : base ≤ w.heap.size)
    (h : ∀ v' w', w'.ownsRow base e size v' (n + m) (xs ++ news) → w.grownBy w' v.ownBlock → (v'.ownBlock = v.ownBlock ∨ v'.ownBlock = some w.heap.size) → K (a.put o.dst v') w') : o.wp P a w K Q := by
  obtain ⟨v', w', hrun, h2, h3, h4⟩ := run_append_any (P := P) w base t o.type e i z size bytes ht hi hz hsize hby hzs hsz v n xs hown S A m c news hr hlen h1 h63 hbytes hbase
  unfold Oper.wp execOp
  simp only [ho, resolve, invoke, builtin, Sem.run_bind, Sem.run_pure, Result.andThen_ok, List.map_toArray, List.map_cons, List.map_nil, hs, hx, hrun]
  exact h v' w' h2 h3 h4

end

def byt (l : List UInt8) (i : Nat) : Int := ((l.getD i 0).toNat : Int)
def byteV (b : UInt8) : Value := .int .u8 (b.toNat : Int)
def Bts (S : Nat → Prop) (w : World) (A : Option Addr) (l : List UInt8) : Prop := Cells S w A (l.map byteV)

section
variable {S S' : Nat → Prop} {w w' : World} {A : Option Addr} {l : List UInt8}
theorem Bts.at_ (h : Bts S w A l) (i : Nat) (hi : i < l.length) : ∃ ad, A = some ad ∧ ¬ S ad.block ∧ w.cell? (ad.add i) = some (.int .u8 (byt l i)) := by
  refine h i _ ?_
  simp [hi, byteV, byt]
theorem Bts.keep (h : Bts S w A l) (hk : Keep S' w w') (hS : ∀ k, k < w.heap.size → S' k → S k) : Bts S w' A l := Cells.keep h hk hS
theorem Bts.below (h : Bts S w A l) (hk : Below w.heap.size w w') : Bts S w' A l := Cells.below h hk
theorem Bts.mono (h : Bts S w A l) (hS : ∀ k, S' k → S k) : Bts S' w A l := Cells.mono h hS
theorem Bts.other (h : Bts S w A l) (hS : ∀ k, k < w.heap.size → S' k → S k) : Bts S' w A l := Cells.other h hS
end

theorem Bts.sub {S : Nat → Prop} {w : World} {A : Option Addr} {l : List UInt8} (h : Bts S w A l) (cap lo : Nat) (hc : l.length ≤ cap) : Bts S w (subA A cap lo 1) (l.drop lo) := by
  have := Cells.sub h cap lo 1 (by simpa using hc)
  unfold Bts
  rw [List.map_drop]
  simpa using this
theorem Bts.take {S : Nat → Prop} {w : World} {A : Option Addr} {l : List UInt8} (h : Bts S w A l) (n : Nat) : Bts S w A (l.take n) := by
  have := Cells.take h n
  unfold Bts
  rw [List.map_take]
  exact this

def bstr (l : List UInt8) : ByteArray := ⟨l.toArray⟩
theorem Bts.string {S : Nat → Prop} {P : Program} {w : World} {A : Option Addr} {l : List UInt8} (h : Bts S w A l) (src dst e : TypeId) (c : Nat) (hs : P.underlying src = some (.slice e)) (he : P.underlying e = some (.int .u8)) (hd : P.underlying dst = some .string) :
    (convert src dst (.slice A l.length c)).run P w = .ok (.string (bstr l)) w := by
  cases A with
  | none =>
    have hl : l = [] := by
      rcases l with _ | ⟨b, l⟩
      · rfl
      · obtain ⟨ad, e, _⟩ := h 0 _ rfl
        cases e
    subst hl
    exact run_convert_bytes_nil (P := P) (w := w) src e hs he _ c dst hd
  | some ad =>
    refine run_convert_bytes_back w src dst e ad c l hs he hd fun j hj => ?_
    obtain ⟨ad', e, _, hc⟩ := h.at_ j hj
    injection e with e
    subst e
    rw [hc, byt]
    simp [hj]

def IsRow (k : IntKind) (w : World) (a : Option Addr) (len cap : Nat) (zs : List Int) : Prop :=
  (a = none ∧ len = 0 ∧ cap = 0 ∧ zs = []) ∨
  ∃ x, a = some x ∧ len ≤ cap ∧ cap ≤ maxLen ∧ zs.length = cap ∧ (∀ i, i < zs.length → w.cell? (x.add i) = some (.int k (zs.getD i 0))) ∧ ∀ n ∈ zs, (Lit.int k n).wf = true

theorem IsRow.bytes {w : World} {a : Option Addr} {len cap : Nat} {zs : List Int} (h : IsRow .u8 w a len cap zs) : ∃ l : List UInt8, len = l.length ∧ l.length ≤ cap ∧ cap ≤ maxLen ∧ Bts (fun b => w.heap.size ≤ b) w a l := by
  rcases h with ⟨rfl, rfl, rfl, rfl⟩ | ⟨x, rfl, h1, h2, h3, h4, h5⟩
  · exact ⟨[], rfl, Nat.le_refl _, by unfold maxLen; omega, Cells.nil _ _ _⟩
  · refine ⟨(zs.take len).map fun z => UInt8.ofNat z.toNat, by simp; omega, by simp; omega, h2, ?_⟩
    intro i u hu
    have hi : i < len := by
      have := (List.getElem?_eq_some_iff.1 hu).1
      simp at this
      omega
    have hc := h4 i (by omega)
    have hw := h5 (zs[i]'(by omega)) (List.getElem_mem _)
    have hbd : 0 ≤ zs[i]'(by omega) ∧ zs[i]'(by omega) ≤ 255 := by
      simp [Lit.wf, IntKind.min, IntKind.max, IntKind.bits, IntKind.signed] at hw
      omega
    refine ⟨x, rfl, ?_, ?_⟩
    · have := lt_of_cell hc; omega
    · rw [hc]
      simp [hi, show i < zs.length by omega] at hu
      rw [← hu]
      unfold byteV
      simp [show i < zs.length by omega, UInt8.toNat_ofNat']
      omega

def TapeAt (T : TypeId) (w : World) (tb : Nat) (A : Option Addr) (n c : Nat) (zs : Nat → Int) (k : Nat) : Prop :=
  Blk w tb T #[.slice A n c, .int .i64 (k : Int)] ∧ k ≤ n ∧ n ≤ 9223372036854775807 ∧
    ∀ i, i < n → ∃ ad, A = some ad ∧ ad.block < tb ∧ w.cell? (ad.add i) = some (.int .i64 (zs i))

def TapeOK (T : TypeId) (w : World) (tb : Nat) : Prop := ∃ A n c zs k, TapeAt T w tb A n c zs k

theorem TapeOK.keep {T : TypeId} {S : Nat → Prop} {w w' : World} {tb : Nat} (h : TapeOK T w tb) (hk : Keep S w w') (hS : ∀ k, k ≤ tb → ¬ S k) : TapeOK T w' tb := by
  obtain ⟨A, n, c, zs, k, hb, h1, h2, h3⟩ := h
  refine ⟨A, n, c, zs, k, hb.keep hk (hS _ (Nat.le_refl _)), h1, h2, fun i hi => ?_⟩
  obtain ⟨ad, e, hlt, hc⟩ := h3 i hi
  exact ⟨ad, e, hlt, (hk.cell (p := ad.add i) (by rw [block_of_add]; exact hS _ (by omega))).trans hc⟩

theorem IsRow.tape {T : TypeId} {w : World} {a : Option Addr} {len cap : Nat} {zs : List Int} (h : IsRow .i64 w a len cap zs) : TapeOK T (w.alloc (.cells #[.slice a len cap, .int .i64 0] T)) w.heap.size := by
  refine ⟨a, len, cap, fun i => zs.getD i 0, 0, Blk.new _ _ _, Nat.zero_le _, ?_, fun i hi => ?_⟩
  · rcases h with ⟨rfl, rfl, rfl, rfl⟩ | ⟨x, rfl, h1, h2, h3, h4, h5⟩
    · omega
    · unfold maxLen at h2; omega
  · rcases h with ⟨rfl, rfl, rfl, rfl⟩ | ⟨x, rfl, h1, h2, h3, h4, h5⟩
    · omega
    · have hc := h4 i (by omega)
      have hlt := lt_of_cell hc
      exact ⟨x, rfl, hlt, (World.cell?_alloc_lt w _ (x.add i) (by rw [block_of_add]; exact hlt)).trans hc⟩

end Go.Proofs.Ytcbppkfnfbdkhaa
/- Ideal values: plain data, and how memory holds them. -/
set_option linter.all false
namespace Go.Proofs.Ytcbppkfnfbdkhaa
open Go.RowKit

inductive Cell where
  | bool (b : Bool)
  | int (k : IntKind) (n : Int)
  | str (s : ByteArray)
  | list (xs : List (List Cell))
inductive DV where
  | one (c : Cell)
  | agg (cs : List Cell)
inductive CV where
  | u
  | d (c : Cell)
  | nil
  | ref (r off : Nat)
  | sl (r n sz : Nat)
  | el (r i j sz : Nat)
  | slp (r off n sz : Nat)
  | rp (cs : List CV)
  | clo (f : FuncId) (caps : List CV)
  | fn (p : List DV → Option Cell)
  | tape
inductive SV where
  | u
  | one (c : CV)
  | agg (cs : List CV)
  | tup (vs : List SV)
inductive VH where
  | gone
  | blk (t : TypeId) (cs : List CV)
  | arr (e : TypeId) (sz : Nat) (rows : List (List Cell))
  | pin (v : Value) (c : CV)
  | tbl (e e1 : TypeId) (rows : List (List (List Cell))) (o : Option (Nat × Nat))

mutual
def CV.has (r : Nat) : CV → Bool
  | .ref q _ => Nat.beq q r
  | .sl q _ _ => Nat.beq q r
  | .el q _ _ _ => Nat.beq q r
  | .slp q _ _ _ => Nat.beq q r
  | .rp cs => CV.hasL r cs
  | .clo _ cs => CV.hasL r cs
  | .u => false
  | .d _ => false
  | .nil => false
  | .fn _ => false
  | .tape => false
def CV.hasL (r : Nat) : List CV → Bool
  | [] => false
  | c :: cs => c.has r || CV.hasL r cs
end
theorem CV.hasL_get {r : Nat} {cs : List CV} {j : Nat} {c : CV} (h : cs[j]? = some c) (hc : c.has r = true) : CV.hasL r cs = true := by
  induction cs generalizing j with
  | nil => simp at h
  | cons x cs ih =>
    unfold CV.hasL
    cases j with
    | zero => simp at h; subst h; simp [hc]
    | succ j => simp at h; simp [ih h]
mutual
def SV.has (r : Nat) : SV → Bool
  | .u => false
  | .one c => c.has r
  | .agg cs => CV.hasL r cs
  | .tup vs => SV.hasL r vs
def SV.hasL (r : Nat) : List SV → Bool
  | [] => false
  | c :: cs => c.has r || SV.hasL r cs
end
theorem SV.hasL_get {r : Nat} {cs : List SV} {j : Nat} {c : SV} (h : cs[j]? = some c) (hc : c.has r = true) : SV.hasL r cs = true := by
  induction cs generalizing j with
  | nil => simp at h
  | cons x cs ih =>
    unfold SV.hasL
    cases j with
    | zero => simp at h; subst h; simp [hc]
    | succ j => simp at h; simp [ih h]

inductive RepCell (Rd : Nat → Nat → Prop) (w : World) : Value → Cell → Prop where
  | bool (b : Bool) : RepCell Rd w (.bool b) (.bool b)
  | int (k : IntKind) (n : Int) (h : (Lit.int k n).wf = true) : RepCell Rd w (.int k n) (.int k n)
  | str (s : ByteArray) (h : s.size ≤ maxLen) : RepCell Rd w (.string s) (.str s)
  | list (A : Option Addr) (cap : Nat) (xs : List (List Cell)) (sz : Nat) (vals : Nat → Nat → Value) (h0 : A = none → xs = []) (h1 : xs.length ≤ cap) (h2 : cap ≤ maxLen)
      (hsz : ∀ row ∈ xs, row.length = sz) (hc : ∀ i j, i < xs.length → j < sz → ∃ b o, A = some ⟨b, o, none⟩ ∧ Rd b (o + (i * sz + j)) ∧ w.cell? ⟨b, o + (i * sz + j), none⟩ = some (vals i j))
      (hr : ∀ i j row x, xs[i]? = some row → row[j]? = some x → RepCell Rd w (vals i j) x) : RepCell Rd w (.slice A xs.length cap) (.list xs)

theorem RepCell.mono {Rd Rd' : Nat → Nat → Prop} {w w' : World} (hR : ∀ b o, Rd b o → Rd' b o) (hw : ∀ b o, Rd b o → w'.cell? ⟨b, o, none⟩ = w.cell? ⟨b, o, none⟩) {v : Value} {c : Cell} (h : RepCell Rd w v c) : RepCell Rd' w' v c := by
  induction h with
  | bool b => exact .bool b
  | int k n h => exact .int k n h
  | str s h => exact .str s h
  | list A cap xs sz vals h0 h1 h2 hsz hc hr ih =>
    refine .list A cap xs sz vals h0 h1 h2 hsz (fun i j hi hj => ?_) ih
    obtain ⟨b, o, e, hrd, hcell⟩ := hc i j hi hj
    exact ⟨b, o, e, hR _ _ hrd, (hw _ _ hrd).trans hcell⟩
theorem RepCell.one {Rd : Nat → Nat → Prop} {w : World} {v : Value} {c : Cell} (h : RepCell Rd w v c) : v.oneCell' = true := by
  cases h <;> rfl

inductive RepDV (Rd : Nat → Nat → Prop) (w : World) : Value → DV → Prop where
  | one {v c} (h : RepCell Rd w v c) : RepDV Rd w v (.one c)
  | agg (vs : Array Value) (cs : List Cell) (hs : vs.size = cs.length) (h : ∀ (j : Nat) (v : Value) (c : Cell), vs[j]? = some v → cs[j]? = some c → RepCell Rd w v c) : RepDV Rd w (.agg vs) (.agg cs)
theorem RepDV.mono {Rd Rd' : Nat → Nat → Prop} {w w' : World} (hR : ∀ b o, Rd b o → Rd' b o) (hw : ∀ b o, Rd b o → w'.cell? ⟨b, o, none⟩ = w.cell? ⟨b, o, none⟩) {v : Value} {c : DV} (h : RepDV Rd w v c) : RepDV Rd' w' v c := by
  cases h with
  | one h => exact .one (h.mono hR hw)
  | agg vs cs hs h => exact .agg vs cs hs fun j v c h1 h2 => (h j v c h1 h2).mono hR hw

def Cell.sval : Cell → Option Value
  | .bool b => some (.bool b)
  | .int k n => some (.int k n)
  | .str s => some (.string s)
  | .list _ => none

structure Fut (Rd Rd' : Nat → Nat → Prop) (w w' : World) : Prop where
  rd : ∀ b o, Rd b o → Rd' b o
  cell : ∀ b o, Rd b o → w'.cell? ⟨b, o, none⟩ = w.cell? ⟨b, o, none⟩
theorem Fut.refl (Rd : Nat → Nat → Prop) (w : World) : Fut Rd Rd w w := ⟨fun _ _ h => h, fun _ _ _ => rfl⟩
theorem Fut.trans {R1 R2 R3 : Nat → Nat → Prop} {a b c : World} (h : Fut R1 R2 a b) (k : Fut R2 R3 b c) : Fut R1 R3 a c :=
  ⟨fun b o x => k.rd _ _ (h.rd _ _ x), fun b o x => (k.cell _ _ (h.rd _ _ x)).trans (h.cell _ _ x)⟩

def FnOK (P : Program) (Rd : Nat → Nat → Prop) (w : World) (v : Value) (p : List DV → Option Cell) : Prop :=
  ∃ (f : FuncId) (cap : Array Value), v = .func (.func f) #[] cap ∧ (∀ args w, (callFunc f args).run P w = .ok (.enter f args) w) ∧
    ∀ Rd' w', Fut Rd Rd' w w' → (∀ b o, Rd' b o → b < w'.heap.size) → ∀ (args : List DV) (vals : Array Value) (r : Cell), p args = some r → vals.size = args.length →
      (∀ (j : Nat) (v : Value) (d : DV), vals[j]? = some v → args[j]? = some d → RepDV Rd' w' v d) →
      Calls P f (vals ++ cap) w' fun e w'' => ∃ u, r.sval = some u ∧ e = .returned u ∧ Below w'.heap.size w' w''
theorem FnOK.mono {P : Program} {Rd Rd' : Nat → Nat → Prop} {w w' : World} {v : Value} {p : List DV → Option Cell} (h : FnOK P Rd w v p) (hf : Fut Rd Rd' w w') : FnOK P Rd' w' v p := by
  obtain ⟨f, cap, e, he, hc⟩ := h
  exact ⟨f, cap, e, he, fun R2 w2 h2 => hc R2 w2 (hf.trans h2)⟩

structure Gh where
  β : Nat → Option Nat
  κ : Nat → Nat
  Rd : Nat → Nat → Prop
  tp : Option Nat
  tl : Option Addr × Nat × Nat × (Nat → Int)
  ex : Nat → Option Obj

inductive RepCV (P : Program) (g : Gh) (w : World) : Value → CV → Prop where
  | u {v} (h : v.oneCell' = true) : RepCV P g w v .u
  | d {v c} (h : RepCell g.Rd w v c) : RepCV P g w v (.d c)
  | nil : RepCV P g w (.slice none 0 0) .nil
  | ref {r b} (off : Nat) (h : g.β r = some b) : RepCV P g w (.pointer (some ⟨b, off, none⟩)) (.ref r off)
  | slv {r} (sz : Nat) (h : g.β r = none) : RepCV P g w (.slice none 0 0) (.sl r 0 sz)
  | sl {r b} (n sz : Nat) (h : g.β r = some b) (h1 : n ≤ g.κ r) (h2 : g.κ r ≤ maxLen) : RepCV P g w (.slice (some ⟨b, 0, none⟩) n (g.κ r)) (.sl r n sz)
  | el {r b} (i j sz : Nat) (h : g.β r = some b) : RepCV P g w (.pointer (some ⟨b, i * sz + j, none⟩)) (.el r i j sz)
  | slp {r b} (off n sz o c : Nat) (h : g.β r = some b) (ho : n = 0 ∨ o = off * sz) (hle : n ≤ c) (hc : c = 0 ∨ (o = off * sz ∧ off + c ≤ g.κ r ∧ g.κ r ≤ maxLen)) : RepCV P g w (.slice (some ⟨b, o, none⟩) n c) (.slp r off n sz)
  | slpv {r} (off sz : Nat) : RepCV P g w (.slice none 0 0) (.slp r off 0 sz)
  | rp (b o : Nat) (cs : List CV) (vals : Nat → Value) (h : ∀ j c, cs[j]? = some c → g.Rd b (o + j) ∧ w.cell? ⟨b, o + j, none⟩ = some (vals j)) (hr : ∀ j c, cs[j]? = some c → RepCV P g w (vals j) c) :
      RepCV P g w (.pointer (some ⟨b, o, none⟩)) (.rp cs)
  | clo (f : FuncId) (vs : Array Value) (cs : List CV) (hs : vs.size = cs.length) (h : ∀ (j : Nat) (v : Value) (c : CV), vs[j]? = some v → cs[j]? = some c → RepCV P g w v c) : RepCV P g w (.func (.func f) #[] vs) (.clo f cs)
  | fn {v p} (h : FnOK P g.Rd w v p) : RepCV P g w v (.fn p)
  | tape {tb} (h : g.tp = some tb) : RepCV P g w (.pointer (some ⟨tb, 0, none⟩)) .tape

theorem FnOK.oneCell {P : Program} {Rd : Nat → Nat → Prop} {w : World} {v : Value} {p : List DV → Option Cell} (h : FnOK P Rd w v p) : v.oneCell' = true := by
  obtain ⟨f, cap, rfl, _⟩ := h; rfl
theorem RepCV.one {P : Program} {g : Gh} {w : World} {v : Value} {c : CV} (h : RepCV P g w v c) : v.oneCell' = true := by
  cases h with
  | u h => exact h
  | d h => exact h.one
  | fn h => exact h.oneCell
  | _ => rfl

theorem RepCV.move {P : Program} {g g' : Gh} {w w' : World} {v : Value} {c : CV} (h : RepCV P g w v c) (hf : Fut g.Rd g'.Rd w w') (ht : ∀ tb, g.tp = some tb → g'.tp = some tb)
    (hb : ∀ r, c.has r = true → g'.β r = g.β r ∧ g'.κ r = g.κ r) : RepCV P g' w' v c := by
  induction h with
  | u h => exact .u h
  | d h => exact .d (h.mono hf.rd hf.cell)
  | nil => exact .nil
  | @ref r b off h => exact .ref off ((hb r (by simp [CV.has])).1.trans h)
  | @slv r sz h => exact .slv sz ((hb r (by simp [CV.has])).1.trans h)
  | @sl r b n sz h h1 h2 =>
    obtain ⟨e1, e2⟩ := hb r (by simp [CV.has])
    have := RepCV.sl (P := P) (g := g') (w := w') (r := r) (b := b) n sz (e1.trans h) (by rw [e2]; exact h1) (by rw [e2]; exact h2)
    rwa [e2] at this
  | @el r b i j sz h => exact .el i j sz ((hb r (by simp [CV.has])).1.trans h)
  | @slp r b off n sz o c h ho hle hc => exact .slp off n sz o c ((hb r (by simp [CV.has])).1.trans h) ho hle (by rw [(hb r (by simp [CV.has])).2]; exact hc)
  | slpv off sz => exact .slpv off sz
  | rp b o cs vals h hr ih =>
    refine .rp b o cs vals (fun j c hj => ?_) (fun j c hj => ih j c hj (fun r hc => hb r ?_))
    · obtain ⟨h1, h2⟩ := h j c hj
      exact ⟨hf.rd _ _ h1, (hf.cell _ _ h1).trans h2⟩
    · simp only [CV.has]; exact CV.hasL_get hj hc
  | clo f vs cs hs h ih => exact .clo f vs cs hs fun j v c h1 h2 => ih j v c h1 h2 fun r hc => hb r (by simp only [CV.has]; exact CV.hasL_get h2 hc)
  | fn h => exact .fn (h.mono hf)
  | tape h => exact .tape (ht _ h)

mutual
def CV.nt : CV → Bool
  | .tape => false
  | .rp cs => CV.ntL cs
  | .clo _ cs => CV.ntL cs
  | .u => true
  | .d _ => true
  | .nil => true
  | .fn _ => true
  | .ref _ _ => true
  | .sl _ _ _ => true
  | .el _ _ _ _ => true
  | .slp _ _ _ _ => true
def CV.ntL : List CV → Bool
  | [] => true
  | c :: cs => c.nt && CV.ntL cs
end
theorem CV.ntL_get {cs : List CV} (h : CV.ntL cs = true) {j : Nat} {c : CV} (hj : cs[j]? = some c) : c.nt = true := by
  induction cs generalizing j with
  | nil => simp at hj
  | cons x cs ih =>
    simp [CV.ntL] at h
    cases j with
    | zero => simp at hj; subst hj; exact h.1
    | succ j => exact ih h.2 (by simpa using hj)
theorem RepCV.moveN {P : Program} {g g' : Gh} {w w' : World} {v : Value} {c : CV} (h : RepCV P g w v c) (hf : Fut g.Rd g'.Rd w w') (hn : c.nt = true)
    (hb : ∀ r, c.has r = true → g'.β r = g.β r ∧ g'.κ r = g.κ r) : RepCV P g' w' v c := by
  induction h with
  | u h => exact .u h
  | d h => exact .d (h.mono hf.rd hf.cell)
  | nil => exact .nil
  | @ref r b off h => exact .ref off ((hb r (by simp [CV.has])).1.trans h)
  | @slv r sz h => exact .slv sz ((hb r (by simp [CV.has])).1.trans h)
  | @sl r b n sz h h1 h2 =>
    obtain ⟨e1, e2⟩ := hb r (by simp [CV.has])
    have := RepCV.sl (P := P) (g := g') (w := w') (r := r) (b := b) n sz (e1.trans h) (by rw [e2]; exact h1) (by rw [e2]; exact h2)
    rwa [e2] at this
  | @el r b i j sz h => exact .el i j sz ((hb r (by simp [CV.has])).1.trans h)
  | @slp r b off n sz o c h ho hle hc => exact .slp off n sz o c ((hb r (by simp [CV.has])).1.trans h) ho hle (by rw [(hb r (by simp [CV.has])).2]; exact hc)
  | slpv off sz => exact .slpv off sz
  | rp b o cs vals h hr ih =>
    refine .rp b o cs vals (fun j c hj => ?_) (fun j c hj => ih j c hj (CV.ntL_get (by simpa [CV.nt] using hn) hj) (fun r hc => hb r ?_))
    · obtain ⟨h1, h2⟩ := h j c hj
      exact ⟨hf.rd _ _ h1, (hf.cell _ _ h1).trans h2⟩
    · simp only [CV.has]; exact CV.hasL_get hj hc
  | clo f vs cs hs h ih => exact .clo f vs cs hs fun j v c h1 h2 => ih j v c h1 h2 (CV.ntL_get (by simpa [CV.nt] using hn) h2) fun r hc => hb r (by simp only [CV.has]; exact CV.hasL_get h2 hc)
  | fn h => exact .fn (h.mono hf)
  | tape h => cases hn
inductive RepSV (P : Program) (g : Gh) (w : World) : Value → SV → Prop where
  | u (v : Value) : RepSV P g w v .u
  | one {v c} (h : RepCV P g w v c) : RepSV P g w v (.one c)
  | agg (vs : Array Value) (cs : List CV) (hs : vs.size = cs.length) (h : ∀ (j : Nat) (v : Value) (c : CV), vs[j]? = some v → cs[j]? = some c → RepCV P g w v c) : RepSV P g w (.agg vs) (.agg cs)
  | tup (vs : Array Value) (ss : List SV) (hs : vs.size = ss.length) (h : ∀ (j : Nat) (v : Value) (c : SV), vs[j]? = some v → ss[j]? = some c → RepSV P g w v c) : RepSV P g w (.tuple vs) (.tup ss)
theorem RepSV.move {P : Program} {g g' : Gh} {w w' : World} {v : Value} {c : SV} (h : RepSV P g w v c) (hf : Fut g.Rd g'.Rd w w') (ht : ∀ tb, g.tp = some tb → g'.tp = some tb)
    (hb : ∀ r, c.has r = true → g'.β r = g.β r ∧ g'.κ r = g.κ r) : RepSV P g' w' v c := by
  induction h with
  | u v => exact .u v
  | one h => exact .one (h.move hf ht fun r hr => hb r (by simpa only [SV.has] using hr))
  | agg vs cs hs h => exact .agg vs cs hs fun j v c h1 h2 => (h j v c h1 h2).move hf ht fun r hr => hb r (by simp only [SV.has]; exact CV.hasL_get h2 hr)
  | tup vs ss hs h ih => exact .tup vs ss hs fun j v c h1 h2 => ih j v c h1 h2 fun r hr => hb r (by simp only [SV.has]; exact SV.hasL_get h2 hr)
def CV.pl : CV → Bool
  | .d _ => true
  | _ => false
def plL : List CV → Bool
  | [] => true
  | c :: l => c.pl && plL l
mutual
def SV.pl : SV → Bool
  | .one c => c.pl
  | .agg cs => plL cs
  | .tup vs => SV.plS vs
  | .u => false
def SV.plS : List SV → Bool
  | [] => true
  | c :: l => c.pl && SV.plS l
end
def Cell.sc : Cell → Bool
  | .list _ => false
  | .bool _ => true
  | .int _ _ => true
  | .str _ => true
def CV.sc : CV → Bool
  | .d c => c.sc
  | _ => false
def scL : List CV → Bool
  | [] => true
  | c :: l => c.sc && scL l
mutual
def SV.sc : SV → Bool
  | .one c => c.sc
  | .agg cs => scL cs
  | .tup vs => SV.scS vs
  | .u => false
def SV.scS : List SV → Bool
  | [] => true
  | c :: l => c.sc && SV.scS l
end
theorem plL_get {cs : List CV} (h : plL cs = true) {j : Nat} {c : CV} (hj : cs[j]? = some c) : c.pl = true := by
  induction cs generalizing j with
  | nil => simp at hj
  | cons x cs ih =>
    simp [plL] at h
    cases j with
    | zero => simp at hj; subst hj; exact h.1
    | succ j => exact ih h.2 (by simpa using hj)
theorem SV.plS_get {cs : List SV} (h : SV.plS cs = true) {j : Nat} {c : SV} (hj : cs[j]? = some c) : c.pl = true := by
  induction cs generalizing j with
  | nil => simp at hj
  | cons x cs ih =>
    simp [SV.plS] at h
    cases j with
    | zero => simp at hj; subst hj; exact h.1
    | succ j => exact ih h.2 (by simpa using hj)
theorem scL_get {cs : List CV} (h : scL cs = true) {j : Nat} {c : CV} (hj : cs[j]? = some c) : c.sc = true := by
  induction cs generalizing j with
  | nil => simp at hj
  | cons x cs ih =>
    simp [scL] at h
    cases j with
    | zero => simp at hj; subst hj; exact h.1
    | succ j => exact ih h.2 (by simpa using hj)
theorem SV.scS_get {cs : List SV} (h : SV.scS cs = true) {j : Nat} {c : SV} (hj : cs[j]? = some c) : c.sc = true := by
  induction cs generalizing j with
  | nil => simp at hj
  | cons x cs ih =>
    simp [SV.scS] at h
    cases j with
    | zero => simp at hj; subst hj; exact h.1
    | succ j => exact ih h.2 (by simpa using hj)
theorem RepCell.scal {Rd Rd' : Nat → Nat → Prop} {w w' : World} {v : Value} {c : Cell} (h : RepCell Rd w v c) (hs : c.sc = true) : RepCell Rd' w' v c := by
  cases h with
  | bool b => exact .bool b
  | int k n h => exact .int k n h
  | str s h => exact .str s h
  | list => cases hs
theorem RepCell.sval {Rd : Nat → Nat → Prop} {w : World} {v u : Value} {c : Cell} (h : RepCell Rd w v c) (hs : c.sval = some u) : v = u := by
  cases h <;> simp [Cell.sval] at hs <;> exact hs
theorem RepSV.plain {P : Program} {g g' : Gh} {w w' : World} {v : Value} {c : SV} (h : RepSV P g w v c) (hp : c.pl = true) (hf : Fut g.Rd g'.Rd w w') : RepSV P g' w' v c := by
  induction h with
  | u v => cases hp
  | @one v c h =>
    cases c with
    | d c => cases h; rename_i h; exact .one (.d (h.mono hf.rd hf.cell))
    | _ => cases hp
  | agg vs cs hs h =>
    refine .agg vs cs hs fun j v c h1 h2 => ?_
    have hc := plL_get hp h2
    have := h j v c h1 h2
    cases c with
    | d c => cases this; rename_i h; exact .d (h.mono hf.rd hf.cell)
    | _ => cases hc
  | tup vs ss hs h ih => exact .tup vs ss hs fun j v c h1 h2 => ih j v c h1 h2 (SV.plS_get hp h2)
theorem RepSV.scal {P : Program} {g g' : Gh} {w w' : World} {v : Value} {c : SV} (h : RepSV P g w v c) (hp : c.sc = true) : RepSV P g' w' v c := by
  induction h with
  | u v => cases hp
  | @one v c h =>
    cases c with
    | d c => cases h; rename_i h; exact .one (.d (h.scal hp))
    | _ => cases hp
  | agg vs cs hs h =>
    refine .agg vs cs hs fun j v c h1 h2 => ?_
    have hc := scL_get hp h2
    have := h j v c h1 h2
    cases c with
    | d c => cases this; rename_i h; exact .d (h.scal hc)
    | _ => cases hc
  | tup vs ss hs h ih => exact .tup vs ss hs fun j v c h1 h2 => ih j v c h1 h2 (SV.scS_get hp h2)
end Go.Proofs.Ytcbppkfnfbdkhaa
/- Ideal states, and what a state of the machine has to do with them. -/
set_option linter.all false
namespace Go.Proofs.Ytcbppkfnfbdkhaa
open Go.RowKit

structure St where
  F : List (Nat × SV)
  H : List (Nat × VH)
def getF : List (Nat × SV) → Nat → SV
  | [], _ => .u
  | p :: l, x => bif Nat.beq p.1 x then p.2 else getF l x
def getH : List (Nat × VH) → Nat → VH
  | [], _ => .gone
  | p :: l, x => bif Nat.beq p.1 x then p.2 else getH l x
def St.put (s : St) (x : Nat) (v : SV) : St := ⟨(x, v) :: s.F, s.H⟩
def St.putO (s : St) (x : Option Nat) (v : SV) : St := match x with | some x => s.put x v | none => s
def St.hput (s : St) (r : Nat) (h : VH) : St := ⟨s.F, (r, h) :: s.H⟩
def VH.has (r : Nat) : VH → Bool
  | .blk _ cs => CV.hasL r cs
  | .gone => false
  | .arr _ _ _ => false
  | .pin _ c => c.has r
  | .tbl _ _ _ none => false
  | .tbl _ _ _ (some p) => Nat.beq p.2 r
def VH.live : VH → Bool
  | .gone => false
  | .blk _ _ => true
  | .arr _ _ _ => true
  | .pin _ _ => false
  | .tbl _ _ _ _ => true
def allF (r : Nat) : List (Nat × SV) → Bool
  | [] => true
  | p :: l => !p.2.has r && allF r l
def allH (r : Nat) : List (Nat × VH) → Bool
  | [] => true
  | p :: l => !p.2.has r && allH r l
def St.fresh (s : St) (r : Nat) : Bool := allF r s.F && (allH r s.H && !(getH s.H r).live)
theorem beq_eq {a b : Nat} : Nat.beq a b = decide (a = b) := by
  by_cases h : a = b
  · subst h; simp
  · rw [decide_eq_false h]
    cases hb : Nat.beq a b with
    | false => rfl
    | true => exact absurd (Nat.eq_of_beq_eq_true hb) h
theorem get_put (s : St) (x y : Nat) (v : SV) : getF (s.put x v).F y = if x = y then v else getF s.F y := by
  simp only [St.put, getF, beq_eq]
  by_cases h : x = y <;> simp [h]
theorem hget_put (H : List (Nat × VH)) (x y : Nat) (v : VH) : getH ((x, v) :: H) y = if x = y then v else getH H y := by
  simp only [getH, beq_eq]
  by_cases h : x = y <;> simp [h]
theorem allF_get {r : Nat} {F : List (Nat × SV)} (h : allF r F = true) (x : Nat) : (getF F x).has r = false := by
  induction F with
  | nil => rfl
  | cons p F ih =>
    simp [allF] at h
    simp only [getF, beq_eq]
    by_cases e : p.1 = x
    · simp [e, h.1]
    · simp [e, ih h.2]
theorem allH_get {r : Nat} {F : List (Nat × VH)} (h : allH r F = true) (x : Nat) : (getH F x).has r = false := by
  induction F with
  | nil => rfl
  | cons p F ih =>
    simp [allH] at h
    simp only [getH, beq_eq]
    by_cases e : p.1 = x
    · simp [e, h.1]
    · simp [e, ih h.2]

def RowOK (ex : Nat → Option Obj) (e1 : TypeId) (bk : Option Nat) (row : List (List Cell)) (v : Value) : Prop :=
  (row = [] ∧ bk = none ∧ ∃ A c, v = .slice A 0 c ∧ c ≤ maxLen) ∨ ∃ c cap cur, bk = some c ∧ v = .slice (some ⟨c, 0, none⟩) row.length cap ∧ row.length ≤ cap ∧ cap ≤ maxLen ∧ ex c = some (.cells cur e1 (0, 0)) ∧ cur.size = cap ∧
    (∀ cs ∈ row, cs.length = 1) ∧ ∀ (j : Nat) (cs : List Cell) (x : Cell), row[j]? = some cs → cs[0]? = some x → ∃ u, cur[j]? = some u ∧ ∀ Rd w, RepCell Rd w u x
def HeapOK (P : Program) (g : Gh) (w : World) (r : Nat) : VH → Prop
  | .gone => True
  | .pin v c => RepCV P g w v c
  | .blk t cs => ∃ b vals, g.β r = some b ∧ Blk w b t vals ∧ vals.size = cs.length ∧ ∀ (j : Nat) (v : Value) (c : CV), vals[j]? = some v → cs[j]? = some c → RepCV P g w v c
  | .arr e sz rows => (∀ row ∈ rows, row.length = sz) ∧ ((g.β r = none ∧ rows = []) ∨ ∃ b vals, g.β r = some b ∧ Blk w b e vals ∧ vals.size = g.κ r * sz ∧ rows.length ≤ g.κ r ∧ g.κ r ≤ maxLen ∧
      ∀ (i j : Nat) (row : List Cell) (x : Cell), rows[i]? = some row → row[j]? = some x → ∃ u, vals[i * sz + j]? = some u ∧ RepCell g.Rd w u x)
  | .tbl e e1 rows o => (g.β r = none ∧ rows = [] ∧ o = none) ∨ ∃ b vals, ∃ bk : Nat → Option Nat, g.β r = some b ∧ Blk w b e vals ∧ vals.size = g.κ r * 1 ∧ rows.length ≤ g.κ r ∧ g.κ r ≤ maxLen ∧
      (∀ i j c, bk i = some c → bk j = some c → i = j) ∧
      (∀ (i : Nat) (row : List (List Cell)), rows[i]? = some row → (∀ q, o ≠ some (i, q)) → ∃ v, vals[i]? = some v ∧ RowOK g.ex e1 (bk i) row v) ∧
      ∀ (i q : Nat), o = some (i, q) → ∃ (row : List (List Cell)) (v : Value), rows[i]? = some row ∧ vals[i]? = some v ∧ RepCV P g w v (.sl q row.length 1)

def TapeR (T : TypeId) (tl : Option Addr × Nat × Nat × (Nat → Int)) (Rd : Nat → Nat → Prop) (w : World) (tb : Nat) : Prop :=
  (∃ k : Nat, Blk w tb T #[.slice tl.1 tl.2.1 tl.2.2.1, .int .i64 (k : Int)] ∧ k ≤ tl.2.1) ∧ tl.2.1 ≤ 9223372036854775807 ∧
    ∀ i, i < tl.2.1 → ∃ b o, tl.1 = some ⟨b, o, none⟩ ∧ Rd b (o + i) ∧ w.cell? ⟨b, o + i, none⟩ = some (.int .i64 (tl.2.2.2 i))
theorem TapeR.keep {T : TypeId} {tl : Option Addr × Nat × Nat × (Nat → Int)} {Rd Rd' : Nat → Nat → Prop} {w w' : World} {tb : Nat} (h : TapeR T tl Rd w tb) (hf : Fut Rd Rd' w w') (hb : w'.heap[tb]? = w.heap[tb]?) : TapeR T tl Rd' w' tb := by
  obtain ⟨⟨k, h1, h2⟩, h3, h4⟩ := h
  refine ⟨⟨k, hb.trans h1, h2⟩, h3, fun i hi => ?_⟩
  obtain ⟨b, o, e, hr, hc⟩ := h4 i hi
  exact ⟨b, o, e, hf.rd _ _ hr, (hf.cell _ _ hr).trans hc⟩

def live (H : List (Nat × VH)) (r : Nat) : Prop := (getH H r).live = true
def Mut (tp : Option Nat) (n : Nat) (k : Nat) : Prop := tp = some k ∨ n ≤ k

structure Org where
  w : World
  Rd : Nat → Nat → Prop
  tp : Option Nat
  tl : Option Addr × Nat × Nat × (Nat → Int)
  mb : Nat → Prop
abbrev Org.heap (o : Org) : Array Obj := o.w.heap
def Org.own (o : Org) (k : Nat) : Prop := o.heap.size ≤ k ∨ o.mb k
def MutO (o : Org) (k : Nat) : Prop := o.tp = some k ∨ o.own k
structure OrgOK (w0 : Org) (g : Gh) : Prop where
  rd0 : ∀ b o, w0.Rd b o → g.Rd b o
  new0 : ∀ b o, g.Rd b o → w0.Rd b o ∨ w0.own b
  tp0 : ∀ tb, w0.tp = some tb → g.tp = some tb ∧ g.tl = w0.tl
  tpo : ∀ tb, g.tp = some tb → w0.tp = some tb ∨ w0.own tb
def Out (w0 : Org) (g : Gh) (H : List (Nat × VH)) (w : World) (c : Nat) : Prop :=
  w0.own c ∧ c < w.heap.size ∧ g.tp ≠ some c ∧ (∀ o, ¬ g.Rd c o) ∧ ∀ r, live H r → g.β r ≠ some c
structure GI (T : TypeId) (w0 : Org) (g : Gh) (H : List (Nat × VH)) (w : World) : Prop where
  inj : ∀ r r' b, live H r → live H r' → g.β r = some b → g.β r' = some b → r = r'
  bd : ∀ r b, live H r → g.β r = some b → w0.own b ∧ b < w.heap.size ∧ g.tp ≠ some b
  rd : ∀ b o, g.Rd b o → b < w.heap.size ∧ g.tp ≠ some b ∧ ∀ r, live H r → g.β r ≠ some b
  keep : Keep (MutO w0) w0.w w
  tape : ∀ tb, g.tp = some tb → tb < w.heap.size ∧ TapeR T g.tl g.Rd w tb
  org : OrgOK w0 g
  ex : ∀ c o, g.ex c = some o → w.heap[c]? = some o ∧ Out w0 g H w c

theorem GI.sz {T : TypeId} {w0 : Org} {g : Gh} {H : List (Nat × VH)} {w : World} (h : GI T w0 g H w) : w0.heap.size ≤ w.heap.size := h.keep.size
structure Sim (P : Program) (T : TypeId) (N : Nat) (w0 : Org) (g : Gh) (s : St) (a : Act) (w : World) : Prop where
  gi : GI T w0 g s.H w
  dn : a.defers = []
  nt : a.tmps.size = N
  hF : ∀ x, RepSV P g w (a.tmps.getD x undef) (getF s.F x)
  hH : ∀ r, HeapOK P g w r (getH s.H r)

structure Ext (T : TypeId) (g g' : Gh) (w w' : World) : Prop where
  β : g'.β = g.β
  κ : g'.κ = g.κ
  tp : g'.tp = g.tp
  tl : g'.tl = g.tl
  rd : ∀ b o, g.Rd b o → g'.Rd b o
  new : ∀ b o, g'.Rd b o → g.Rd b o ∨ (w.heap.size ≤ b ∧ b < w'.heap.size)
  keep : Keep (Mut g.tp w.heap.size) w w'
  tape : ∀ tb, g.tp = some tb → TapeR T g.tl g'.Rd w' tb
  ex : g'.ex = g.ex
theorem GI.exs {T : TypeId} {w0 : Org} {g g' : Gh} {H H' : List (Nat × VH)} {w w' : World} (h : GI T w0 g H w) (he : ∀ c o, g'.ex c = some o → g.ex c = some o) (ho : ∀ c, Out w0 g H w c → w'.heap[c]? = w.heap[c]? ∧ g'.tp ≠ some c ∧ (∀ o, ¬ g'.Rd c o) ∧ ∀ r, live H' r → g'.β r ≠ some c) : ∀ c o, g'.ex c = some o → w'.heap[c]? = some o ∧ Out w0 g' H' w' c := fun c o hc => by
  obtain ⟨h1, h2⟩ := h.ex c o (he c o hc)
  obtain ⟨h3, h4, h5, h6⟩ := ho c h2
  refine ⟨h3.trans h1, h2.1, ?_, h4, h5, h6⟩
  have := h3.trans h1
  exact (Array.getElem?_eq_some_iff.1 this).1

section
variable {P : Program} {T : TypeId} {N : Nat} {w0 : Org} {g g' : Gh} {s : St} {a : Act} {w w' : World}
theorem GI.fut (h : GI T w0 g s.H w) (e : Ext T g g' w w') : Fut g.Rd g'.Rd w w' :=
  ⟨e.rd, fun b o hr => e.keep.cell (p := ⟨b, o, none⟩) fun hm => by
    obtain ⟨h1, h2, _⟩ := h.rd b o hr
    rcases hm with hm | hm
    · exact h2 hm
    · simp at hm; omega⟩
theorem RowOK.mono {ex ex' : Nat → Option Obj} {e1 : TypeId} {bk : Option Nat} {row : List (List Cell)} {v : Value} (h : RowOK ex e1 bk row v) (he : ∀ c o, ex c = some o → ex' c = some o) : RowOK ex' e1 bk row v := by
  rcases h with h | ⟨c, cap, cur, h1, h2, h3, h4, h5, h6⟩
  · exact .inl h
  · exact .inr ⟨c, cap, cur, h1, h2, h3, h4, he _ _ h5, h6⟩
theorem HeapOK.move {r : Nat} {c : VH} (h : HeapOK P g w r c) (hf : Fut g.Rd g'.Rd w w') (ht : ∀ tb, g.tp = some tb → g'.tp = some tb)
    (hb : ∀ q, c.has q = true ∨ q = r → g'.β q = g.β q ∧ g'.κ q = g.κ q) (hbl : ∀ b, c.live = true → g.β r = some b → w'.heap[b]? = w.heap[b]?) (hex : ∀ c o, g.ex c = some o → g'.ex c = some o) : HeapOK P g' w' r c := by
  cases c with
  | gone => trivial
  | pin v c => exact RepCV.move h hf ht fun q hq => hb q (.inl hq)
  | blk t cs =>
    obtain ⟨b, vals, h1, h2, h3, h4⟩ := h
    exact ⟨b, vals, (hb r (.inr rfl)).1.trans h1, (hbl b rfl h1).trans h2, h3, fun j v c hv hc => (h4 j v c hv hc).move hf ht fun q hq => hb q (.inl (by simp only [VH.has]; exact CV.hasL_get hc hq))⟩
  | arr e sz rows =>
    obtain ⟨h0, h⟩ := h
    obtain ⟨e1, e2⟩ := hb r (.inr rfl)
    refine ⟨h0, ?_⟩
    rcases h with ⟨h1, h2⟩ | ⟨b, vals, h1, h2, h3, h4, h5, h6⟩
    · exact .inl ⟨e1.trans h1, h2⟩
    · refine .inr ⟨b, vals, e1.trans h1, (hbl b rfl h1).trans h2, by rw [e2]; exact h3, by rw [e2]; exact h4, by rw [e2]; exact h5, fun i j row x hi hj => ?_⟩
      obtain ⟨u, hu, hr⟩ := h6 i j row x hi hj
      exact ⟨u, hu, hr.mono hf.rd hf.cell⟩
  | tbl e e1 rows o =>
    obtain ⟨e1, e2⟩ := hb r (.inr rfl)
    rcases h with ⟨h1, h2⟩ | ⟨b, vals, bk, h1, h2, h3, h4, h5, h6, h7, h8⟩
    · exact .inl ⟨e1.trans h1, h2⟩
    refine .inr ⟨b, vals, bk, e1.trans h1, (hbl b rfl h1).trans h2, by rw [e2]; exact h3, by rw [e2]; exact h4, by rw [e2]; exact h5, h6, fun i row hi ho => ?_, fun i q ho => ?_⟩
    · obtain ⟨v, hv, hr⟩ := h7 i row hi ho
      exact ⟨v, hv, hr.mono hex⟩
    · obtain ⟨row, v, hi, hv, hr⟩ := h8 i q ho
      subst ho
      exact ⟨row, v, hi, hv, hr.move hf ht fun q' hq => hb q' (.inl (by simp only [VH.has]; simpa [CV.has] using hq))⟩
theorem Sim.ext (h : Sim P T N w0 g s a w) (e : Ext T g g' w w') : Sim P T N w0 g' s a w' := by
  have hf := h.gi.fut e
  have hs := e.keep.size
  have hsz := h.gi.keep.size
  have same : ∀ r, g'.β r = g.β r ∧ g'.κ r = g.κ r := fun r => ⟨by rw [e.β], by rw [e.κ]⟩
  have ht : ∀ tb, g.tp = some tb → g'.tp = some tb := fun tb h => by rw [e.tp]; exact h
  have hz : w0.heap.size ≤ w.heap.size := hsz
  refine ⟨⟨fun r r' b h1 h2 h3 h4 => ?_, fun r b h1 h2 => ?_, fun b o hr => ?_, ?_, fun tb htb => ?_, ⟨fun b o hr => e.rd _ _ (h.gi.org.rd0 _ _ hr), fun b o hr => ?_, fun tb htb => ?_, fun tb htb => h.gi.org.tpo tb (by rw [← e.tp]; exact htb)⟩, h.gi.exs (fun c o h9 => by rw [← e.ex]; exact h9) fun c hc => ?_⟩, h.dn, h.nt, fun x => (h.hF x).move hf ht fun r _ => same r, fun r => (h.hH r).move hf ht (fun q _ => same q) (fun b hl hb => ?_) fun c o h9 => by rw [e.ex]; exact h9⟩
  · rw [e.β] at h3 h4; exact h.gi.inj r r' b h1 h2 h3 h4
  · rw [e.β] at h2
    rw [e.tp]
    obtain ⟨a1, a2, a3⟩ := h.gi.bd r b h1 h2
    exact ⟨a1, by omega, a3⟩
  · rw [e.tp, e.β]
    rcases e.new b o hr with ho | ⟨h1, h2⟩
    · obtain ⟨a1, a2, a3⟩ := h.gi.rd b o ho
      exact ⟨by omega, a2, a3⟩
    · refine ⟨h2, fun h3 => ?_, fun r h3 h4 => ?_⟩
      · have := (h.gi.tape b h3).1; omega
      · have := (h.gi.bd r b h3 h4).2.1; omega
  · refine h.gi.keep.trans (e.keep.mono fun k hk => ?_)
    rcases hk with hk | hk
    · exact h.gi.org.tpo k hk
    · exact .inr (.inl (by omega))
  · rw [e.tp] at htb
    rw [e.tl]
    exact ⟨by have := (h.gi.tape tb htb).1; omega, e.tape tb htb⟩
  · rcases e.new b o hr with ho | ⟨h1, h2⟩
    · exact h.gi.org.new0 b o ho
    · exact .inr (.inl (by omega))
  · rw [e.tp, e.tl]; exact h.gi.org.tp0 tb htb
  · obtain ⟨_, c2, c3, c4, c5⟩ := hc
    refine ⟨e.keep.block c fun hm => ?_, by rw [e.tp]; exact c3, fun o ho => ?_, fun r hl => by rw [e.β]; exact c5 r hl⟩
    · rcases hm with hm | hm
      · exact c3 hm
      · omega
    · rcases e.new c o ho with ho | ⟨h1, _⟩
      · exact c4 o ho
      · omega
  · obtain ⟨_, a2, a3⟩ := h.gi.bd r b hl hb
    exact e.keep.block b fun hm => by
      rcases hm with hm | hm
      · exact a3 hm
      · omega
theorem Sim.put (h : Sim P T N w0 g s a w) {x : Nat} {v : Value} {sv : SV} (hx : x < N) (hv : RepSV P g w v sv) : Sim P T N w0 g (s.put x sv) (a.put (some x) v) w := by
  refine ⟨h.gi, h.dn, by simp [Act.put, h.nt], fun y => ?_, h.hH⟩
  rw [get_put]
  have hx' : x < a.tmps.size := by rw [h.nt]; exact hx
  by_cases e : x = y
  · subst e
    simpa [Act.put, hx'] using hv
  · simp only [e, if_false]
    have := h.hF y
    simpa [Act.put, Array.getElem?_setIfInBounds_ne e] using this
theorem Sim.putZ (h : Sim P T N w0 g s a w) {x : Nat} (hx : x < N) : Sim P T N w0 g (s.put x (.tup [])) (a.put (some x) undef) w := h.put hx (.tup #[] [] rfl (by simp))
end
end Go.Proofs.Ytcbppkfnfbdkhaa
/- Operations that store into nothing, on ideal states. -/
set_option linter.all false
namespace Go.Proofs.Ytcbppkfnfbdkhaa
open Go.RowKit

def ccell : Value → CV
  | .bool b => .d (.bool b)
  | .int k n => bif (Lit.int k n).wf then .d (.int k n) else .u
  | .string s => bif Nat.ble s.size 1000000 then .d (.str s) else .u
  | .slice none 0 0 => .nil
  | _ => .u
def cval : Value → SV
  | .bool b => .one (.d (.bool b))
  | .int k n => bif (Lit.int k n).wf then .one (.d (.int k n)) else .u
  | .string s => bif Nat.ble s.size 1000000 then .one (.d (.str s)) else .u
  | .slice none 0 0 => .one .nil
  | .agg vs => bif vs.all (·.oneCell') then .agg (vs.toList.map ccell) else .u
  | _ => .u
def St.ev (s : St) : Operand → SV
  | .tmp t => getF s.F t
  | .const v => cval v
  | .func f => .one (.clo f [])
  | .global _ => .u

section
variable {P : Program} {T : TypeId} {N : Nat} {w0 : Org} {g : Gh} {s : St} {a : Act} {w : World}
theorem ccell_rep {v : Value} (h : v.oneCell' = true) : RepCV P g w v (ccell v) := by
  unfold ccell
  split
  · exact .d (.bool _)
  · rename_i k n
    cases hw : (Lit.int k n).wf
    · exact .u rfl
    · exact .d (.int _ _ hw)
  · rename_i s
    cases hw : Nat.ble s.size 1000000
    · exact .u rfl
    · exact .d (.str _ (by have := Nat.le_of_ble_eq_true hw; unfold maxLen; omega))
  · exact .nil
  · exact .u h
theorem cval_rep (v : Value) : RepSV P g w v (cval v) := by
  unfold cval
  split
  · exact .one (.d (.bool _))
  · rename_i k n
    cases hw : (Lit.int k n).wf
    · exact .u _
    · exact .one (.d (.int _ _ hw))
  · rename_i s
    cases hw : Nat.ble s.size 1000000
    · exact .u _
    · exact .one (.d (.str _ (by have := Nat.le_of_ble_eq_true hw; unfold maxLen; omega)))
  · exact .one .nil
  · rename_i vs
    cases hw : vs.all (·.oneCell')
    · exact .u _
    · refine .agg vs _ (by simp) fun j v c h1 h2 => ?_
      rw [List.getElem?_map] at h2
      rw [← Array.getElem?_toList] at h1
      rw [h1] at h2
      simp at h2
      subst h2
      rw [Array.all_eq_true] at hw
      obtain ⟨hj, e⟩ := List.getElem?_eq_some_iff.1 h1
      have := hw j (by simpa using hj)
      rw [← e]
      exact ccell_rep (by simpa using this)
  · exact .u _
theorem Sim.ev (h : Sim P T N w0 g s a w) (x : Operand) : RepSV P g w (a.eval x) (s.ev x) := by
  cases x with
  | tmp t => exact h.hF t
  | const v => exact cval_rep v
  | func f => exact .one (.clo f #[] [] rfl (by simp))
  | global g => exact .u _

theorem RepSV.one_inv {v : Value} {c : CV} (h : RepSV P g w v (.one c)) : RepCV P g w v c := by cases h; assumption
theorem RepSV.agg_inv {v : Value} {cs : List CV} (h : RepSV P g w v (.agg cs)) : ∃ vs : Array Value, v = .agg vs ∧ vs.size = cs.length ∧ ∀ (j : Nat) (v : Value) (c : CV), vs[j]? = some v → cs[j]? = some c → RepCV P g w v c := by
  cases h with | agg vs _ hs h => exact ⟨vs, rfl, hs, h⟩
theorem RepSV.bool_inv {v : Value} {b : Bool} (h : RepSV P g w v (.one (.d (.bool b)))) : v = .bool b := by
  cases h with | one h => cases h with | d h => cases h; rfl
theorem RepSV.int_inv {v : Value} {k : IntKind} {n : Int} (h : RepSV P g w v (.one (.d (.int k n)))) : v = .int k n ∧ (Lit.int k n).wf = true := by
  cases h with | one h => cases h with | d h => cases h; exact ⟨rfl, by assumption⟩
theorem RepSV.str_inv {v : Value} {b : ByteArray} (h : RepSV P g w v (.one (.d (.str b)))) : v = .string b ∧ b.size ≤ maxLen := by
  cases h with | one h => cases h with | d h => cases h; exact ⟨rfl, by assumption⟩
theorem RepSV.list_inv {v : Value} {xs : List (List Cell)} (h : RepSV P g w v (.one (.d (.list xs)))) : RepCell g.Rd w v (.list xs) := by
  cases h with | one h => cases h with | d h => exact h
end

def Runs (P : Program) (o : Oper) (a : Act) (w : World) (R : Value → World → Prop) : Prop :=
  ∀ (K : Act → World → Prop) (Q : Exit → Act → World → Prop), (∀ v w', R v w' → K (a.put o.dst v) w') → o.wp P a w K Q
theorem Runs.value {P : Program} {o : Oper} {a : Act} {w w' : World} {R : Value → World → Prop} {v : Value} (h : (execOp a.eval o).run P w = .ok (.value v) w') (hR : R v w') : Runs P o a w R := by
  intro K Q hK
  unfold Oper.wp
  rw [h]
  exact hK _ _ hR
theorem Runs.skip {P : Program} {o : Oper} {a : Act} {w w' : World} {R : Value → World → Prop} (h : (execOp a.eval o).run P w = .ok .skip w') (hR : R undef w') : Runs P o a w R := by
  intro K Q hK
  unfold Oper.wp
  rw [h]
  exact hK _ _ hR

def OpQ (P : Program) (T : TypeId) (N : Nat) (w0 : Org) (s : St) (o : Oper) (post : SV → Prop) : Prop :=
  ∀ g a w, Sim P T N w0 g s a w → Runs P o a w fun v w' => ∃ g' sv, post sv ∧ Ext T g g' w w' ∧ RepSV P g' w' v sv
def OpE (P : Program) (T : TypeId) (N : Nat) (w0 : Org) (s : St) (o : Oper) (sv : SV) : Prop := OpQ P T N w0 s o (fun x => x = sv)

section
variable {P : Program} {T : TypeId} {N : Nat} {w0 : Org} {g : Gh} {s : St} {a : Act} {w : World} {o : Oper}
theorem Ext.refl (h : GI T w0 g s.H w) : Ext T g g w w :=
  ⟨rfl, rfl, rfl, rfl, fun _ _ h => h, fun _ _ h => .inl h, Keep.refl _ _, fun tb htb => (h.tape tb htb).2, rfl⟩
theorem ope_val {sv : SV} (h : ∀ g a w, Sim P T N w0 g s a w → ∃ v, (execOp a.eval o).run P w = .ok (.value v) w ∧ RepSV P g w v sv) : OpE P T N w0 s o sv := by
  intro g a w hs
  obtain ⟨v, h1, h2⟩ := h g a w hs
  exact Runs.value h1 ⟨g, sv, rfl, Ext.refl hs.gi, h2⟩

theorem ope_move {x : Operand} (ho : o.op = .move x) : OpE P T N w0 s o (s.ev x) :=
  ope_val fun g a w hs => ⟨a.eval x, by simp [execOp, ho, go_sem], hs.ev x⟩
theorem ope_assign {x : Operand} (ho : o.op = .assign x) : OpE P T N w0 s o (s.ev x) :=
  ope_val fun g a w hs => ⟨a.eval x, by simp [execOp, ho, go_sem], hs.ev x⟩
theorem ope_pick_t {c x y : Operand} (ho : o.op = .pick c x y) (hc : s.ev c = .one (.d (.bool true))) : OpE P T N w0 s o (s.ev x) :=
  ope_val fun g a w hs => ⟨a.eval x, by
    have := hs.ev c; rw [hc] at this
    simp [execOp, ho, asBool, this.bool_inv], hs.ev x⟩
theorem ope_pick_f {c x y : Operand} (ho : o.op = .pick c x y) (hc : s.ev c = .one (.d (.bool false))) : OpE P T N w0 s o (s.ev y) :=
  ope_val fun g a w hs => ⟨a.eval y, by
    have := hs.ev c; rw [hc] at this
    simp [execOp, ho, asBool, this.bool_inv], hs.ev y⟩
theorem ope_scalar {v : Value} {c : Cell} (h : ∀ g a w, Sim P T N w0 g s a w → (execOp a.eval o).run P w = .ok (.value v) w) (hc : c.sval = some v) (hw : ∀ k n, c = .int k n → (Lit.int k n).wf = true) (hz : ∀ b, c = .str b → b.size ≤ maxLen) : OpE P T N w0 s o (.one (.d c)) :=
  ope_val fun g a w hs => ⟨v, h g a w hs, .one (.d (by
    cases c with
    | bool b => simp [Cell.sval] at hc; subst hc; exact .bool b
    | int k n => simp [Cell.sval] at hc; subst hc; exact .int k n (hw k n rfl)
    | str b => simp [Cell.sval] at hc; subst hc; exact .str b (hz b rfl)
    | list xs => simp [Cell.sval] at hc))⟩
theorem ope_not {x : Operand} {b : Bool} {t : TypeId} (ho : o.op = .unOp .not t x) (hx : s.ev x = .one (.d (.bool b))) : OpE P T N w0 s o (.one (.d (.bool (!b)))) :=
  ope_scalar (v := .bool (!b)) (fun g a w hs => by
    have := hs.ev x; rw [hx] at this
    simp [execOp, ho, Op.unary, this.bool_inv]) rfl (by simp) (by simp)
def CV.ptr : CV → Bool
  | .ref _ _ => true
  | .el _ _ _ _ => true
  | .rp _ => true
  | .clo _ _ => true
  | .fn _ => true
  | .tape => true
  | _ => false
theorem nilCheck_ok {v : Value} {c : CV} (h : RepCV P g w v c) (hc : c.ptr = true) : (∃ a, v = .pointer (some a)) ∨ ∃ f vs, v = .func (.func f) #[] vs := by
  cases h with
  | ref off h => exact .inl ⟨_, rfl⟩
  | el i j sz h => exact .inl ⟨_, rfl⟩
  | rp b o cs vals h hr => exact .inl ⟨_, rfl⟩
  | clo f vs cs hs h => exact .inr ⟨_, _, rfl⟩
  | fn h => obtain ⟨f, cap, e, _⟩ := h; exact .inr ⟨_, _, e⟩
  | tape h => exact .inl ⟨_, rfl⟩
  | u h => cases hc
  | d h => cases hc
  | nil => cases hc
  | slv sz h => cases hc
  | sl n sz h h1 h2 => cases hc
  | slp => cases hc
  | slpv => cases hc
theorem ope_nilCheck {x : Operand} {c : CV} (ho : o.op = .nilCheck x) (hx : s.ev x = .one c) (hc : c.ptr = true) : OpE P T N w0 s o (.one c) :=
  ope_val fun g a w hs => ⟨a.eval x, by
    have h := hs.ev x; rw [hx] at h
    rcases nilCheck_ok h.one_inv hc with ⟨v, e⟩ | ⟨f, vs, e⟩ <;> simp [execOp, ho, e], hx ▸ hs.ev x⟩

theorem wrap_wf (k : IntKind) (n : Int) : (Lit.int k (k.wrap n)).wf = true := by
  cases k <;> simp [Lit.wf, IntKind.wrap, IntKind.min, IntKind.max, IntKind.bits, IntKind.signed] <;> (try split) <;> omega
theorem ope_int {op : BinOp} {t t' : TypeId} {x y : Operand} {k : IntKind} {m n r : Int} (ho : o.op = .binOp op t x y t') (hx : s.ev x = .one (.d (.int k m))) (hy : s.ev y = .one (.d (.int k n)))
    (hop : (op == .eql || op == .neq) = false) (hr : ∀ w, (binOp op t (.int k m) (.int k n)).run P w = .ok (.int k r) w) (hw : (Lit.int k m).wf = true → (Lit.int k n).wf = true → (Lit.int k r).wf = true) : OpE P T N w0 s o (.one (.d (.int k r))) :=
  ope_val fun g a w hs => ⟨.int k r, by
    have h1 := hs.ev x; rw [hx] at h1
    have h2 := hs.ev y; rw [hy] at h2
    have e : (eqGuard op t x y (.int k m) (.int k n)).run P w = .ok () w := by unfold eqGuard; cases op <;> simp at hop <;> rfl
    simp [execOp, ho, h1.int_inv.1, h2.int_inv.1, e, hr], .one (.d (.int _ _ (by
    have h1 := hs.ev x; rw [hx] at h1
    have h2 := hs.ev y; rw [hy] at h2
    exact hw h1.int_inv.2 h2.int_inv.2)))⟩
section
variable {t t' : TypeId} {x y : Operand} {k : IntKind} {m n r : Int}
theorem ope_add (ho : o.op = .binOp .add t x y t') (hx : s.ev x = .one (.d (.int k m))) (hy : s.ev y = .one (.d (.int k n))) (hr : k.wrap (m + n) = r) : OpE P T N w0 s o (.one (.d (.int k r))) :=
  ope_int ho hx hy rfl (fun w => by simp [binOp, Op.intArith, hr]) (fun _ _ => hr ▸ wrap_wf k _)
theorem ope_sub (ho : o.op = .binOp .sub t x y t') (hx : s.ev x = .one (.d (.int k m))) (hy : s.ev y = .one (.d (.int k n))) (hr : k.wrap (m - n) = r) : OpE P T N w0 s o (.one (.d (.int k r))) :=
  ope_int ho hx hy rfl (fun w => by simp [binOp, Op.intArith, hr]) (fun _ _ => hr ▸ wrap_wf k _)
theorem ope_mul (ho : o.op = .binOp .mul t x y t') (hx : s.ev x = .one (.d (.int k m))) (hy : s.ev y = .one (.d (.int k n))) (hr : k.wrap (m * n) = r) : OpE P T N w0 s o (.one (.d (.int k r))) :=
  ope_int ho hx hy rfl (fun w => by simp [binOp, Op.intArith, hr]) (fun _ _ => hr ▸ wrap_wf k _)
theorem ope_bits {op : BinOp} (hop : op = .and ∨ op = .or ∨ op = .xor ∨ op = .andNot) (ho : o.op = .binOp op t x y t') (hx : s.ev x = .one (.d (.int k m))) (hy : s.ev y = .one (.d (.int k n))) (hr : bits op k m n = r) : OpE P T N w0 s o (.one (.d (.int k r))) := by
  rcases hop with rfl | rfl | rfl | rfl
  all_goals
    refine ope_int ho hx hy rfl (fun w => ?_) (fun _ _ => ?_)
    · rw [← hr]; simp [binOp, Op.intBits, bits]
    · rw [← hr]; simp only [bits]; exact wrap_wf k _
theorem ope_cmp {op : BinOp} {b : Bool} (ho : o.op = .binOp op t x y t') (hx : s.ev x = .one (.d (.int k m))) (hy : s.ev y = .one (.d (.int k n))) (hr : Op.intCmp op m n = pure (.bool b)) (hop : (match op with | .eql => true | .neq => true | .lss => true | .leq => true | .gtr => true | .geq => true | _ => false) = true) : OpE P T N w0 s o (.one (.d (.bool b))) :=
  ope_scalar (v := .bool b) (fun g a w hs => by
    have h1 := hs.ev x; rw [hx] at h1
    have h2 := hs.ev y; rw [hy] at h2
    have e : (eqGuard op t x y (.int k m) (.int k n)).run P w = .ok () w := by unfold eqGuard; cases op <;> simp at hop <;> rfl
    have e2 : (binOp op t (.int k m) (.int k n)) = Op.intCmp op m n := by cases op <;> simp at hop <;> simp [binOp]
    simp [execOp, ho, h1.int_inv.1, h2.int_inv.1, e, e2, hr]) rfl (by simp) (by simp)
theorem ope_eql (ho : o.op = .binOp .eql t x y t') (hx : s.ev x = .one (.d (.int k m))) (hy : s.ev y = .one (.d (.int k n))) : OpE P T N w0 s o (.one (.d (.bool (decide (m = n))))) :=
  ope_cmp ho hx hy (by simp only [Op.intCmp]; rfl) rfl
theorem ope_neq (ho : o.op = .binOp .neq t x y t') (hx : s.ev x = .one (.d (.int k m))) (hy : s.ev y = .one (.d (.int k n))) : OpE P T N w0 s o (.one (.d (.bool (!decide (m = n))))) :=
  ope_cmp ho hx hy (by simp only [Op.intCmp]; rfl) rfl
theorem ope_lss (ho : o.op = .binOp .lss t x y t') (hx : s.ev x = .one (.d (.int k m))) (hy : s.ev y = .one (.d (.int k n))) : OpE P T N w0 s o (.one (.d (.bool (decide (m < n))))) := ope_cmp ho hx hy rfl rfl
theorem ope_leq (ho : o.op = .binOp .leq t x y t') (hx : s.ev x = .one (.d (.int k m))) (hy : s.ev y = .one (.d (.int k n))) : OpE P T N w0 s o (.one (.d (.bool (decide (m ≤ n))))) := ope_cmp ho hx hy rfl rfl
theorem ope_gtr (ho : o.op = .binOp .gtr t x y t') (hx : s.ev x = .one (.d (.int k m))) (hy : s.ev y = .one (.d (.int k n))) : OpE P T N w0 s o (.one (.d (.bool (decide (n < m))))) := ope_cmp ho hx hy rfl rfl
theorem ope_geq (ho : o.op = .binOp .geq t x y t') (hx : s.ev x = .one (.d (.int k m))) (hy : s.ev y = .one (.d (.int k n))) : OpE P T N w0 s o (.one (.d (.bool (decide (n ≤ m))))) := ope_cmp ho hx hy rfl rfl
end
end
end Go.Proofs.Ytcbppkfnfbdkhaa
/- Operations that read memory and take values apart, on ideal states. -/
set_option linter.all false
namespace Go.Proofs.Ytcbppkfnfbdkhaa
open Go.RowKit

def oneT (P : Program) (t : TypeId) : Bool :=
  match P.underlying t with
  | some (.struct _) => false
  | some (.array _ _) => false
  | some _ => true
  | none => false
def aggT (P : Program) (t : TypeId) (n : Nat) : Bool :=
  (match P.underlying t with
  | some (.struct _) => true
  | some (.array _ _) => true
  | _ => false) && (match P.info? t with | some i => Nat.beq i.size n | none => false)
def fldT (P : Program) (t : TypeId) (i o : Nat) : Bool :=
  match P.underlying t with
  | some (.struct fs) => (match fs[i]? with | some f => Nat.beq f.offset o && (match P.info? f.type with | some i => !Nat.beq i.size 0 | none => false) | none => false)
  | _ => false
def fldT' (P : Program) (t : TypeId) (i o : Nat) (ft : TypeId) : Bool :=
  match P.underlying t with
  | some (.struct fs) => (match fs[i]? with | some f => Nat.beq f.offset o && Nat.beq f.type ft | none => false)
  | _ => false
def sliceT (P : Program) (t : TypeId) (e n : Nat) : Bool :=
  match P.underlying t with
  | some (.slice e') => Nat.beq e' e && (match P.info? e with | some i => Nat.beq i.size n | none => false)
  | _ => false
def arrT (P : Program) (t : TypeId) (len e n : Nat) : Bool :=
  match P.underlying t with
  | some (.array len' e') => Nat.beq len' len && Nat.beq e' e && (match P.info? e with | some i => Nat.beq i.size n | none => false)
  | _ => false

section
variable {P : Program} {w : World} {t : TypeId}
theorem run_isAgg_one (h : oneT P t = true) : (isAgg t).run P w = .ok false w := by
  unfold oneT at h
  cases hu : P.underlying t with
  | none => rw [hu] at h; cases h
  | some d => cases d <;> simp_all [isAgg, run_underlying hu]
theorem run_isAgg_agg {n : Nat} (h : aggT P t n = true) : (isAgg t).run P w = .ok true w ∧ (sizeOf t).run P w = .ok n w := by
  unfold aggT at h
  cases hu : P.underlying t with
  | none => rw [hu] at h; simp at h
  | some d =>
    cases hi : P.info? t with
    | none => rw [hi] at h; simp at h
    | some i =>
      rw [hu, hi] at h
      cases d <;> simp_all [isAgg, run_underlying hu, sizeOf, typeInfo, hi]
theorem run_load_one (h : oneT P t = true) {a : Addr} {v : Value} (hc : w.cell? a = some v) : (loadVar t a).run P w = .ok v w := by
  simp [loadVar, run_isAgg_one h, run_load, hc]
theorem run_load_agg {n : Nat} (h : aggT P t n = true) {b o : Nat} {f : Nat → Value} (hc : ∀ j, j < n → w.cell? ⟨b, o + j, none⟩ = some (f j)) : (loadVar t ⟨b, o, none⟩).run P w = .ok (.agg ((List.range n).map f).toArray) w := by
  have h1 := run_loadCells (P := P) w ⟨b, o, none⟩ n f (fun j hj => by rw [Addr.add_lit]; exact hc j hj)
  simp [loadVar, (run_isAgg_agg (w := w) h).1, (run_isAgg_agg (w := w) h).2, h1]
theorem fldT_spec {i o : Nat} (h : fldT P t i o = true) : ∃ fs f, P.underlying t = some (.struct fs) ∧ fs[i]? = some f ∧ f.offset = o ∧ ∃ inf, P.info? f.type = some inf ∧ inf.size ≠ 0 := by
  unfold fldT at h
  cases hu : P.underlying t with
  | none => rw [hu] at h; cases h
  | some d =>
    rw [hu] at h
    cases d with
    | struct fs =>
      simp only at h
      cases hf : fs[i]? with
      | none => rw [hf] at h; cases h
      | some f =>
        rw [hf] at h
        simp only at h
        cases hi : P.info? f.type with
        | none => rw [hi] at h; simp at h
        | some inf =>
          rw [hi] at h
          simp at h
          exact ⟨fs, f, rfl, hf, h.1, inf, hi, by have := h.2; rw [beq_eq] at this; simpa using this⟩
    | _ => cases h
theorem fldT'_spec {i o : Nat} {ft : TypeId} (h : fldT' P t i o ft = true) : ∃ fs f, P.underlying t = some (.struct fs) ∧ fs[i]? = some f ∧ f.offset = o ∧ f.type = ft := by
  unfold fldT' at h
  cases hu : P.underlying t with
  | none => rw [hu] at h; cases h
  | some d =>
    rw [hu] at h
    cases d with
    | struct fs =>
      simp only at h
      cases hf : fs[i]? with
      | none => rw [hf] at h; cases h
      | some f =>
        rw [hf] at h
        simp at h
        exact ⟨fs, f, rfl, hf, h.1, h.2⟩
    | _ => cases h
theorem sliceT_spec {e n : Nat} (h : sliceT P t e n = true) : P.underlying t = some (.slice e) ∧ ∃ inf, P.info? e = some inf ∧ inf.size = n := by
  unfold sliceT at h
  cases hu : P.underlying t with
  | none => rw [hu] at h; cases h
  | some d =>
    rw [hu] at h
    cases d with
    | slice e' =>
      simp only at h
      cases hi : P.info? e with
      | none => rw [hi] at h; simp at h
      | some inf =>
        rw [hi] at h
        simp at h
        exact ⟨by rw [h.1], inf, rfl, h.2⟩
    | _ => cases h
theorem arrT_spec {len e n : Nat} (h : arrT P t len e n = true) : P.underlying t = some (.array len e) ∧ ∃ inf, P.info? e = some inf ∧ inf.size = n := by
  unfold arrT at h
  cases hu : P.underlying t with
  | none => rw [hu] at h; cases h
  | some d =>
    rw [hu] at h
    cases d with
    | array len' e' =>
      simp only at h
      cases hi : P.info? e with
      | none => rw [hi] at h; simp at h
      | some inf =>
        rw [hi] at h
        simp at h
        exact ⟨by rw [h.1.1, h.1.2], inf, rfl, h.2⟩
    | _ => cases h
theorem run_fieldPlace {i o b off : Nat} (h : fldT P t i o = true) : (Instr.fieldAt t (.pointer (some ⟨b, off, none⟩)) i).run P w = .ok (.pointer (some ⟨b, off + o, none⟩)) w := by
  obtain ⟨fs, f, hu, hf, rfl, inf, hi, hz⟩ := fldT_spec h
  simp [Instr.fieldAt, run_underlying hu, hf, Instr.sureAddr, fieldPlace, sizeOf, typeInfo, hi, hz, Addr.add_lit]
end

section
variable {P : Program} {g : Gh} {w : World}
theorem RepCV.ref_inv {v : Value} {r off : Nat} (h : RepCV P g w v (.ref r off)) : ∃ b, g.β r = some b ∧ v = .pointer (some ⟨b, off, none⟩) := by
  cases h with | ref off h => exact ⟨_, h, rfl⟩
theorem RepCV.el_inv {v : Value} {r i j sz : Nat} (h : RepCV P g w v (.el r i j sz)) : ∃ b, g.β r = some b ∧ v = .pointer (some ⟨b, i * sz + j, none⟩) := by
  cases h with | el i j sz h => exact ⟨_, h, rfl⟩
theorem RepCV.sl_inv {v : Value} {r n sz : Nat} (h : RepCV P g w v (.sl r n sz)) : (v = .slice none 0 0 ∧ n = 0 ∧ g.β r = none) ∨ ∃ b, g.β r = some b ∧ n ≤ g.κ r ∧ g.κ r ≤ maxLen ∧ v = .slice (some ⟨b, 0, none⟩) n (g.κ r) := by
  cases h with
  | slv sz h => exact .inl ⟨rfl, rfl, h⟩
  | sl n sz h h1 h2 => exact .inr ⟨_, h, h1, h2, rfl⟩
theorem RepCV.rp_inv {v : Value} {cs : List CV} (h : RepCV P g w v (.rp cs)) : ∃ (b o : Nat) (vals : Nat → Value), v = .pointer (some ⟨b, o, none⟩) ∧ (∀ j c, cs[j]? = some c → g.Rd b (o + j) ∧ w.cell? ⟨b, o + j, none⟩ = some (vals j)) ∧ ∀ j c, cs[j]? = some c → RepCV P g w (vals j) c := by
  cases h with | rp b o cs vals h hr => exact ⟨b, o, vals, rfl, h, hr⟩
theorem RepCell.list_inv {Rd : Nat → Nat → Prop} {v : Value} {xs : List (List Cell)} (h : RepCell Rd w v (.list xs)) : ∃ (A : Option Addr) (cap sz : Nat) (vals : Nat → Nat → Value), v = .slice A xs.length cap ∧ (A = none → xs = []) ∧ xs.length ≤ cap ∧ cap ≤ maxLen ∧
      (∀ row ∈ xs, row.length = sz) ∧ (∀ i j, i < xs.length → j < sz → ∃ b o, A = some ⟨b, o, none⟩ ∧ Rd b (o + (i * sz + j)) ∧ w.cell? ⟨b, o + (i * sz + j), none⟩ = some (vals i j)) ∧
      (∀ i j row x, xs[i]? = some row → row[j]? = some x → RepCell Rd w (vals i j) x) := by
  cases h with | list A cap xs sz vals h0 h1 h2 hsz hc hr => exact ⟨A, cap, sz, vals, rfl, h0, h1, h2, hsz, hc, hr⟩
theorem RepCell.row {Rd : Nat → Nat → Prop} {v : Value} {xs : List (List Cell)} {i : Nat} {row : List Cell} (h : RepCell Rd w v (.list xs)) (hi : xs[i]? = some row) (hne : 0 < row.length) :
    ∃ (b o cap : Nat) (vals : Nat → Value), v = .slice (some ⟨b, o, none⟩) xs.length cap ∧ (∀ j c, row[j]? = some c → Rd b (o + i * row.length + j) ∧ w.cell? ⟨b, o + i * row.length + j, none⟩ = some (vals j)) ∧ ∀ j c, row[j]? = some c → RepCell Rd w (vals j) c := by
  obtain ⟨A, cap, sz, vals, rfl, h0, h1, h2, hsz, hc, hr⟩ := h.list_inv
  have hl := (List.getElem?_eq_some_iff.1 hi).1
  have e := hsz row (List.mem_of_getElem? hi)
  obtain ⟨b, o, rfl, _, _⟩ := hc i 0 hl (by omega)
  refine ⟨b, o, cap, fun j => vals i j, rfl, fun j c hj => ?_, fun j c hj => hr i j row c hi hj⟩
  have hjl := (List.getElem?_eq_some_iff.1 hj).1
  obtain ⟨b', o', e', h3, h4⟩ := hc i j hl (by omega)
  injection e' with e'
  injection e' with e1 e2
  subst e1 e2
  rw [e]
  exact ⟨by simpa [Nat.add_assoc] using h3, by simpa [Nat.add_assoc] using h4⟩
end

section
variable {P : Program} {T : TypeId} {N : Nat} {w0 : Org} {g : Gh} {s : St} {a : Act} {w : World} {o : Oper}

section
variable {t : TypeId} {x : Operand} {r off i j n sz : Nat}
theorem ope_load_rp1 {cs : List CV} {c : CV} (ho : o.op = .load t x) (hx : s.ev x = .one (.rp cs)) (ht : oneT P t = true) (hc : cs[0]? = some c) : OpE P T N w0 s o (.one c) :=
  ope_val fun g a w hs => by
    have h := hs.ev x; rw [hx] at h
    obtain ⟨b, o', vals, e, h1, h2⟩ := h.one_inv.rp_inv
    have := (h1 0 c hc).2
    rw [Nat.add_zero] at this
    exact ⟨vals 0, by simp [execOp, ho, e, Instr.loadAt, Instr.sureAddr, run_load_one ht this], .one (h2 0 c hc)⟩
theorem ope_load_rpn {cs : List CV} (ho : o.op = .load t x) (hx : s.ev x = .one (.rp cs)) (ht : aggT P t n = true) (hc : n ≤ cs.length) : OpE P T N w0 s o (.agg (cs.take n)) :=
  ope_val fun g a w hs => by
    have h := hs.ev x; rw [hx] at h
    obtain ⟨b, o', vals, e, h1, h2⟩ := h.one_inv.rp_inv
    have hl := run_load_agg (P := P) (w := w) ht (b := b) (o := o') (f := vals) (fun j hj => (h1 j _ (List.getElem?_eq_getElem (by omega))).2)
    refine ⟨_, by simp [execOp, ho, e, Instr.loadAt, Instr.sureAddr, hl]; rfl, .agg _ _ (by simp; omega) fun j v c hv hc' => ?_⟩
    have hj : j < n := by have := (List.getElem?_eq_some_iff.1 hc').1; simp at this; omega
    rw [List.getElem?_take_of_lt hj] at hc'
    simp [hj] at hv
    rw [← hv]
    exact h2 j c hc'
theorem ope_load_ref1 {t' : TypeId} {cs : List CV} {c : CV} (ho : o.op = .load t x) (hx : s.ev x = .one (.ref r off)) (hH : getH s.H r = .blk t' cs) (ht : oneT P t = true) (hc : cs[off]? = some c) : OpE P T N w0 s o (.one c) :=
  ope_val fun g a w hs => by
    have h := hs.ev x; rw [hx] at h
    obtain ⟨b, hb, e⟩ := h.one_inv.ref_inv
    have hh := hs.hH r; rw [hH] at hh
    obtain ⟨b', vals, hb', hbl, hsz, hv⟩ := hh
    obtain rfl : b = b' := by rw [hb] at hb'; injection hb'
    have hlt := (List.getElem?_eq_some_iff.1 hc).1
    have hc2 := hbl.cell off
    rw [Array.getElem?_eq_getElem (by omega)] at hc2
    exact ⟨vals[off]'(by omega), by simp [execOp, ho, e, Instr.loadAt, Instr.sureAddr, run_load_one ht hc2], .one (hv off _ c (Array.getElem?_eq_getElem (by omega)) hc)⟩
theorem ope_load_refn {t' : TypeId} {cs : List CV} (ho : o.op = .load t x) (hx : s.ev x = .one (.ref r off)) (hH : getH s.H r = .blk t' cs) (ht : aggT P t n = true) (hc : off + n ≤ cs.length) : OpE P T N w0 s o (.agg ((cs.drop off).take n)) :=
  ope_val fun g a w hs => by
    have h := hs.ev x; rw [hx] at h
    obtain ⟨b, hb, e⟩ := h.one_inv.ref_inv
    have hh := hs.hH r; rw [hH] at hh
    obtain ⟨b', vals, hb', hbl, hsz, hv⟩ := hh
    obtain rfl : b = b' := by rw [hb] at hb'; injection hb'
    have hl := run_load_agg (P := P) (w := w) ht (b := b) (o := off) (f := fun j => vals.getD (off + j) undef) (fun j hj => by
      rw [hbl.cell (off + j)]; simp [Array.getD, show off + j < vals.size by omega])
    refine ⟨_, by simp only [execOp, ho, e, Instr.loadAt, Instr.sureAddr]; simp [hl]; rfl, .agg _ _ (by simp; omega) fun j v c hv' hc' => ?_⟩
    have hj : j < n := by have := (List.getElem?_eq_some_iff.1 hc').1; simp at this; omega
    rw [List.getElem?_take_of_lt hj, List.getElem?_drop] at hc'
    simp [hj, show off + j < vals.size by omega] at hv'
    rw [← hv']
    exact hv (off + j) _ c (Array.getElem?_eq_getElem (by omega)) hc'
theorem arr_row {e' : TypeId} {rows : List (List Cell)} {row : List Cell} (hs : Sim P T N w0 g s a w) (hH : getH s.H r = .arr e' sz rows) (hi : rows[i]? = some row) {b : Nat} (hb : g.β r = some b) :
    ∃ vals, Blk w b e' vals ∧ row.length = sz ∧ i * sz + sz ≤ vals.size ∧ ∀ (j : Nat) (x : Cell), row[j]? = some x → ∃ u, vals[i * sz + j]? = some u ∧ RepCell g.Rd w u x := by
  have hh := hs.hH r; rw [hH] at hh
  obtain ⟨h0, hh⟩ := hh
  rcases hh with ⟨h1, _⟩ | ⟨b', vals, hb', hbl, hsz, hn, hm, hv⟩
  · rw [hb] at h1; cases h1
  · obtain rfl : b = b' := by rw [hb] at hb'; injection hb'
    have hl := (List.getElem?_eq_some_iff.1 hi).1
    refine ⟨vals, hbl, h0 row (List.mem_of_getElem? hi), ?_, fun j x hj => hv i j row x hi hj⟩
    have : (i + 1) * sz ≤ g.κ r * sz := Nat.mul_le_mul_right _ (by omega)
    rw [Nat.add_mul] at this
    omega
theorem ope_load_el1 {e' : TypeId} {rows : List (List Cell)} {row : List Cell} {c : Cell} (ho : o.op = .load t x) (hx : s.ev x = .one (.el r i j sz)) (hH : getH s.H r = .arr e' sz rows) (ht : oneT P t = true) (hi : rows[i]? = some row) (hj : row[j]? = some c) : OpE P T N w0 s o (.one (.d c)) :=
  ope_val fun g a w hs => by
    have h := hs.ev x; rw [hx] at h
    obtain ⟨b, hb, e⟩ := h.one_inv.el_inv
    obtain ⟨vals, hbl, _, _, hv⟩ := arr_row hs hH hi hb
    obtain ⟨u, hu, hr⟩ := hv j c hj
    have hc2 := hbl.cell (i * sz + j)
    rw [hu] at hc2
    exact ⟨u, by simp [execOp, ho, e, Instr.loadAt, Instr.sureAddr, run_load_one ht hc2], .one (.d hr)⟩
theorem ope_load_eln {e' : TypeId} {rows : List (List Cell)} {row : List Cell} (ho : o.op = .load t x) (hx : s.ev x = .one (.el r i j sz)) (hH : getH s.H r = .arr e' sz rows) (ht : aggT P t n = true) (hi : rows[i]? = some row) (hj : j + n ≤ row.length) : OpE P T N w0 s o (.agg (((row.drop j).take n).map .d)) :=
  ope_val fun g a w hs => by
    have h := hs.ev x; rw [hx] at h
    obtain ⟨b, hb, e⟩ := h.one_inv.el_inv
    obtain ⟨vals, hbl, hrl, hsz, hv⟩ := arr_row hs hH hi hb
    have hl := run_load_agg (P := P) (w := w) ht (b := b) (o := i * sz + j) (f := fun k => vals.getD (i * sz + j + k) undef) (fun k hk => by
      rw [hbl.cell (i * sz + j + k)]; simp [Array.getD, show i * sz + j + k < vals.size by omega])
    refine ⟨_, by simp only [execOp, ho, e, Instr.loadAt, Instr.sureAddr]; simp [hl]; rfl, .agg _ _ (by simp; omega) fun k v c hv' hc' => ?_⟩
    rw [List.getElem?_map] at hc'
    cases hcc : ((row.drop j).take n)[k]? with
    | none => rw [hcc] at hc'; cases hc'
    | some x =>
      rw [hcc] at hc'
      simp at hc'
      subst hc'
      have hk : k < n := by have := (List.getElem?_eq_some_iff.1 hcc).1; simp at this; omega
      rw [List.getElem?_take_of_lt hk, List.getElem?_drop] at hcc
      obtain ⟨u, hu, hr⟩ := hv (j + k) x hcc
      simp [hk, show i * sz + j + k < vals.size by omega] at hv'
      rw [← Nat.add_assoc] at hu
      rw [Array.getElem?_eq_getElem (by omega)] at hu
      injection hu with hu
      rw [← hv', hu]
      exact .d hr
end

section
variable {t : TypeId} {x y : Operand} {r off i j n sz fo f : Nat}
theorem ope_fieldAddr_ref (ho : o.op = .fieldAddr t x f) (hx : s.ev x = .one (.ref r off)) (ht : fldT P t f fo = true) : OpE P T N w0 s o (.one (.ref r (off + fo))) :=
  ope_val fun g a w hs => by
    have h := hs.ev x; rw [hx] at h
    obtain ⟨b, hb, e⟩ := h.one_inv.ref_inv
    exact ⟨.pointer (some ⟨b, off + fo, none⟩), by simp [execOp, ho, e, run_fieldPlace ht], .one (.ref _ hb)⟩
theorem ope_fieldAddr_el (ho : o.op = .fieldAddr t x f) (hx : s.ev x = .one (.el r i j sz)) (ht : fldT P t f fo = true) : OpE P T N w0 s o (.one (.el r i (j + fo) sz)) :=
  ope_val fun g a w hs => by
    have h := hs.ev x; rw [hx] at h
    obtain ⟨b, hb, e⟩ := h.one_inv.el_inv
    exact ⟨.pointer (some ⟨b, i * sz + j + fo, none⟩), by simp [execOp, ho, e, run_fieldPlace ht], .one (by rw [Nat.add_assoc]; exact .el i (j + fo) sz hb)⟩
theorem rp_drop {v : Value} {cs : List CV} {b o' : Nat} {vals : Nat → Value} (k : Nat) (h1 : ∀ j c, cs[j]? = some c → g.Rd b (o' + j) ∧ w.cell? ⟨b, o' + j, none⟩ = some (vals j)) (h2 : ∀ j c, cs[j]? = some c → RepCV P g w (vals j) c) : RepCV P g w (.pointer (some ⟨b, o' + k, none⟩)) (.rp (cs.drop k)) := by
  refine .rp b (o' + k) _ (fun j => vals (k + j)) (fun j c hj => ?_) (fun j c hj => ?_)
  · rw [List.getElem?_drop] at hj
    have := h1 _ c hj
    rw [Nat.add_assoc]
    exact this
  · rw [List.getElem?_drop] at hj
    exact h2 _ c hj
theorem ope_fieldAddr_rp {cs : List CV} (ho : o.op = .fieldAddr t x f) (hx : s.ev x = .one (.rp cs)) (ht : fldT P t f fo = true) : OpE P T N w0 s o (.one (.rp (cs.drop fo))) :=
  ope_val fun g a w hs => by
    have h := hs.ev x; rw [hx] at h
    obtain ⟨b, o', vals, e, h1, h2⟩ := h.one_inv.rp_inv
    exact ⟨.pointer (some ⟨b, o' + fo, none⟩), by simp [execOp, ho, e, run_fieldPlace ht], .one (rp_drop (v := undef) fo h1 h2)⟩
theorem run_indexAt {b o' len cap e sz : Nat} {k : IntKind} {m : Int} (ht : sliceT P t e sz = true) (h0 : 0 ≤ m) (h1 : m < len) : (Instr.indexAt t (.slice (some ⟨b, o', none⟩) len cap) (.int k m)).run P w = .ok (.pointer (some ⟨b, o' + m.toNat * sz, none⟩)) w := by
  obtain ⟨hu, inf, hi, hsz⟩ := sliceT_spec ht
  simp [Instr.indexAt, asIntOf, run_underlying hu, sizeOf, typeInfo, hi, hsz, h0, h1, Addr.add_lit]
theorem ope_indexAddr_d {e : TypeId} {rows : List (List Cell)} {row : List Cell} {k : IntKind} {m : Int} (ho : o.op = .indexAddr t x y) (hx : s.ev x = .one (.d (.list rows))) (hy : s.ev y = .one (.d (.int k m)))
    (ht : sliceT P t e sz = true) (h0 : 0 ≤ m) (hi : rows[m.toNat]? = some row) (hl : row.length = sz) (hz : 0 < sz) : OpE P T N w0 s o (.one (.rp (row.map .d))) :=
  ope_val fun g a w hs => by
    have h1 := hs.ev x; rw [hx] at h1
    have h2 := hs.ev y; rw [hy] at h2
    subst hl
    obtain ⟨b, o', cap, vals, e1, h3, h4⟩ := h1.list_inv.row hi hz
    have hlt := (List.getElem?_eq_some_iff.1 hi).1
    refine ⟨.pointer (some ⟨b, o' + m.toNat * row.length, none⟩), by simp [execOp, ho, e1, h2.int_inv.1, run_indexAt ht h0 (show m < (rows.length : Int) by omega)], .one (.rp _ _ _ vals (fun j c hj => ?_) (fun j c hj => ?_))⟩
    · rw [List.getElem?_map] at hj
      cases hcc : row[j]? with
      | none => rw [hcc] at hj; cases hj
      | some x => exact h3 j x hcc
    · rw [List.getElem?_map] at hj
      cases hcc : row[j]? with
      | none => rw [hcc] at hj; cases hj
      | some x => rw [hcc] at hj; simp at hj; subst hj; exact .d (h4 j x hcc)
theorem ope_indexAddr_sl {e : TypeId} {k : IntKind} {m : Int} (ho : o.op = .indexAddr t x y) (hx : s.ev x = .one (.sl r n sz)) (hy : s.ev y = .one (.d (.int k m)))
    (ht : sliceT P t e sz = true) (h0 : 0 ≤ m) (hi : m < n) : OpE P T N w0 s o (.one (.el r m.toNat 0 sz)) :=
  ope_val fun g a w hs => by
    have h1 := hs.ev x; rw [hx] at h1
    have h2 := hs.ev y; rw [hy] at h2
    rcases h1.one_inv.sl_inv with ⟨e1, e2, _⟩ | ⟨b, hb, h3, h4, e1⟩
    · omega
    · refine ⟨.pointer (some ⟨b, 0 + m.toNat * sz, none⟩), by simp [execOp, ho, e1, h2.int_inv.1, run_indexAt ht h0 hi], .one ?_⟩
      have := RepCV.el (P := P) (g := g) (w := w) (r := r) (b := b) m.toNat 0 sz hb
      simpa using this
theorem ope_indexAddr_arr {e len : Nat} {k : IntKind} {m : Int} (ho : o.op = .indexAddr t x y) (hx : s.ev x = .one (.ref r off)) (hy : s.ev y = .one (.d (.int k m)))
    (ht : arrT P t len e sz = true) (h0 : 0 ≤ m) (hi : m < len) : OpE P T N w0 s o (.one (.ref r (off + m.toNat * sz))) :=
  ope_val fun g a w hs => by
    have h1 := hs.ev x; rw [hx] at h1
    have h2 := hs.ev y; rw [hy] at h2
    obtain ⟨b, hb, e1⟩ := h1.one_inv.ref_inv
    obtain ⟨hu, inf, hinf, hsz⟩ := arrT_spec ht
    refine ⟨_, ?_, .one (.ref _ hb)⟩
    simp [execOp, ho, e1, h2.int_inv.1, Instr.indexAt, asIntOf, run_underlying hu, Instr.sureAddr, sizeOf, typeInfo, hinf, hsz, h0, hi, Addr.add_lit]
end
end
end Go.Proofs.Ytcbppkfnfbdkhaa
/- Structs built and taken apart, lengths, tuples, closures; a table of types. -/
set_option linter.all false
namespace Go.Proofs.Ytcbppkfnfbdkhaa
open Go.RowKit

inductive Z where
  | bool | int (k : IntKind) | str | nil | u
def Z.cv : Z → CV
  | .bool => .d (.bool false)
  | .int k => .d (.int k 0)
  | .str => .d (.str ⟨#[]⟩)
  | .nil => .nil
  | .u => .u
def Z.fits : Z → Value → Bool
  | .bool, .bool b => !b
  | .int k, .int k' n => decide (k = k') && decide (n = 0)
  | .str, .string s => Nat.beq s.size 0
  | .nil, .slice none 0 0 => true
  | .u, v => v.oneCell'
  | _, _ => false
theorem zero_wf (k : IntKind) : (Lit.int k 0).wf = true := by cases k <;> rfl
theorem Z.rep {P : Program} {g : Gh} {w : World} {z : Z} {v : Value} (h : z.fits v = true) : RepCV P g w v z.cv := by
  unfold Z.fits at h
  split at h
  · simp at h; subst h; exact .d (.bool false)
  · simp at h
    obtain ⟨rfl, rfl⟩ := h
    exact .d (.int _ 0 (zero_wf _))
  · rename_i s
    have : s.size = 0 := by rw [beq_eq] at h; simpa using h
    have e : s = ⟨#[]⟩ := by cases s; rename_i d; simp [ByteArray.size] at this; simp [this]
    subst e
    exact .d (.str _ (by show 0 ≤ maxLen; omega))
  · exact .nil
  · exact .u h
  · cases h

inductive TyI where
  | bad
  | one (z : Z)
  | sl (e n bytes : Nat)
  | st (n : Nat) (fs : List (Nat × Nat × Nat)) (zs : List Z)
  | ar (n len e sz : Nat) (zs : List Z)
def fitsL : List Z → List Value → Bool
  | [], [] => true
  | z :: zs, v :: vs => z.fits v && fitsL zs vs
  | _, _ => false
theorem fitsL_get {zs : List Z} {vs : List Value} (h : fitsL zs vs = true) : zs.length = vs.length ∧ ∀ (j : Nat) (z : Z) (v : Value), zs[j]? = some z → vs[j]? = some v → z.fits v = true := by
  induction zs generalizing vs with
  | nil => cases vs with
    | nil => simp
    | cons v vs => simp [fitsL] at h
  | cons z zs ih =>
    cases vs with
    | nil => simp [fitsL] at h
    | cons v vs =>
      simp [fitsL] at h
      obtain ⟨h1, h2⟩ := ih h.2
      refine ⟨by simp [h1], fun j z' v' hz hv => ?_⟩
      cases j with
      | zero => simp at hz hv; subst hz hv; exact h.1
      | succ j => simp at hz hv; exact h2 j z' v' hz hv
def fldsB (P : Program) (t : TypeId) : Nat → List (Nat × Nat × Nat) → Bool
  | _, [] => true
  | k, f :: fs => fldT P t k f.1 && (fldT' P t k f.1 f.2.1 && fldsB P t (k + 1) fs)
def zeroB (P : Program) (t : TypeId) (zs : List Z) : Bool :=
  match P.info? t with
  | some i => (match i.zero with | some z => fitsL zs z.cells.toList | none => false)
  | none => false
def placesB (P : Program) (t : TypeId) (fs : List (Nat × Nat × Nat)) : Bool :=
  match P.underlying t with
  | some (.struct fields) => decide (fields.toList.mapM (fun f => (P.info? f.type).map fun i => (f.offset, i.size)) = some (fs.map fun f => (f.1, f.2.2)))
  | _ => false
def bytesB (P : Program) (e b : Nat) : Bool := match P.info? e with | some i => Nat.beq i.bytes b | none => false
def sizeB (P : Program) (t n : Nat) : Bool := match P.info? t with | some i => Nat.beq i.size n | none => false
def tyB (P : Program) (t : TypeId) : TyI → Bool
  | .bad => true
  | .one z => oneT P t && (zeroB P t [z] && sizeB P t 1)
  | .sl e n b => (sliceT P t e n && bytesB P e b) && (oneT P t && (zeroB P t [.nil] && sizeB P t 1))
  | .st n fs zs => aggT P t n && (fldsB P t 0 fs && (zeroB P t zs && placesB P t fs))
  | .ar n len e sz zs => aggT P t n && (arrT P t len e sz && zeroB P t zs)
def tabB (P : Program) : Nat → List TyI → Bool
  | _, [] => true
  | t, i :: l => tyB P t i && tabB P (t + 1) l
def tyAt : List TyI → Nat → TyI
  | [], _ => .bad
  | i :: _, 0 => i
  | _ :: l, n + 1 => tyAt l n
theorem tabB_at {P : Program} {l : List TyI} {k : Nat} (h : tabB P k l = true) (t : Nat) : tyB P (k + t) (tyAt l t) = true := by
  induction l generalizing k t with
  | nil => cases t <;> rfl
  | cons i l ih =>
    simp [tabB] at h
    cases t with
    | zero => exact h.1
    | succ t => have := ih h.2 t; rw [show k + (t + 1) = k + 1 + t by omega]; exact this
section
variable {P : Program} {τ : List TyI} {t : Nat}
theorem tab_at (h : tabB P 0 τ = true) : tyB P t (tyAt τ t) = true := by have := tabB_at h t; rwa [Nat.zero_add] at this
def TyI.isOne : TyI → Bool
  | .one _ => true
  | .sl _ _ _ => true
  | _ => false
def TyI.zs : TyI → Option (List Z)
  | .one z => some [z]
  | .sl _ _ _ => some [.nil]
  | .st _ _ zs => some zs
  | .ar _ _ _ _ zs => some zs
  | .bad => none
def TyI.size : TyI → Option Nat
  | .one _ => some 1
  | .sl _ _ _ => some 1
  | .st n _ _ => some n
  | .ar n _ _ _ _ => some n
  | .bad => none
theorem tab_one (h : tabB P 0 τ = true) (e : (tyAt τ t).isOne = true) : oneT P t = true := by
  have := tab_at (t := t) h
  cases hi : tyAt τ t <;> rw [hi] at this e <;> first | (cases e; done) | (simp [tyB] at this; simp [this])
theorem tab_zs (h : tabB P 0 τ = true) {zs : List Z} (e : (tyAt τ t).zs = some zs) : zeroB P t zs = true := by
  have := tab_at (t := t) h
  cases hi : tyAt τ t <;> rw [hi] at this e <;> simp [tyB, TyI.zs] at this e <;> subst e <;> simp [this]
theorem tab_size (h : tabB P 0 τ = true) {n : Nat} (e : (tyAt τ t).size = some n) : ∃ inf, P.info? t = some inf ∧ inf.size = n := by
  have := tab_at (t := t) h
  have k1 : ∀ m, sizeB P t m = true → ∃ inf, P.info? t = some inf ∧ inf.size = m := fun m hm => by
    unfold sizeB at hm
    cases hi : P.info? t with
    | none => rw [hi] at hm; cases hm
    | some i => rw [hi] at hm; exact ⟨i, rfl, Nat.eq_of_beq_eq_true hm⟩
  have k2 : ∀ m, aggT P t m = true → ∃ inf, P.info? t = some inf ∧ inf.size = m := fun m hm => by
    unfold aggT at hm
    rw [Bool.and_eq_true] at hm
    exact k1 m hm.2
  cases hi : tyAt τ t <;> rw [hi] at this e <;> simp [tyB, TyI.size] at this e <;> subst e
  · exact k1 _ this.2.2
  · exact k1 _ this.2.2.2
  · exact k2 _ this.1
  · exact k2 _ this.1
theorem tab_agg (h : tabB P 0 τ = true) {n : Nat} {fs zs} (e : tyAt τ t = .st n fs zs) : aggT P t n = true := by
  have := tab_at (t := t) h; rw [e] at this; simp [tyB] at this; exact this.1
theorem tab_agga (h : tabB P 0 τ = true) {n len e sz : Nat} {zs} (he : tyAt τ t = .ar n len e sz zs) : aggT P t n = true := by
  have := tab_at (t := t) h; rw [he] at this; simp [tyB] at this; exact this.1
theorem tab_sl (h : tabB P 0 τ = true) {e n b : Nat} (he : tyAt τ t = .sl e n b) : sliceT P t e n = true := by
  have := tab_at (t := t) h; rw [he] at this; simp [tyB] at this; exact this.1.1
theorem tab_by (h : tabB P 0 τ = true) {e n b : Nat} (he : tyAt τ t = .sl e n b) : bytesB P e b = true := by
  have := tab_at (t := t) h; rw [he] at this; simp [tyB] at this; exact this.1.2
theorem tab_ar (h : tabB P 0 τ = true) {n len e sz : Nat} {zs} (he : tyAt τ t = .ar n len e sz zs) : arrT P t len e sz = true := by
  have := tab_at (t := t) h; rw [he] at this; simp [tyB] at this; exact this.2.1
theorem fldsB_get {k : Nat} {fs : List (Nat × Nat × Nat)} (h : fldsB P t k fs = true) {i : Nat} {f : Nat × Nat × Nat} (hi : fs[i]? = some f) : fldT P t (k + i) f.1 = true ∧ fldT' P t (k + i) f.1 f.2.1 = true := by
  induction fs generalizing k i with
  | nil => simp at hi
  | cons x fs ih =>
    simp [fldsB] at h
    cases i with
    | zero => simp at hi; subst hi; exact ⟨h.1, h.2.1⟩
    | succ i => simp at hi; have := ih h.2.2 hi; rwa [show k + (i + 1) = k + 1 + i by omega]
theorem tab_fld (h : tabB P 0 τ = true) {n : Nat} {fs zs} (e : tyAt τ t = .st n fs zs) {i : Nat} {f : Nat × Nat × Nat} (hi : fs[i]? = some f) : fldT P t i f.1 = true ∧ fldT' P t i f.1 f.2.1 = true := by
  have := tab_at (t := t) h; rw [e] at this; simp [tyB] at this
  have := fldsB_get this.2.1 hi
  rwa [Nat.zero_add] at this
end

section
variable {P : Program} {T : TypeId} {N : Nat} {w0 : Org} {g : Gh} {s : St} {a : Act} {w : World} {o : Oper}

def SV.cells : SV → Option (List CV)
  | .one c => some [c]
  | .agg cs => some cs
  | _ => none
theorem RepSV.cells_ {v : Value} {sv : SV} {cs : List CV} (h : RepSV P g w v sv) (hc : sv.cells = some cs) : v.cells.size = cs.length ∧ ∀ (j : Nat) (u : Value) (c : CV), v.cells[j]? = some u → cs[j]? = some c → RepCV P g w u c := by
  cases h with
  | u v => cases hc
  | one h =>
    simp [SV.cells] at hc
    subst hc
    have e : v.cells = #[v] := by have := h.one; cases v <;> first | rfl | cases this
    rw [e]
    refine ⟨rfl, fun j u c hu hc => ?_⟩
    cases j with
    | zero => simp at hu hc; subst hu hc; exact h
    | succ j => simp at hc
  | agg vs cs' hs h =>
    simp [SV.cells] at hc
    subst hc
    exact ⟨hs, h⟩
  | tup => cases hc

def setSeg (l : List CV) (off : Nat) (cs : List CV) : List CV := l.take off ++ cs ++ l.drop (off + cs.length)
def cfill (pl : List (Nat × Nat)) (cs : List CV) : List (Nat × List CV) → Option (List CV)
  | [] => some cs
  | p :: rest => match pl[p.1]? with
    | none => none
    | some q => bif Nat.beq p.2.length q.2 && Nat.ble (q.1 + p.2.length) cs.length then cfill pl (setSeg cs q.1 p.2) rest else none

theorem foldl_set (off : Nat) (vs : List Value) : ∀ (k : Nat) (cs : Array Value) (i : Nat),
    ((vs.zipIdx k).foldl (fun cs x => cs.setIfInBounds (off + x.2) x.1) cs)[i]? = if off + k ≤ i ∧ i < off + k + vs.length ∧ i < cs.size then vs[i - (off + k)]? else cs[i]? := by
  induction vs with
  | nil => intro k cs i; simp; intros; omega
  | cons v vs ih =>
    intro k cs i
    simp only [List.zipIdx_cons, List.foldl_cons]
    rw [ih (k + 1)]
    simp only [Array.size_setIfInBounds, List.length_cons]
    by_cases h1 : off + k = i
    · subst h1
      by_cases h2 : off + k < cs.size
      · rw [if_neg (by omega), if_pos (by omega)]; simp [h2]
      · rw [if_neg (by omega), if_neg (by omega)]; rw [Array.getElem?_setIfInBounds_self]; simp [h2]
    · by_cases h2 : off + (k + 1) ≤ i ∧ i < off + (k + 1) + vs.length ∧ i < cs.size
      · rw [if_pos h2, if_pos (by omega)]
        rw [show i - (off + k) = (i - (off + (k + 1))) + 1 by omega]
        simp
      · rw [if_neg h2, if_neg (by omega), Array.getElem?_setIfInBounds_ne h1]
theorem foldl_size (off : Nat) (vs : List Value) : ∀ (k : Nat) (cs : Array Value), ((vs.zipIdx k).foldl (fun cs x => cs.setIfInBounds (off + x.2) x.1) cs).size = cs.size := by
  induction vs with
  | nil => intro k cs; rfl
  | cons v vs ih => intro k cs; simp only [List.zipIdx_cons, List.foldl_cons]; rw [ih]; simp
theorem setSeg_get {l : List CV} {off : Nat} {cs : List CV} (h : off + cs.length ≤ l.length) (i : Nat) : (setSeg l off cs)[i]? = if off ≤ i ∧ i < off + cs.length then cs[i - off]? else l[i]? := by
  unfold setSeg
  by_cases h1 : i < off
  · rw [if_neg (by omega), List.append_assoc, List.getElem?_append_left (by simp; omega), List.getElem?_take_of_lt h1]
  · by_cases h2 : i < off + cs.length
    · rw [if_pos (by omega), List.append_assoc, List.getElem?_append_right (by simp; omega), List.getElem?_append_left (by simp; omega)]
      simp [show min off l.length = off by omega]
    · rw [if_neg (by omega), List.getElem?_append_right (by simp; omega), List.getElem?_drop]
      congr 1
      simp
      omega
theorem fill_rep {place : Nat → Option (Nat × Nat)} {pl : List (Nat × Nat)} (hpl : ∀ i p, pl[i]? = some p → place i = some p) : ∀ (parts : List (Nat × Value)) (cparts : List (Nat × List CV)) (vals : Array Value) (cs cs' : List CV),
    parts.length = cparts.length → (∀ (j : Nat) (p : Nat × Value) (q : Nat × List CV), parts[j]? = some p → cparts[j]? = some q → p.1 = q.1 ∧ p.2.cells.size = q.2.length ∧ ∀ (j : Nat) (u : Value) (c : CV), p.2.cells[j]? = some u → q.2[j]? = some c → RepCV P g w u c) →
    vals.size = cs.length → (∀ (j : Nat) (u : Value) (c : CV), vals[j]? = some u → cs[j]? = some c → RepCV P g w u c) → cfill pl cs cparts = some cs' →
    ∃ vals', Instr.fill place vals parts = some vals' ∧ vals'.size = cs'.length ∧ ∀ (j : Nat) (u : Value) (c : CV), vals'[j]? = some u → cs'[j]? = some c → RepCV P g w u c
  | [], cparts, vals, cs, cs', hl, hp, hs, hv, hf => by
    have : cparts = [] := List.eq_nil_of_length_eq_zero (by simpa using hl.symm)
    subst this
    simp [cfill] at hf
    subst hf
    exact ⟨vals, rfl, hs, hv⟩
  | p :: parts, [], vals, cs, cs', hl, hp, hs, hv, hf => by simp at hl
  | p :: parts, q :: cparts, vals, cs, cs', hl, hp, hs, hv, hf => by
    obtain ⟨e1, e2, e3⟩ := hp 0 p q rfl rfl
    obtain ⟨i, v⟩ := p
    obtain ⟨i', c⟩ := q
    dsimp only at e1 e2 e3
    subst e1
    simp only [cfill] at hf
    cases hq : pl[i]? with
    | none => rw [hq] at hf; cases hf
    | some x =>
      rw [hq] at hf
      dsimp only at hf
      cases hb : (Nat.beq c.length x.2 && Nat.ble (x.1 + c.length) cs.length) with
      | false => rw [hb] at hf; cases hf
      | true =>
        rw [hb] at hf
        simp only [cond_true] at hf
        rw [Bool.and_eq_true] at hb
        have h1 : c.length = x.2 := Nat.eq_of_beq_eq_true hb.1
        have h2 := Nat.le_of_ble_eq_true hb.2
        have hle : x.1 + c.length ≤ cs.length := h2
        obtain ⟨vals', k1, k2, k3⟩ := fill_rep hpl parts cparts (v.cells.zipIdx.foldl (fun cs x' => cs.setIfInBounds (x.1 + x'.2) x'.1) vals) (setSeg cs x.1 c) cs' (by simpa using hl) (fun j p q h1 h2 => hp (j + 1) p q (by simpa using h1) (by simpa using h2))
          (by
            rw [← Array.foldl_toList, Array.toList_zipIdx]
            rw [foldl_size]
            simp [setSeg]; omega)
          (fun j u c' hu hc' => by
            rw [← Array.foldl_toList, Array.toList_zipIdx] at hu
            rw [foldl_set] at hu
            rw [setSeg_get hle] at hc'
            have hsz : v.cells.toList.length = c.length := by simpa using e2
            by_cases hin : x.1 ≤ j ∧ j < x.1 + c.length
            · rw [if_pos hin] at hc'
              rw [if_pos (by omega)] at hu
              exact e3 _ u c' (by simpa using hu) hc'
            · rw [if_neg hin] at hc'
              rw [if_neg (by omega)] at hu
              exact hv j u c' hu hc') hf
        refine ⟨vals', ?_, k2, k3⟩
        simp only [Instr.fill, hpl i x hq]
        rw [if_neg (by simp; omega)]
        exact k1

def partsOf (s : St) : List (Nat × Operand) → Option (List (Nat × List CV))
  | [] => some []
  | p :: l => match (s.ev p.2).cells, partsOf s l with
    | some cs, some r => some ((p.1, cs) :: r)
    | _, _ => none
theorem partsOf_rep (hs : Sim P T N w0 g s a w) : ∀ (l : List (Nat × Operand)) (r : List (Nat × List CV)), partsOf s l = some r → (l.map fun p => (p.1, a.eval p.2)).length = r.length ∧
    ∀ (j : Nat) (p : Nat × Value) (q : Nat × List CV), (l.map fun p => (p.1, a.eval p.2))[j]? = some p → r[j]? = some q → p.1 = q.1 ∧ p.2.cells.size = q.2.length ∧ ∀ (j : Nat) (u : Value) (c : CV), p.2.cells[j]? = some u → q.2[j]? = some c → RepCV P g w u c
  | [], r, h => by simp [partsOf] at h; subst h; simp
  | p :: l, r, h => by
    simp only [partsOf] at h
    cases h1 : (s.ev p.2).cells with
    | none => rw [h1] at h; cases h
    | some cs =>
      cases h2 : partsOf s l with
      | none => rw [h1, h2] at h; cases h
      | some r' =>
        rw [h1, h2] at h
        simp at h
        subst h
        obtain ⟨k1, k2⟩ := partsOf_rep hs l r' h2
        refine ⟨by simpa using k1, fun j p' q hp hq => ?_⟩
        cases j with
        | zero =>
          simp at hp hq
          subst hp hq
          exact ⟨rfl, (hs.ev p.2).cells_ h1⟩
        | succ j => exact k2 j p' q (by simpa using hp) (by simpa using hq)
theorem zeroB_spec {t : TypeId} {zs : List Z} (h : zeroB P t zs = true) : ∃ i z, P.info? t = some i ∧ i.zero = some z ∧ z.cells.size = (zs.map Z.cv).length ∧ ∀ (g : Gh) (w : World) (j : Nat) (u : Value) (c : CV), z.cells[j]? = some u → (zs.map Z.cv)[j]? = some c → RepCV P g w u c := by
  unfold zeroB at h
  cases hi : P.info? t with
  | none => rw [hi] at h; cases h
  | some i =>
    rw [hi] at h
    dsimp only at h
    cases hz : i.zero with
    | none => rw [hz] at h; cases h
    | some z =>
      rw [hz] at h
      obtain ⟨k1, k2⟩ := fitsL_get h
      refine ⟨i, z, rfl, hz, by simpa using k1.symm, fun g w j u c hu hc => ?_⟩
      rw [List.getElem?_map] at hc
      cases hzz : zs[j]? with
      | none => rw [hzz] at hc; cases hc
      | some zz =>
        rw [hzz] at hc
        simp at hc
        subst hc
        exact Z.rep (k2 j zz u hzz (by simpa using hu))
theorem ope_build {τ : List TyI} (hτ : tabB P 0 τ = true) {t n : Nat} {fs : List (Nat × Nat × Nat)} {zs : List Z} {parts : Array (Nat × Operand)} {cp : List (Nat × List CV)} {r : List CV} (ho : o.op = .build t parts) (ht : tyAt τ t = .st n fs zs)
    (hp : partsOf s parts.toList = some cp) (hr : cfill (fs.map fun f => (f.1, f.2.2)) (zs.map Z.cv) cp = some r) : OpE P T N w0 s o (.agg r) :=
  ope_val fun g a w hs => by
    have hb := tab_at (t := t) hτ
    rw [ht] at hb
    simp [tyB] at hb
    obtain ⟨ha, _, hz, hpl⟩ := hb
    obtain ⟨i, z, hi, hz1, hz2, hz3⟩ := zeroB_spec hz
    obtain ⟨k1, k2⟩ := partsOf_rep hs _ _ hp
    unfold placesB at hpl
    cases hu : P.underlying t with
    | none => rw [hu] at hpl; cases hpl
    | some d =>
      rw [hu] at hpl
      cases d with
      | struct fields =>
        simp at hpl
        obtain ⟨vals', h1, h2, h3⟩ := fill_rep (P := P) (g := g) (w := w) (place := fun i => (fs.map fun f => (f.1, f.2.2)).toArray[i]?) (pl := fs.map fun f => (f.1, f.2.2)) (by intro i p h; simpa using h) _ cp z.cells _ r k1 k2 hz2 (hz3 g w) hr
        have hbu : P.built t (parts.map fun (i, x) => (i, a.eval x)).toList = some vals' := by
          unfold Program.built
          simp only [hi, hu, hz1]
          rw [hpl]
          simpa using h1
        refine ⟨.agg vals', ?_, .agg _ _ h2 h3⟩
        simp only [execOp, ho, Sem.run_bind, run_build w t _ vals' hbu, Result.andThen_ok, Sem.run_pure]
      | _ => cases hpl
theorem ope_build_arr {τ : List TyI} (hτ : tabB P 0 τ = true) {t n len e sz : Nat} {zs : List Z} {parts : Array (Nat × Operand)} {cp : List (Nat × List CV)} {r : List CV} (ho : o.op = .build t parts) (ht : tyAt τ t = .ar n len e sz zs)
    (hp : partsOf s parts.toList = some cp) (hr : cfill ((List.range len).map fun i => (i * sz, sz)) (zs.map Z.cv) cp = some r) : OpE P T N w0 s o (.agg r) :=
  ope_val fun g a w hs => by
    have hb := tab_at (t := t) hτ
    rw [ht] at hb
    simp [tyB] at hb
    obtain ⟨ha, har, hz⟩ := hb
    obtain ⟨hu, inf, hinf, hsz⟩ := arrT_spec har
    obtain ⟨i, z, hi, hz1, hz2, hz3⟩ := zeroB_spec hz
    obtain ⟨k1, k2⟩ := partsOf_rep hs _ _ hp
    obtain ⟨vals', h1, h2, h3⟩ := fill_rep (P := P) (g := g) (w := w) (place := fun i => some (i * sz, sz)) (pl := (List.range len).map fun i => (i * sz, sz)) (by
      intro i p h
      rw [List.getElem?_map] at h
      by_cases hlt : i < len
      · simp [hlt] at h; rw [h]
      · simp [hlt] at h) _ cp z.cells _ r k1 k2 hz2 (hz3 g w) hr
    have hbu : P.built t (parts.map fun (i, x) => (i, a.eval x)).toList = some vals' := by
      unfold Program.built
      simp only [hi, hu, hz1, hinf, hsz]
      simpa using h1
    refine ⟨.agg vals', ?_, .agg _ _ h2 h3⟩
    simp only [execOp, ho, Sem.run_bind, run_build w t _ vals' hbu, Result.andThen_ok, Sem.run_pure]

theorem ope_extract {x : Operand} {i : Nat} {vs : List SV} {v : SV} (ho : o.op = .extract x i) (hx : s.ev x = .tup vs) (hv : vs[i]? = some v) : OpE P T N w0 s o v :=
  ope_val fun g a w hs => by
    have h := hs.ev x; rw [hx] at h
    generalize he : a.eval x = u at h
    cases h with
    | tup arr _ hsz h =>
      have hlt := (List.getElem?_eq_some_iff.1 hv).1
      have hi : arr[i]? = some (arr[i]'(by omega)) := Array.getElem?_eq_getElem (by omega)
      exact ⟨arr[i]'(by omega), by simp [execOp, ho, he, Instr.extract, hi], h i _ v hi hv⟩
def evL (s : St) : List Operand → Option (List CV)
  | [] => some []
  | x :: l => match s.ev x, evL s l with
    | .one c, some r => some (c :: r)
    | _, _ => none
theorem evL_rep (hs : Sim P T N w0 g s a w) : ∀ (l : List Operand) (r : List CV), evL s l = some r → l.length = r.length ∧ ∀ (j : Nat) (v : Value) (c : CV), (l.map a.eval)[j]? = some v → r[j]? = some c → RepCV P g w v c
  | [], r, h => by simp [evL] at h; subst h; simp
  | x :: l, r, h => by
    simp only [evL] at h
    cases h1 : s.ev x with
    | one c =>
      cases h2 : evL s l with
      | none => rw [h1, h2] at h; cases h
      | some r' =>
        rw [h1, h2] at h
        simp at h
        subst h
        obtain ⟨k1, k2⟩ := evL_rep hs l r' h2
        refine ⟨by simp [k1], fun j v c' hv hc => ?_⟩
        cases j with
        | zero =>
          simp at hv hc
          subst hv hc
          have := hs.ev x
          rw [h1] at this
          exact this.one_inv
        | succ j => exact k2 j v c' (by simpa using hv) (by simpa using hc)
    | _ => rw [h1] at h; cases h
theorem ope_makeFunc {f : FuncId} {caps : Array Operand} {cs : List CV} (ho : o.op = .makeFunc (.func f) #[] caps) (hc : evL s caps.toList = some cs) : OpE P T N w0 s o (.one (.clo f cs)) :=
  ope_val fun g a w hs => by
    obtain ⟨k1, k2⟩ := evL_rep hs _ _ hc
    refine ⟨.func (.func f) #[] (caps.map a.eval), by simp [execOp, ho, Instr.makeFunc], .one (.clo f _ cs (by simpa using k1) fun j v c hv hc' => k2 j v c (by simpa using hv) hc')⟩

theorem len_wf {n : Nat} (h : n ≤ maxLen) : (Lit.int .i64 (n : Int)).wf = true := by
  unfold maxLen at h
  simp [Lit.wf, IntKind.min, IntKind.max, IntKind.bits, IntKind.signed]
  omega
section
variable {t e n b : Nat} {x : Operand}
theorem run_len (hu : P.underlying t = some (.slice e)) (ty : TypeId) (A : Option Addr) (n c : Nat) (cs : Array Bool) : (builtin .len #[t] ty cs #[.slice A n c]).run P w = .ok (.value (.int .i64 n)) w := by
  simp [builtin, Builtin.len_, run_underlying hu, goInt]
theorem ope_len_d {rows : List (List Cell)} (ho : o.op = .call { callee := .builtin .len, args := #[x], argTypes := #[t] }) (hx : s.ev x = .one (.d (.list rows))) (ht : sliceT P t e n = true) : OpE P T N w0 s o (.one (.d (.int .i64 (rows.length : Int)))) :=
  ope_val fun g a w hs => by
    have h := hs.ev x; rw [hx] at h
    obtain ⟨A, cap, sz, vals, he, _, h1, h2, _⟩ := h.list_inv.list_inv
    exact ⟨.int .i64 rows.length, by simp [execOp, ho, resolve, invoke, he, run_len (sliceT_spec ht).1], .one (.d (.int _ _ (len_wf (by omega))))⟩
theorem ope_len_sl {r m sz : Nat} (ho : o.op = .call { callee := .builtin .len, args := #[x], argTypes := #[t] }) (hx : s.ev x = .one (.sl r m sz)) (ht : sliceT P t e n = true) : OpE P T N w0 s o (.one (.d (.int .i64 (m : Int)))) :=
  ope_val fun g a w hs => by
    have h := hs.ev x; rw [hx] at h
    rcases h.one_inv.sl_inv with ⟨he, hm, _⟩ | ⟨b, hb, h1, h2, he⟩
    · subst hm
      exact ⟨.int .i64 0, by simp [execOp, ho, resolve, invoke, he, run_len (sliceT_spec ht).1], .one (.d (.int _ _ rfl))⟩
    · exact ⟨.int .i64 m, by simp [execOp, ho, resolve, invoke, he, run_len (sliceT_spec ht).1], .one (.d (.int _ _ (len_wf (by omega))))⟩
theorem ope_len_nil (ho : o.op = .call { callee := .builtin .len, args := #[x], argTypes := #[t] }) (hx : s.ev x = .one .nil) (ht : sliceT P t e n = true) : OpE P T N w0 s o (.one (.d (.int .i64 0))) :=
  ope_val fun g a w hs => by
    have h := hs.ev x; rw [hx] at h
    have he : a.eval x = .slice none 0 0 := by generalize a.eval x = v at h; cases h with | one h => cases h; rfl
    exact ⟨.int .i64 0, by simp [execOp, ho, resolve, invoke, he, run_len (sliceT_spec ht).1], .one (.d (.int _ _ rfl))⟩
theorem ope_len_str {sb : ByteArray} (ho : o.op = .call { callee := .builtin .len, args := #[x], argTypes := #[t] }) (hx : s.ev x = .one (.d (.str sb))) (ht : P.underlying t = some .string) : OpE P T N w0 s o (.one (.d (.int .i64 (sb.size : Int)))) :=
  ope_val fun g a w hs => by
    have h := hs.ev x; rw [hx] at h
    obtain ⟨he, hz⟩ := h.str_inv
    exact ⟨.int .i64 sb.size, by simp [execOp, ho, resolve, invoke, he, builtin, Builtin.len_, run_underlying ht, goInt], .one (.d (.int _ _ (len_wf hz)))⟩
end
theorem run_part_one {ft : TypeId} {vs : Array Value} {off : Nat} {v : Value} (ht : oneT P ft = true) (hv : vs[off]? = some v) : (part ft vs off).run P w = .ok v w := by
  simp [part, run_isAgg_one ht, hv]
theorem run_part_agg {ft n : Nat} {vs : Array Value} {off : Nat} (ht : aggT P ft n = true) : (part ft vs off).run P w = .ok (.agg (vs.extract off (off + n))) w := by
  simp [part, (run_isAgg_agg (w := w) ht).1, (run_isAgg_agg (w := w) ht).2]
theorem ope_field1 {t f fo ft : Nat} {x : Operand} {cs : List CV} {c : CV} (ho : o.op = .field t x f) (hx : s.ev x = .agg cs) (hf : fldT' P t f fo ft = true) (ht : oneT P ft = true) (hc : cs[fo]? = some c) : OpE P T N w0 s o (.one c) :=
  ope_val fun g a w hs => by
    have h := hs.ev x; rw [hx] at h
    obtain ⟨vs, he, hsz, hv⟩ := h.agg_inv
    obtain ⟨fs, f', hu, hf', rfl, rfl⟩ := fldT'_spec hf
    have hlt := (List.getElem?_eq_some_iff.1 hc).1
    have hi : vs[f'.offset]? = some (vs[f'.offset]'(by omega)) := Array.getElem?_eq_getElem (by omega)
    exact ⟨vs[f'.offset]'(by omega), by simp [execOp, ho, he, Instr.field, run_underlying hu, hf', asAgg, run_part_one ht hi], .one (hv _ _ _ hi hc)⟩
theorem agg_seg {vs : Array Value} {cs : List CV} (hsz : vs.size = cs.length) (hv : ∀ (j : Nat) (v : Value) (c : CV), vs[j]? = some v → cs[j]? = some c → RepCV P g w v c) (off n : Nat) (h : off + n ≤ cs.length) : RepSV P g w (.agg (vs.extract off (off + n))) (.agg ((cs.drop off).take n)) := by
  refine .agg _ _ (by simp; omega) fun j v c h1 h2 => ?_
  have hj : j < n := by have := (List.getElem?_eq_some_iff.1 h2).1; simp at this; omega
  rw [List.getElem?_take_of_lt hj, List.getElem?_drop] at h2
  rw [Array.getElem?_extract] at h1
  split at h1
  · exact hv _ v c h1 h2
  · cases h1
theorem ope_fieldn {t f fo ft n : Nat} {x : Operand} {cs : List CV} (ho : o.op = .field t x f) (hx : s.ev x = .agg cs) (hf : fldT' P t f fo ft = true) (ht : aggT P ft n = true) (hc : fo + n ≤ cs.length) : OpE P T N w0 s o (.agg ((cs.drop fo).take n)) :=
  ope_val fun g a w hs => by
    have h := hs.ev x; rw [hx] at h
    obtain ⟨vs, he, hsz, hv⟩ := h.agg_inv
    obtain ⟨fs, f', hu, hf', rfl, rfl⟩ := fldT'_spec hf
    exact ⟨.agg (vs.extract f'.offset (f'.offset + n)), by simp [execOp, ho, he, Instr.field, run_underlying hu, hf', asAgg, run_part_agg ht], agg_seg hsz hv _ _ hc⟩
end
end Go.Proofs.Ytcbppkfnfbdkhaa
/- Operations that make memory or store, on ideal states. -/
set_option linter.all false
namespace Go.Proofs.Ytcbppkfnfbdkhaa
open Go.RowKit

def OpR (P : Program) (T : TypeId) (N : Nat) (w0 : Org) (s : St) (o : Oper) (R : St → Prop) : Prop :=
  ∀ g a w, Sim P T N w0 g s a w → ∀ (K : Act → World → Prop) (Q : Exit → Act → World → Prop), (∀ g' s' a' w', R s' → Sim P T N w0 g' s' a' w' → K a' w') → o.wp P a w K Q

def updO (f : Nat → Option Nat) (d : Nat) (b : Option Nat) : Nat → Option Nat := fun r => if r = d then b else f r
def updN (f : Nat → Nat) (d : Nat) (b : Nat) : Nat → Nat := fun r => if r = d then b else f r
def Gh.new (g : Gh) (d : Nat) (b : Option Nat) (k : Nat) : Gh := ⟨updO g.β d b, updN g.κ d k, g.Rd, g.tp, g.tl, g.ex⟩

section
variable {P : Program} {T : TypeId} {N : Nat} {w0 : Org} {g g' : Gh} {s : St} {a : Act} {w w' : World} {o : Oper}
theorem OpQ.r {post : SV → Prop} (h : OpQ P T N w0 s o post) (hd : ∀ d, o.dst = some d → d < N) : OpR P T N w0 s o (fun s' => ∃ v, post v ∧ s' = s.putO o.dst v) := by
  intro g a w hs K Q hK
  refine h g a w hs K Q fun v w' ⟨g', sv, h1, h2, h3⟩ => ?_
  have h4 := hs.ext h2
  cases hdst : o.dst with
  | none => exact hK g' _ _ _ ⟨sv, h1, rfl⟩ (by rw [hdst]; exact h4)
  | some d => exact hK g' _ _ _ ⟨sv, h1, rfl⟩ (by rw [hdst]; exact h4.put (hd d hdst) h3)

theorem St.fresh_spec {d : Nat} (h : s.fresh d = true) : (∀ x, (getF s.F x).has d = false) ∧ (∀ r, (getH s.H r).has d = false) ∧ (getH s.H d).live = false := by
  unfold St.fresh at h
  simp at h
  exact ⟨fun x => allF_get h.1 x, fun r => allH_get h.2.1 r, h.2.2⟩

def goneH (r0 : Option Nat) (H : List (Nat × VH)) : List (Nat × VH) := match r0 with | some r => (r, VH.gone) :: H | none => H
theorem goneH_get (r0 : Option Nat) (H : List (Nat × VH)) (r : Nat) : getH (goneH r0 H) r = if r0 = some r then .gone else getH H r := by
  cases r0 with
  | none => simp [goneH]
  | some q =>
    simp only [goneH, hget_put]
    by_cases e : q = r <;> simp [e]
theorem ccells_has (r : Nat) (l : List Value) : CV.hasL r (l.map ccell) = false := by
  induction l with
  | nil => rfl
  | cons v l ih =>
    simp only [List.map_cons, CV.hasL, ih, Bool.or_false]
    unfold ccell
    split
    · rfl
    · rename_i k n; cases (Lit.int k n).wf <;> rfl
    · rename_i s; cases Nat.ble s.size 1000000 <;> rfl
    · rfl
    · rfl
theorem cval_has (r : Nat) (v : Value) : (cval v).has r = false := by
  unfold cval
  split
  · rfl
  · rename_i k n; cases (Lit.int k n).wf <;> rfl
  · rename_i s; cases Nat.ble s.size 1000000 <;> rfl
  · rfl
  · rename_i vs
    cases vs.all (·.oneCell')
    · rfl
    · exact ccells_has r _
  · rfl
theorem ev_has {d : Nat} (h : s.fresh d = true) (x : Operand) : (s.ev x).has d = false := by
  cases x with
  | tmp t => exact (St.fresh_spec h).1 t
  | const v => exact cval_has d v
  | func f => rfl
  | global g => rfl
theorem cells_has {sv : SV} {d : Nat} {cs : List CV} (h : sv.has d = false) (hc : sv.cells = some cs) : CV.hasL d cs = false := by
  cases sv with
  | one c => simp [SV.cells] at hc; subst hc; simpa [CV.hasL, SV.has] using h
  | agg cs' => simp [SV.cells] at hc; subst hc; simpa [SV.has] using h
  | _ => cases hc
theorem hasL_ne {d : Nat} {cs : List CV} (h : CV.hasL d cs = false) {j : Nat} {c : CV} (hj : cs[j]? = some c) {r : Nat} (hr : c.has r = true) : r ≠ d := fun e => by
  subst e
  rw [CV.hasL_get hj hr] at h
  cases h

theorem Sim.newG (h : Sim P T N w0 g s a w) {d : Nat} (f1 : ∀ x, (getF s.F x).has d = false) (f2 : ∀ r, (getH s.H r).has d = false) {r0 : Option Nat} {ob nb : Option Nat} {k : Nat} {vh : VH} (hob : ∀ b, ob = some b → ∃ r, r0 = some r ∧ live s.H r ∧ g.β r = some b)
    (hw : w.grownBy w' ob) (hnb : ∀ b, nb = some b → (ob = some b ∨ w.heap.size ≤ b) ∧ b < w'.heap.size) (hlive : vh.live = true)
    (hvh : Fut g.Rd g.Rd w w' → HeapOK P (g.new d nb k) w' d vh) :
    Sim P T N w0 (g.new d nb k) ⟨s.F, (d, vh) :: goneH r0 s.H⟩ a w' := by
  have hsz := hw.size
  have hsz0 := h.gi.sz
  have hH : ∀ r, getH ((d, vh) :: goneH r0 s.H) r = if d = r then vh else if r0 = some r then .gone else getH s.H r := by
    intro r
    rw [hget_put, goneH_get]
  have lv : ∀ r, live ((d, vh) :: goneH r0 s.H) r → r = d ∨ (r ≠ d ∧ r0 ≠ some r ∧ live s.H r) := by
    intro r hr
    unfold live at hr
    rw [hH] at hr
    by_cases e : d = r
    · exact .inl e.symm
    · rw [if_neg e] at hr
      by_cases e2 : r0 = some r
      · rw [if_pos e2] at hr; cases hr
      · rw [if_neg e2] at hr; exact .inr ⟨fun h => e h.symm, e2, hr⟩
  have tpob : ∀ b, g.tp = some b → ob ≠ some b := fun b hb e => by
    obtain ⟨r, _, hl, hr⟩ := hob b e
    exact (h.gi.bd r b hl hr).2.2 hb
  have rdob : ∀ b o, g.Rd b o → ob ≠ some b := fun b o hb e => by
    obtain ⟨r, _, hl, hr⟩ := hob b e
    exact (h.gi.rd b o hb).2.2 r hl hr
  have oth : ∀ r b, live s.H r → r0 ≠ some r → g.β r = some b → ob ≠ some b := fun r b hl hne hr e => by
    obtain ⟨r', e', hl', hr'⟩ := hob b e
    exact hne (by rw [e', h.gi.inj r r' b hl hl' hr hr'])
  have hf : Fut g.Rd g.Rd w w' := ⟨fun _ _ h => h, fun b o hb => World.cell?_of_block (w := w) (a := ⟨b, o, none⟩) (hw.block b (h.gi.rd b o hb).1 (fun e => rdob b o hb e.symm))⟩
  have hnew : ∀ r, r ≠ d → (g.new d nb k).β r = g.β r ∧ (g.new d nb k).κ r = g.κ r := fun r hr => by simp [Gh.new, updO, updN, hr]
  refine ⟨⟨fun r r' b h1 h2 h3 h4 => ?_, fun r b h1 h2 => ?_, fun b o hr => ?_, ?_, fun tb htb => ?_, ⟨h.gi.org.rd0, h.gi.org.new0, h.gi.org.tp0, h.gi.org.tpo⟩, h.gi.exs (fun _ _ h => h) fun c hc => ?_⟩, h.dn, h.nt, fun x => (h.hF x).move hf (fun _ h => h) fun r hr => hnew r (fun e => by rw [e, f1 x] at hr; cases hr), fun r => ?_⟩
  · rcases lv r h1 with rfl | ⟨n1, n2, l1⟩ <;> rcases lv r' h2 with rfl | ⟨m1, m2, l2⟩
    · rfl
    · rw [(hnew r' m1).1] at h4
      simp [Gh.new, updO] at h3
      rcases (hnb b h3).1 with e | e
      · exact absurd e (oth r' b l2 m2 h4)
      · have := (h.gi.bd r' b l2 h4).2.1; omega
    · rw [(hnew r n1).1] at h3
      simp [Gh.new, updO] at h4
      rcases (hnb b h4).1 with e | e
      · exact absurd e (oth r b l1 n2 h3)
      · have := (h.gi.bd r b l1 h3).2.1; omega
    · rw [(hnew r n1).1] at h3
      rw [(hnew r' m1).1] at h4
      exact h.gi.inj r r' b l1 l2 h3 h4
  · rcases lv r h1 with rfl | ⟨n1, n2, l1⟩
    · simp [Gh.new, updO] at h2
      obtain ⟨e1, e2⟩ := hnb b h2
      rcases e1 with e | e
      · obtain ⟨q, _, hl, hq⟩ := hob b e
        obtain ⟨a1, a2, a3⟩ := h.gi.bd q b hl hq
        exact ⟨a1, e2, a3⟩
      · exact ⟨.inl (by omega), e2, fun ht => by have := (h.gi.tape b ht).1; omega⟩
    · rw [(hnew r n1).1] at h2
      obtain ⟨a1, a2, a3⟩ := h.gi.bd r b l1 h2
      exact ⟨a1, by omega, a3⟩
  · obtain ⟨a1, a2, a3⟩ := h.gi.rd b o hr
    refine ⟨by omega, a2, fun r h1 h2 => ?_⟩
    rcases lv r h1 with rfl | ⟨n1, n2, l1⟩
    · simp [Gh.new, updO] at h2
      rcases (hnb b h2).1 with e | e
      · exact rdob b o hr e
      · omega
    · rw [(hnew r n1).1] at h2
      exact a3 r l1 h2
  · have hk : Keep (MutO w0) w w' := ⟨hw.os, hw.tape, hw.output, hw.size, fun k hk => by
      have hlt : k < w0.heap.size := Nat.lt_of_not_le fun hh => hk (.inr (.inl hh))
      refine hw.block k (by omega) fun e => ?_
      obtain ⟨q, _, hl, hq⟩ := hob k e.symm
      exact hk (.inr (h.gi.bd q k hl hq).1)⟩
    exact h.gi.keep.trans hk
  · obtain ⟨a1, a2⟩ := h.gi.tape tb htb
    exact ⟨by omega, a2.keep hf (hw.block tb a1 (fun e => tpob tb htb e.symm))⟩
  · obtain ⟨_, c2, c3, c4, c5⟩ := hc
    have hcob : some c ≠ ob := fun e => by
      obtain ⟨q, _, hl, hq⟩ := hob c e.symm
      exact c5 q hl hq
    refine ⟨hw.block c c2 hcob, c3, c4, fun r hl hb => ?_⟩
    rcases lv r hl with rfl | ⟨n1, n2, l1⟩
    · simp [Gh.new, updO] at hb
      rcases (hnb c hb).1 with e | e
      · exact hcob e.symm
      · omega
    · rw [(hnew r n1).1] at hb
      exact c5 r l1 hb
  · show HeapOK P _ w' r (getH ((d, vh) :: goneH r0 s.H) r)
    rw [hH]
    by_cases e : d = r
    · subst e; rw [if_pos rfl]; exact hvh hf
    · rw [if_neg e]
      by_cases e2 : r0 = some r
      · rw [if_pos e2]; trivial
      · rw [if_neg e2]
        refine (h.hH r).move hf (fun _ h => h) (fun q hq => hnew q fun e' => ?_) (fun b hl hb => hw.block b (h.gi.bd r b hl hb).2.1 fun e' => oth r b hl e2 hb e'.symm) fun _ _ h => h
        rcases hq with hq | hq
        · rw [e', f2 r] at hq; cases hq
        · exact e (by rw [← e', hq])
theorem Sim.new (h : Sim P T N w0 g s a w) {d : Nat} (hd : s.fresh d = true) {r0 : Option Nat} {ob nb : Option Nat} {k : Nat} {vh : VH} (hob : ∀ b, ob = some b → ∃ r, r0 = some r ∧ live s.H r ∧ g.β r = some b)
    (hw : w.grownBy w' ob) (hnb : ∀ b, nb = some b → (ob = some b ∨ w.heap.size ≤ b) ∧ b < w'.heap.size) (hlive : vh.live = true)
    (hvh : Fut g.Rd g.Rd w w' → HeapOK P (g.new d nb k) w' d vh) :
    Sim P T N w0 (g.new d nb k) ⟨s.F, (d, vh) :: goneH r0 s.H⟩ a w' :=
  h.newG (St.fresh_spec hd).1 (St.fresh_spec hd).2.1 hob hw hnb hlive hvh
theorem Sim.new_ (h : Sim P T N w0 g s a w) {d : Nat} (hd : s.fresh d = true) {t : TypeId} {vals : Array Value} {k : Nat} {vh : VH} (hlive : vh.live = true)
    (hvh : Fut g.Rd g.Rd w (w.alloc (.cells vals t)) → HeapOK P (g.new d (some w.heap.size) k) (w.alloc (.cells vals t)) d vh) :
    Sim P T N w0 (g.new d (some w.heap.size) k) (s.hput d vh) a (w.alloc (.cells vals t)) :=
  h.new hd (r0 := none) (ob := none) (fun b hb => by cases hb) (World.grownBy_alloc w _ none) (fun b hb => by simp at hb; subst hb; exact ⟨.inr (Nat.le_refl _), by simp⟩) hlive hvh

theorem Sim.change (h : Sim P T N w0 g s a w) {r b : Nat} {vals old : Array Value} {t : TypeId} {vh : VH} (hl : live s.H r) (hb : g.β r = some b) (hold : Blk w b t old) (hlive : vh.live = true)
    (hvh : Fut g.Rd g.Rd w (w.setRow b vals) → HeapOK P g (w.setRow b vals) r vh) : Sim P T N w0 g (s.hput r vh) a (w.setRow b vals) := by
  obtain ⟨b1, b2, b3⟩ := h.gi.bd r b hl hb
  have blk : ∀ k, k ≠ b → (w.setRow b vals).heap[k]? = w.heap[k]? := fun k hk => setRow_other w b k vals hk
  have hH : ∀ q, getH (s.hput r vh).H q = if r = q then vh else getH s.H q := fun q => hget_put _ _ _ _
  have lv : ∀ q, live (s.hput r vh).H q → live s.H q := fun q hq => by
    unfold live at hq ⊢
    rw [hH] at hq
    by_cases e : r = q
    · subst e; exact hl
    · rwa [if_neg e] at hq
  have hf : Fut g.Rd g.Rd w (w.setRow b vals) := ⟨fun _ _ h => h, fun b' o hb' => cell_setRow_other w b vals ⟨b', o, none⟩ (fun e => (h.gi.rd b' o hb').2.2 r hl (by rw [hb]; simp at e; rw [e]))⟩
  refine ⟨⟨fun r r' b h1 h2 h3 h4 => h.gi.inj r r' b (lv _ h1) (lv _ h2) h3 h4, fun q b' h1 h2 => by have := h.gi.bd q b' (lv _ h1) h2; simpa using this, fun b' o hr => ?_, ?_, fun tb htb => ?_, h.gi.org, h.gi.exs (fun _ _ h => h) fun c hc => ⟨blk c fun e => hc.2.2.2.2 r hl (by rw [hb, e]), hc.2.2.1, hc.2.2.2.1, fun q hq => hc.2.2.2.2 q (lv _ hq)⟩⟩, h.dn, h.nt, fun x => (h.hF x).move hf (fun _ h => h) fun _ _ => ⟨rfl, rfl⟩, fun q => ?_⟩
  · obtain ⟨a1, a2, a3⟩ := h.gi.rd b' o hr
    exact ⟨by simpa using a1, a2, fun q hq => a3 q (lv _ hq)⟩
  · refine h.gi.keep.trans ⟨rfl, rfl, rfl, by simp, fun k hk => blk k fun e => hk (.inr (e ▸ b1))⟩
  · obtain ⟨a1, a2⟩ := h.gi.tape tb htb
    exact ⟨by simpa using a1, a2.keep hf (blk tb fun e => b3 (by rw [← e]; exact htb))⟩
  · rw [hH]
    by_cases e : r = q
    · subst e; rw [if_pos rfl]; exact hvh hf
    · rw [if_neg e]
      refine (h.hH q).move hf (fun _ h => h) (fun _ _ => ⟨rfl, rfl⟩) (fun b' hl' hb' => blk b' fun e' => e ?_) fun _ _ h => h
      subst e'
      exact h.gi.inj r q _ hl hl' hb hb'

theorem opr_box {t d : Nat} {x : Operand} {cs : List CV} (ho : o.op = .box t x) (hd : o.dst = some d) (hN : d < N) (hx : (s.ev x).cells = some cs) (hfr : s.fresh d = true) :
    OpR P T N w0 s o (fun s' => s' = (s.hput d (.blk t cs)).put d (.one (.ref d 0))) := by
  intro g a w hs K Q hK
  obtain ⟨k1, k2⟩ := (hs.ev x).cells_ hx
  have hrun : (execOp a.eval o).run P w = .ok (.value (.pointer (some ⟨w.heap.size, 0, none⟩))) (w.alloc (.cells (a.eval x).cells t)) := by
    simp [execOp, ho, Instr.box, newVar, newRow]
  have h1 := hs.new_ hfr (t := t) (vals := (a.eval x).cells) (k := 0) (vh := .blk t cs) rfl (fun hf => ⟨w.heap.size, (a.eval x).cells, by simp [Gh.new, updO], Blk.new _ _ _, k1, fun j u c hu hc => (k2 j u c hu hc).move hf (fun _ h => h) (fun r hr => by
    have hne := hasL_ne (cells_has (ev_has hfr x) hx) hc hr
    simp [Gh.new, updO, updN, hne])⟩)
  unfold Oper.wp
  rw [hrun]
  refine hK (g.new d (some w.heap.size) 0) ((s.hput d (.blk t cs)).put d (.one (.ref d 0))) _ _ rfl ?_
  rw [hd]
  exact h1.put hN (.one (.ref 0 (by simp [Gh.new, updO])))
end
end Go.Proofs.Ytcbppkfnfbdkhaa
/- Operations that make memory or store, on ideal states: variables, stores, slices. -/
set_option linter.all false
namespace Go.Proofs.Ytcbppkfnfbdkhaa
open Go.RowKit

def CV.unD : CV → Option Cell
  | .d c => some c
  | .nil => some (.list [])
  | _ => none
def unDL : List CV → Option (List Cell)
  | [] => some []
  | c :: l => match c.unD, unDL l with
    | some x, some r => some (x :: r)
    | _, _ => none
section
variable {P : Program} {T : TypeId} {N : Nat} {w0 : Org} {g g' : Gh} {s : St} {a : Act} {w w' : World} {o : Oper} {τ : List TyI}
theorem RepCV.unD {v : Value} {c : CV} {x : Cell} (h : RepCV P g w v c) (hx : c.unD = some x) : RepCell g.Rd w v x := by
  cases c with
  | d c => simp [CV.unD] at hx; subst hx; cases h; assumption
  | nil => simp [CV.unD] at hx; subst hx; cases h; exact .list none 0 [] 0 (fun _ _ => undef) (fun _ => rfl) (Nat.le_refl _) (by unfold maxLen; omega) (by simp) (by simp) (by simp)
  | _ => cases hx
theorem unDL_get {l : List CV} {r : List Cell} (h : unDL l = some r) : l.length = r.length ∧ ∀ (j : Nat) (c : CV) (x : Cell), l[j]? = some c → r[j]? = some x → c.unD = some x := by
  induction l generalizing r with
  | nil => simp [unDL] at h; subst h; simp
  | cons c l ih =>
    simp only [unDL] at h
    cases h1 : c.unD with
    | none => rw [h1] at h; cases h
    | some x =>
      cases h2 : unDL l with
      | none => rw [h1, h2] at h; cases h
      | some r' =>
        rw [h1, h2] at h
        simp at h
        subst h
        obtain ⟨k1, k2⟩ := ih h2
        refine ⟨by simp [k1], fun j c' x' hc hx => ?_⟩
        cases j with
        | zero => simp at hc hx; subst hc hx; exact h1
        | succ j => exact k2 j c' x' (by simpa using hc) (by simpa using hx)

theorem opr_alloc (hτ : tabB P 0 τ = true) {t d : Nat} {zs : List Z} (ho : o.op = .alloc t) (hd : o.dst = some d) (hN : d < N) (hz : (tyAt τ t).zs = some zs) (hfr : s.fresh d = true) :
    OpR P T N w0 s o (fun s' => s' = (s.hput d (.blk t (zs.map Z.cv))).put d (.one (.ref d 0))) := by
  intro g a w hs K Q hK
  obtain ⟨i, z, hi, hz1, hz2, hz3⟩ := zeroB_spec (tab_zs hτ hz)
  have hrun : (execOp a.eval o).run P w = .ok (.value (.pointer (some ⟨w.heap.size, 0, none⟩))) (w.alloc (.cells z.cells t)) := by
    simp [execOp, ho, Instr.alloc, zeroValue, typeInfo, hi, hz1, newVar, newRow]
  have h1 := hs.new_ hfr (t := t) (vals := z.cells) (k := 0) (vh := .blk t (zs.map Z.cv)) rfl (fun hf => ⟨w.heap.size, z.cells, by simp [Gh.new, updO], Blk.new _ _ _, hz2, fun j u c hu hc => hz3 _ _ j u c hu hc⟩)
  unfold Oper.wp
  rw [hrun]
  refine hK (g.new d (some w.heap.size) 0) _ _ _ rfl ?_
  rw [hd]
  exact h1.put hN (.one (.ref 0 (by simp [Gh.new, updO])))

theorem run_storeVar_at {t n b off : Nat} {ty : TypeId} {cur : Array Value} {v : Value} (hi : ∃ inf, P.info? t = some inf ∧ inf.size = n) (hv : v.cells.size = n) (hb : Blk w b ty cur) (hle : off + n ≤ cur.size) (h1 : ∀ u ∈ v.cells.toList, u.oneCell' = true) :
    (storeVar t ⟨b, off, none⟩ v).run P w = .ok () (w.setRow b (cur.toList.take off ++ v.cells.toList ++ cur.toList.drop (off + n)).toArray) := by
  obtain ⟨inf, hi, hs⟩ := hi
  have := run_storeCells_at P b off ty v.cells.toList 0 cur w hb (by simp; omega) h1
  simp only [Nat.add_zero, Array.length_toList, hv] at this
  simp [storeVar, sizeOf, typeInfo, hi, hs, hv, this]
theorem seg_get (cur : List Value) (off : Nat) (vs : List Value) (h : off + vs.length ≤ cur.length) (i : Nat) : (cur.take off ++ vs ++ cur.drop (off + vs.length))[i]? = if off ≤ i ∧ i < off + vs.length then vs[i - off]? else cur[i]? := by
  by_cases h1 : i < off
  · rw [if_neg (by omega), List.append_assoc, List.getElem?_append_left (by simp; omega), List.getElem?_take_of_lt h1]
  · by_cases h2 : i < off + vs.length
    · rw [if_pos (by omega), List.append_assoc, List.getElem?_append_right (by simp; omega), List.getElem?_append_left (by simp; omega)]
      simp [show min off cur.length = off by omega]
    · rw [if_neg (by omega), List.getElem?_append_right (by simp; omega), List.getElem?_drop]
      congr 1
      simp
      omega
theorem opr_store (hτ : tabB P 0 τ = true) {t r off n : Nat} {x y : Operand} {t' : TypeId} {cs vs : List CV} (ho : o.op = .store t x y) (hd : o.dst = none) (hx : s.ev x = .one (.ref r off)) (hH : getH s.H r = .blk t' cs)
    (hn : (tyAt τ t).size = some n) (hy : (s.ev y).cells = some vs) (hl : vs.length = n) (hle : off + n ≤ cs.length) : OpR P T N w0 s o (fun s' => s' = s.hput r (.blk t' (setSeg cs off vs))) := by
  intro g a w hs K Q hK
  have h := hs.ev x; rw [hx] at h
  obtain ⟨b, hb, e⟩ := h.one_inv.ref_inv
  have hh := hs.hH r; rw [hH] at hh
  obtain ⟨b', vals, hb', hbl, hsz, hv⟩ := hh
  obtain rfl : b = b' := by rw [hb] at hb'; injection hb'
  obtain ⟨k1, k2⟩ := (hs.ev y).cells_ hy
  have h1 : ∀ u ∈ (a.eval y).cells.toList, u.oneCell' = true := fun u hu => by
    obtain ⟨j, hj⟩ := List.getElem?_of_mem hu
    have hjl := (List.getElem?_eq_some_iff.1 hj).1
    simp at hjl
    exact (k2 j u _ (by simpa using hj) (List.getElem?_eq_getElem (by omega))).one
  have hst := run_storeVar_at (P := P) (off := off) (tab_size hτ hn) (by omega) hbl (by omega) h1
  have hlen : (a.eval y).cells.toList.length = n := by simp; omega
  obtain ⟨V, hV⟩ : ∃ V, (vals.toList.take off ++ (a.eval y).cells.toList ++ vals.toList.drop (off + n)).toArray = V := ⟨_, rfl⟩
  have hVs : V.size = vals.size := by rw [← hV]; simp; omega
  have hVg : ∀ i : Nat, V[i]? = if off ≤ i ∧ i < off + n then (a.eval y).cells[i - off]? else vals[i]? := fun i => by
    rw [← hV, List.getElem?_toArray, ← hlen, seg_get _ _ _ (by simp; omega)]
    simp
  rw [hV] at hst
  have hrun : (execOp a.eval o).run P w = .ok .skip (w.setRow b V) := by
    simp [execOp, ho, e, Instr.storeAt, Instr.sureAddr, hst]
  have h2 := hs.change (r := r) (b := b) (vals := V) (vh := .blk t' (setSeg cs off vs)) (by unfold live; rw [hH]; rfl) hb hbl rfl (fun hf => by
    refine ⟨b, _, hb, setRow_heap w b vals _ _ _ hbl, by simp [setSeg, hVs]; omega, fun j u c hu hc => ?_⟩
    rw [hVg] at hu
    rw [setSeg_get (by omega)] at hc
    by_cases hin : off ≤ j ∧ j < off + vs.length
    · rw [if_pos hin] at hc
      rw [if_pos (by omega)] at hu
      exact (k2 _ u c hu hc).move hf (fun _ h => h) fun _ _ => ⟨rfl, rfl⟩
    · rw [if_neg hin] at hc
      rw [if_neg (by omega)] at hu
      exact (hv j u c hu hc).move hf (fun _ h => h) fun _ _ => ⟨rfl, rfl⟩)
  unfold Oper.wp
  rw [hrun]
  refine hK g _ _ _ rfl ?_
  rw [hd]
  exact h2
def setSegC (l : List Cell) (off : Nat) (cs : List Cell) : List Cell := l.take off ++ cs ++ l.drop (off + cs.length)
theorem setSegC_get {l : List Cell} {off : Nat} {cs : List Cell} (h : off + cs.length ≤ l.length) (i : Nat) : (setSegC l off cs)[i]? = if off ≤ i ∧ i < off + cs.length then cs[i - off]? else l[i]? := by
  unfold setSegC
  by_cases h1 : i < off
  · rw [if_neg (by omega), List.append_assoc, List.getElem?_append_left (by simp; omega), List.getElem?_take_of_lt h1]
  · by_cases h2 : i < off + cs.length
    · rw [if_pos (by omega), List.append_assoc, List.getElem?_append_right (by simp; omega), List.getElem?_append_left (by simp; omega)]
      simp [show min off l.length = off by omega]
    · rw [if_neg (by omega), List.getElem?_append_right (by simp; omega), List.getElem?_drop]
      congr 1
      simp
      omega
theorem opr_store_el (hτ : tabB P 0 τ = true) {t r i j sz n : Nat} {x y : Operand} {e' : TypeId} {rows : List (List Cell)} {row : List Cell} {vs : List CV} {ds : List Cell} (ho : o.op = .store t x y) (hd : o.dst = none) (hx : s.ev x = .one (.el r i j sz)) (hH : getH s.H r = .arr e' sz rows)
    (hn : (tyAt τ t).size = some n) (hy : (s.ev y).cells = some vs) (hds : unDL vs = some ds) (hl : ds.length = n) (hi : rows[i]? = some row) (hle : j + n ≤ row.length) : OpR P T N w0 s o (fun s' => s' = s.hput r (.arr e' sz (rows.set i (setSegC row j ds)))) := by
  intro g a w hs K Q hK
  have h := hs.ev x; rw [hx] at h
  obtain ⟨b, hb, e⟩ := h.one_inv.el_inv
  obtain ⟨vals, hbl, hrl, hsz, hv0⟩ := arr_row hs hH hi hb
  obtain ⟨k1, k2⟩ := (hs.ev y).cells_ hy
  obtain ⟨u1, u2⟩ := unDL_get hds
  have h1 : ∀ u ∈ (a.eval y).cells.toList, u.oneCell' = true := fun u hu => by
    obtain ⟨j, hj⟩ := List.getElem?_of_mem hu
    have hjl := (List.getElem?_eq_some_iff.1 hj).1
    simp at hjl
    exact (k2 j u _ (by simpa using hj) (List.getElem?_eq_getElem (by omega))).one
  have hst := run_storeVar_at (P := P) (off := i * sz + j) (tab_size hτ hn) (by omega) hbl (by omega) h1
  have hlen : (a.eval y).cells.toList.length = n := by simp; omega
  obtain ⟨V, hV⟩ : ∃ V, (vals.toList.take (i * sz + j) ++ (a.eval y).cells.toList ++ vals.toList.drop (i * sz + j + n)).toArray = V := ⟨_, rfl⟩
  have hVs : V.size = vals.size := by rw [← hV]; simp; omega
  have hVg : ∀ k : Nat, V[k]? = if i * sz + j ≤ k ∧ k < i * sz + j + n then (a.eval y).cells[k - (i * sz + j)]? else vals[k]? := fun k => by
    rw [← hV, List.getElem?_toArray, ← hlen, seg_get _ _ _ (by simp; omega)]
    simp
  rw [hV] at hst
  have hrun : (execOp a.eval o).run P w = .ok .skip (w.setRow b V) := by
    simp [execOp, ho, e, Instr.storeAt, Instr.sureAddr, hst]
  have h2 := hs.change (r := r) (b := b) (vals := V) (vh := .arr e' sz (rows.set i (setSegC row j ds))) (by unfold live; rw [hH]; rfl) hb hbl rfl (fun hf => by
    have hh := hs.hH r; rw [hH] at hh
    obtain ⟨g0, hh⟩ := hh
    rcases hh with ⟨g1, _⟩ | ⟨b2, vals2, hb2, hbl2, g2, g3, g4, g5⟩
    · rw [hb] at g1; cases g1
    obtain rfl : b = b2 := by rw [hb] at hb2; injection hb2
    obtain rfl : vals = vals2 := by
      have := hbl.symm.trans hbl2
      injection this with this
      injection this
    have hil := (List.getElem?_eq_some_iff.1 hi).1
    have hsl : (setSegC row j ds).length = sz := by simp [setSegC]; omega
    refine ⟨fun row' hr' => ?_, .inr ⟨b, _, hb, setRow_heap w b vals _ _ _ hbl, hVs.trans g2, by simpa using g3, g4, fun i' j' row' x' hi' hj' => ?_⟩⟩
    · rcases List.mem_or_eq_of_mem_set hr' with h | h
      · exact g0 _ h
      · rw [h]; exact hsl
    rw [hVg]
    rw [List.getElem?_set] at hi'
    by_cases hii : i = i'
    · subst hii
      rw [if_pos rfl, if_pos hil] at hi'
      injection hi' with hi'
      subst hi'
      rw [setSegC_get (by omega)] at hj'
      by_cases hin : j ≤ j' ∧ j' < j + ds.length
      · rw [if_pos hin] at hj'
        rw [if_pos (by omega)]
        have hj2 : j' - j < (a.eval y).cells.size := by omega
        refine ⟨(a.eval y).cells[j' - j], by rw [show i * sz + j' - (i * sz + j) = j' - j by omega]; simp [hj2], ?_⟩
        have hvs : vs[j' - j]? = some (vs[j' - j]'(by omega)) := List.getElem?_eq_getElem (by omega)
        exact ((k2 (j' - j) _ _ (Array.getElem?_eq_getElem hj2) hvs).unD (u2 _ _ _ hvs hj')).mono hf.rd hf.cell
      · rw [if_neg hin] at hj'
        rw [if_neg (by omega)]
        obtain ⟨u, hu, hr⟩ := g5 i j' row x' hi hj'
        exact ⟨u, hu, hr.mono hf.rd hf.cell⟩
    · rw [if_neg hii] at hi'
      obtain ⟨u, hu, hr⟩ := g5 i' j' row' x' hi' hj'
      have hl' := g0 row' (List.mem_of_getElem? hi')
      have hj'l := (List.getElem?_eq_some_iff.1 hj').1
      rw [if_neg ?_]
      · exact ⟨u, hu, hr.mono hf.rd hf.cell⟩
      · intro ⟨q1, q2⟩
        rcases Nat.lt_or_gt_of_ne hii with hlt | hlt
        · have : (i + 1) * sz ≤ i' * sz := Nat.mul_le_mul_right _ hlt
          rw [Nat.add_mul] at this
          omega
        · have : (i' + 1) * sz ≤ i * sz := Nat.mul_le_mul_right _ hlt
          rw [Nat.add_mul] at this
          omega)
  unfold Oper.wp
  rw [hrun]
  refine hK g _ _ _ rfl ?_
  rw [hd]
  exact h2
end
end Go.Proofs.Ytcbppkfnfbdkhaa
/- Slices made and appended to, on ideal states. -/
set_option linter.all false
namespace Go.Proofs.Ytcbppkfnfbdkhaa
open Go.RowKit

def chunks (sz len : Nat) (fl : List Cell) : List (List Cell) := match len with
  | 0 => []
  | n + 1 => fl.take sz :: chunks sz n (fl.drop sz)
theorem chunks_len (sz len : Nat) (fl : List Cell) : (chunks sz len fl).length = len := by
  induction len generalizing fl with
  | zero => rfl
  | succ n ih => simp [chunks, ih]
theorem chunks_get (sz len : Nat) (fl : List Cell) (i : Nat) (hi : i < len) : (chunks sz len fl)[i]? = some ((fl.drop (i * sz)).take sz) := by
  induction len generalizing fl i with
  | zero => omega
  | succ n ih =>
    cases i with
    | zero => simp [chunks]
    | succ i =>
      simp only [chunks, List.getElem?_cons_succ]
      rw [ih _ i (by omega), List.drop_drop]
      congr 3
      rw [Nat.add_mul]; omega
section
variable {P : Program} {T : TypeId} {N : Nat} {w0 : Org} {g g' : Gh} {s : St} {a : Act} {w w' : World} {o : Oper} {τ : List TyI}

theorem opr_buildSliceG (hτ : tabB P 0 τ = true) {t d len e sz by_ : Nat} {zs : List Z} {parts : Array (Nat × Operand)} {cp : List (Nat × List CV)} {r : List CV} {fl : List Cell} (ho : o.op = .buildSlice t len parts) (hd : o.dst = some d) (hN : d < N)
    (ht : tyAt τ t = .sl e sz by_) (hz : (tyAt τ e).zs = some zs) (hp : partsOf s parts.toList = some cp) (hr : cfill ((List.range len).map fun i => (i * sz, sz)) (List.replicate (len * sz) .u) cp = some r) (hfl : unDL r = some fl)
    (h0 : 0 < len * sz) (hm : len * sz ≤ 16777216) (f1 : ∀ x, (getF s.F x).has d = false) (f2 : ∀ r, (getH s.H r).has d = false) (hzl : zs.length = sz) :
    OpR P T N w0 s o (fun s' => s' = (s.hput d (.arr e sz (chunks sz len fl))).put d (.one (.sl d len sz))) := by
  intro g a w hs K Q hK
  obtain ⟨hu, inf, hi, hsz⟩ := sliceT_spec (tab_sl hτ ht)
  obtain ⟨i, z, hi2, hz1, hz2, hz3⟩ := zeroB_spec (tab_zs hτ hz)
  obtain rfl : i = inf := by rw [hi] at hi2; injection hi2 with h; exact h.symm
  obtain ⟨k1, k2⟩ := partsOf_rep hs _ _ hp
  have hzs : z.cells.size = sz := by rw [hz2]; simp [hzl]
  obtain ⟨vals', q1, q2, q3⟩ := fill_rep (P := P) (g := g) (w := w) (place := fun i => some (i * sz, sz)) (pl := (List.range len).map fun i => (i * sz, sz)) (by
      intro i p h
      rw [List.getElem?_map] at h
      by_cases hlt : i < len
      · simp [hlt] at h; rw [h]
      · simp [hlt] at h) _ cp ((Array.range (len * sz)).map (z.cells[· % z.cells.size]!)) _ r k1 k2 (by simp) (fun j u c hu hc => by
      have hlt : j < len * sz := by have := (Array.getElem?_eq_some_iff.1 hu).1; simpa using this
      rw [List.getElem?_replicate, if_pos hlt] at hc
      injection hc with hc
      subst hc
      have hsz0 : 0 < sz := Nat.pos_of_mul_pos_left h0
      have hj : j % z.cells.size < z.cells.size := Nat.mod_lt _ (by omega)
      simp [hlt] at hu
      rw [← hu]
      refine .u ?_
      have hzz : (zs.map Z.cv)[j % z.cells.size]? = some ((zs.map Z.cv)[j % z.cells.size]'(by rw [← hz2]; exact hj)) := List.getElem?_eq_getElem _
      have := (hz3 g w (j % z.cells.size) _ _ (Array.getElem?_eq_getElem hj) hzz).one
      simpa [hj] using this) hr
  obtain ⟨u1, u2⟩ := unDL_get hfl
  have hrl : r.length = len * sz := by
    have : ∀ (cp : List (Nat × List CV)) (cs r : List CV), cfill ((List.range len).map fun i => (i * sz, sz)) cs cp = some r → r.length = cs.length := by
      intro cp
      induction cp with
      | nil => intro cs r h; simp [cfill] at h; rw [h]
      | cons p cp ih =>
        intro cs r h
        simp only [cfill] at h
        cases hq : ((List.range len).map fun i => (i * sz, sz))[p.1]? with
        | none => rw [hq] at h; cases h
        | some x =>
          rw [hq] at h
          dsimp only at h
          cases hb : (Nat.beq p.2.length x.2 && Nat.ble (x.1 + p.2.length) cs.length) with
          | false => rw [hb] at h; cases h
          | true =>
            rw [hb] at h
            rw [Bool.and_eq_true] at hb
            have h2 := Nat.le_of_ble_eq_true hb.2
            rw [ih _ _ h]
            simp [setSeg]; omega
    rw [this _ _ _ hr]; simp
  have hbu := run_buildSlice (P := P) w t e len (parts.map fun (i, x) => (i, a.eval x)) vals' i z hu hi hz1 (by rw [hsz]; omega) (by rw [hsz]; omega) (by rw [hsz]; simpa using q1)
  have hrun : (execOp a.eval o).run P w = .ok (.value (.slice (some ⟨w.heap.size, 0, none⟩) len len)) (w.alloc (.cells vals' e)) := by
    simp only [execOp, ho, Sem.run_bind, hbu, Result.andThen_ok, Sem.run_pure]
  have hsz0 : 0 < sz := Nat.pos_of_mul_pos_left h0
  have hlen2 : len ≤ len * sz := Nat.le_mul_of_pos_right _ hsz0
  have h1 := hs.newG (d := d) f1 f2 (r0 := none) (ob := none) (nb := some w.heap.size) (k := len) (w' := w.alloc (.cells vals' e)) (vh := .arr e sz (chunks sz len fl)) (fun b hb => (by cases hb)) (World.grownBy_alloc w _ none) (fun b hb => (by simp at hb; subst hb; exact ⟨.inr (Nat.le_refl _), by simp⟩)) rfl (fun hf => by
    refine ⟨fun row hrow => ?_, .inr ⟨w.heap.size, vals', by simp [Gh.new, updO], Blk.new _ _ _, by simp [Gh.new, updN]; omega, by simp [Gh.new, updN, chunks_len], by simp [Gh.new, updN]; unfold maxLen; omega, fun i' j row x hi' hj => ?_⟩⟩
    · obtain ⟨i', hi'⟩ := List.getElem?_of_mem hrow
      have hlt := (List.getElem?_eq_some_iff.1 hi').1
      rw [chunks_len] at hlt
      rw [chunks_get _ _ _ _ hlt] at hi'
      injection hi' with hi'
      rw [← hi']
      have : (i' + 1) * sz ≤ len * sz := Nat.mul_le_mul_right _ hlt
      rw [Nat.add_mul] at this
      simp
      omega
    · have hlt := (List.getElem?_eq_some_iff.1 hi').1
      rw [chunks_len] at hlt
      rw [chunks_get _ _ _ _ hlt] at hi'
      injection hi' with hi'
      rw [← hi'] at hj
      have hjl := (List.getElem?_eq_some_iff.1 hj).1
      simp at hjl
      rw [List.getElem?_take_of_lt (by omega), List.getElem?_drop] at hj
      have hlt2 := (List.getElem?_eq_some_iff.1 hj).1
      have hv : vals'[i' * sz + j]? = some (vals'[i' * sz + j]'(by omega)) := Array.getElem?_eq_getElem (by omega)
      have hrr : r[i' * sz + j]? = some (r[i' * sz + j]'(by omega)) := List.getElem?_eq_getElem (by omega)
      exact ⟨_, hv, ((q3 _ _ _ hv hrr).unD (u2 _ _ _ hrr hj)).mono hf.rd hf.cell⟩)
  unfold Oper.wp
  rw [hrun]
  refine hK (g.new d (some w.heap.size) len) _ _ _ rfl ?_
  rw [hd]
  refine h1.put hN (.one ?_)
  have := RepCV.sl (P := P) (g := g.new d (some w.heap.size) len) (w := w.alloc (.cells vals' e)) (r := d) (b := w.heap.size) len sz (by simp [Gh.new, updO]) (by simp [Gh.new, updN]) (by simp [Gh.new, updN]; unfold maxLen; omega)
  simpa [Gh.new, updN] using this

theorem opr_buildSlice (hτ : tabB P 0 τ = true) {t d len e sz by_ : Nat} {zs : List Z} {parts : Array (Nat × Operand)} {cp : List (Nat × List CV)} {r : List CV} {fl : List Cell} (ho : o.op = .buildSlice t len parts) (hd : o.dst = some d) (hN : d < N)
    (ht : tyAt τ t = .sl e sz by_) (hz : (tyAt τ e).zs = some zs) (hp : partsOf s parts.toList = some cp) (hr : cfill ((List.range len).map fun i => (i * sz, sz)) (List.replicate (len * sz) .u) cp = some r) (hfl : unDL r = some fl)
    (h0 : 0 < len * sz) (hm : len * sz ≤ 16777216) (hfr : s.fresh d = true) (hzl : zs.length = sz) :
    OpR P T N w0 s o (fun s' => s' = (s.hput d (.arr e sz (chunks sz len fl))).put d (.one (.sl d len sz))) :=
  opr_buildSliceG hτ ho hd hN ht hz hp hr hfl h0 hm (St.fresh_spec hfr).1 (St.fresh_spec hfr).2.1 hzl

inductive Src (s : St) (sz : Nat) : SV → List (List Cell) → Prop where
  | d (rows : List (List Cell)) (h : ∀ row ∈ rows, row.length = sz) : Src s sz (.one (.d (.list rows))) rows
  | sl {r : Nat} {e : TypeId} {rows : List (List Cell)} (h : getH s.H r = .arr e sz rows) : Src s sz (.one (.sl r rows.length sz)) rows
  | nil : Src s sz (.one .nil) []
theorem divmod {i j sz : Nat} (h : j < sz) : (i * sz + j) / sz = i ∧ (i * sz + j) % sz = j := by
  have h0 : 0 < sz := by omega
  rw [Nat.mul_comm]
  exact ⟨by rw [Nat.mul_add_div h0, Nat.div_eq_of_lt h, Nat.add_zero], by rw [Nat.mul_add_mod, Nat.mod_eq_of_lt h]⟩
theorem arr_vals {r sz : Nat} {e : TypeId} {rows : List (List Cell)} (hs : Sim P T N w0 g s a w) (hH : getH s.H r = .arr e sz rows) {v : Value} (hv : RepCV P g w v (.sl r rows.length sz)) :
    (v = .slice none 0 0 ∧ rows = [] ∧ g.β r = none) ∨ ∃ b vals, g.β r = some b ∧ v = .slice (some ⟨b, 0, none⟩) rows.length (g.κ r) ∧ Blk w b e vals ∧ vals.size = g.κ r * sz ∧ rows.length ≤ g.κ r ∧ g.κ r ≤ maxLen ∧
      ∀ (i j : Nat) (row : List Cell) (x : Cell), rows[i]? = some row → row[j]? = some x → ∃ u, vals[i * sz + j]? = some u ∧ RepCell g.Rd w u x := by
  have hh := hs.hH r; rw [hH] at hh
  obtain ⟨_, hh⟩ := hh
  rcases hv.sl_inv with ⟨e1, e2, e3⟩ | ⟨b, hb, h1, h2, e1⟩
  · exact .inl ⟨e1, List.eq_nil_of_length_eq_zero e2, e3⟩
  · rcases hh with ⟨h3, _⟩ | ⟨b', vals, hb', hbl, h3, h4, h5, h6⟩
    · rw [hb] at h3; cases h3
    · obtain rfl : b = b' := by rw [hb] at hb'; injection hb'
      exact .inr ⟨b, vals, hb, e1, hbl, h3, h4, h5, h6⟩
theorem Src.vals {sz : Nat} {sv : SV} {rows : List (List Cell)} (h : Src s sz sv rows) (hz : 0 < sz) (hs : Sim P T N w0 g s a w) {v : Value} (hv : RepSV P g w v sv) :
    ∃ (A : Option Addr) (c : Nat) (news : List Value), v = .slice A rows.length c ∧ Cells (fun _ => False) w A news ∧ news.length = rows.length * sz ∧ (∀ u ∈ news, u.oneCell' = true) ∧
      ∀ (i j : Nat) (row : List Cell) (x : Cell), rows[i]? = some row → row[j]? = some x → j < sz ∧ ∃ u, news[i * sz + j]? = some u ∧ RepCell g.Rd w u x := by
  cases h with
  | nil =>
    generalize hsv : (SV.one CV.nil) = sv at hv
    cases hv <;> cases hsv
    rename_i h
    cases h
    exact ⟨none, 0, [], rfl, Cells.nil _ _ _, by simp, by simp, by simp⟩
  | d rows h =>
    obtain ⟨A, cap, sz', vals, rfl, h0, h1, h2, hsz, hc, hr⟩ := hv.list_inv.list_inv
    have hss : ∀ i j, i < rows.length → j < sz → ∃ b o, A = some ⟨b, o, none⟩ ∧ g.Rd b (o + (i * sz + j)) ∧ w.cell? ⟨b, o + (i * sz + j), none⟩ = some (vals i j) := fun i j hi hj => by
      have e1 := h _ (List.getElem_mem hi)
      have e2 := hsz _ (List.getElem_mem hi)
      rw [e1] at e2
      subst e2
      exact hc i j hi hj
    have hlt : ∀ k, k < rows.length * sz → k / sz < rows.length ∧ k % sz < sz ∧ k / sz * sz + k % sz = k := fun k hk => ⟨(Nat.div_lt_iff_lt_mul hz).2 hk, Nat.mod_lt _ hz, by rw [Nat.mul_comm]; exact Nat.div_add_mod k sz⟩
    refine ⟨A, cap, (List.range (rows.length * sz)).map fun k => vals (k / sz) (k % sz), rfl, fun k u hu => ?_, by simp, fun u hu => ?_, fun i j row x hi hj => ?_⟩
    · rw [List.getElem?_map] at hu
      by_cases hk : k < rows.length * sz
      · simp [hk] at hu
        obtain ⟨l1, l2, l3⟩ := hlt k hk
        obtain ⟨b, o, rfl, _, hcell⟩ := hss _ _ l1 l2
        refine ⟨⟨b, o, none⟩, rfl, fun h => h, ?_⟩
        rw [Addr.add_lit, ← hu, ← hcell, l3]
      · simp [hk] at hu
    · obtain ⟨k, hk, rfl⟩ := List.mem_map.1 hu
      simp at hk
      obtain ⟨l1, l2, l3⟩ := hlt k hk
      have e1 := h _ (List.getElem_mem l1)
      exact (hr (k / sz) (k % sz) _ _ (List.getElem?_eq_getElem l1) (List.getElem?_eq_getElem (by omega))).one
    · have hil := (List.getElem?_eq_some_iff.1 hi).1
      have hjl := (List.getElem?_eq_some_iff.1 hj).1
      have e1 := h _ (List.mem_of_getElem? hi)
      have hj' : j < sz := by omega
      have hk : i * sz + j < rows.length * sz := by
        have : (i + 1) * sz ≤ rows.length * sz := Nat.mul_le_mul_right _ hil
        rw [Nat.add_mul] at this
        omega
      refine ⟨hj', vals i j, ?_, hr i j row x hi hj⟩
      rw [List.getElem?_map, List.getElem?_range hk]
      simp [(divmod (i := i) hj').1, (divmod (i := i) hj').2]
  | @sl r e rows h =>
    have hh := hs.hH r; rw [h] at hh
    obtain ⟨g0, _⟩ := hh
    rcases arr_vals hs h hv.one_inv with ⟨rfl, rfl, _⟩ | ⟨b, vals, hb, rfl, hbl, h1, h2, h3, h4⟩
    · exact ⟨none, 0, [], rfl, Cells.nil _ _ _, by simp, by simp, by simp⟩
    · have hle : rows.length * sz ≤ vals.size := by rw [h1]; exact Nat.mul_le_mul_right _ h2
      refine ⟨some ⟨b, 0, none⟩, _, vals.toList.take (rows.length * sz), rfl, fun k u hu => ?_, by simp; omega, fun u hu => ?_, fun i j row x hi hj => ?_⟩
      · have hk : k < rows.length * sz := by have := (List.getElem?_eq_some_iff.1 hu).1; simp at this; omega
        rw [List.getElem?_take_of_lt hk] at hu
        refine ⟨⟨b, 0, none⟩, rfl, fun h => h, ?_⟩
        rw [Addr.add_lit, Nat.zero_add, hbl.cell k]
        simpa using hu
      · obtain ⟨k, hk⟩ := List.getElem?_of_mem hu
        have hkl : k < rows.length * sz := by have := (List.getElem?_eq_some_iff.1 hk).1; simp at this; omega
        rw [List.getElem?_take_of_lt hkl] at hk
        have l1 : k / sz < rows.length := (Nat.div_lt_iff_lt_mul hz).2 hkl
        have l2 : k % sz < sz := Nat.mod_lt _ hz
        have e1 := g0 _ (List.getElem_mem l1)
        obtain ⟨u', hu', hr⟩ := h4 (k / sz) (k % sz) _ _ (List.getElem?_eq_getElem l1) (List.getElem?_eq_getElem (by omega))
        rw [show k / sz * sz + k % sz = k by rw [Nat.mul_comm]; exact Nat.div_add_mod k sz] at hu'
        have : u = u' := by
          rw [Array.getElem?_toList] at hk
          rw [hk] at hu'
          injection hu'
        rw [this]
        exact hr.one
      · have hil := (List.getElem?_eq_some_iff.1 hi).1
        have hjl := (List.getElem?_eq_some_iff.1 hj).1
        have e1 := g0 _ (List.mem_of_getElem? hi)
        have hk : i * sz + j < rows.length * sz := by
          have : (i + 1) * sz ≤ rows.length * sz := Nat.mul_le_mul_right _ hil
          rw [Nat.add_mul] at this
          omega
        obtain ⟨u', hu', hr⟩ := h4 i j row x hi hj
        refine ⟨by omega, u', ?_, hr⟩
        rw [List.getElem?_take_of_lt hk]
        simpa using hu'

inductive Tgt (s : St) (e : TypeId) (sz : Nat) : SV → Option Nat → List (List Cell) → Prop where
  | nil : Tgt s e sz (.one .nil) none []
  | sl {r : Nat} {rows : List (List Cell)} (h : getH s.H r = .arr e sz rows) : Tgt s e sz (.one (.sl r rows.length sz)) (some r) rows
theorem Tgt.owns {e : TypeId} {sz : Nat} {sv : SV} {r0 : Option Nat} {rows : List (List Cell)} (h : Tgt s e sz sv r0 rows) (hz : 0 < sz) (hs : Sim P T N w0 g s a w) {v : Value} (hv : RepSV P g w v sv) :
    ∃ xs, w.ownsRow 0 e sz v rows.length xs ∧ (∀ row ∈ rows, row.length = sz) ∧ (∀ b, v.ownBlock = some b → ∃ r, r0 = some r ∧ live s.H r ∧ g.β r = some b) ∧
      ∀ (i j : Nat) (row : List Cell) (x : Cell), rows[i]? = some row → row[j]? = some x → ∃ u, xs[i * sz + j]? = some u ∧ RepCell g.Rd w u x := by
  cases h with
  | nil =>
    generalize hsv : (SV.one CV.nil) = sv at hv
    cases hv <;> cases hsv
    rename_i h
    cases h
    exact ⟨[], World.ownsRow_nil _ _ _ _, (by simp), (fun b hb => by cases hb), (by simp)⟩
  | @sl r rows h =>
    have hh := hs.hH r; rw [h] at hh
    obtain ⟨g0, _⟩ := hh
    rcases arr_vals hs h hv.one_inv with ⟨rfl, rfl, _⟩ | ⟨b, vals, hb, rfl, hbl, h1, h2, h3, h4⟩
    · exact ⟨[], World.ownsRow_nil _ _ _ _, (by simp), (fun b hb => by cases hb), (by simp)⟩
    · have hle : rows.length * sz ≤ vals.size := by rw [h1]; exact Nat.mul_le_mul_right _ h2
      have hl : live s.H r := by unfold live; rw [h]; rfl
      refine ⟨vals.toList.take (rows.length * sz), ⟨by simp; omega, .inr ⟨b, g.κ r, vals, rfl, Nat.zero_le _, hbl, h2, h3, h1, rfl⟩⟩, g0, fun b' hb' => ?_, fun i j row x hi hj => ?_⟩
      · simp [Value.ownBlock] at hb'; subst hb'; exact ⟨r, rfl, hl, hb⟩
      · have hil := (List.getElem?_eq_some_iff.1 hi).1
        have hjl := (List.getElem?_eq_some_iff.1 hj).1
        have e1 := g0 _ (List.mem_of_getElem? hi)
        have hk : i * sz + j < rows.length * sz := by
          have : (i + 1) * sz ≤ rows.length * sz := Nat.mul_le_mul_right _ hil
          rw [Nat.add_mul] at this
          omega
        obtain ⟨u', hu', hr⟩ := h4 i j row x hi hj
        refine ⟨u', ?_, hr⟩
        rw [List.getElem?_take_of_lt hk]
        simpa using hu'
theorem own_arr {e : TypeId} {sz n d : Nat} {v : Value} {xs : List Value} {rows : List (List Cell)} {base : Nat} (h : w'.ownsRow base e sz v n xs) (hn : n = rows.length) (hl : ∀ row ∈ rows, row.length = sz)
    (hx : ∀ (i j : Nat) (row : List Cell) (x : Cell), rows[i]? = some row → row[j]? = some x → ∃ u, xs[i * sz + j]? = some u ∧ RepCell g.Rd w' u x) :
    ∃ k, HeapOK P (g.new d v.ownBlock k) w' d (.arr e sz rows) ∧ RepCV P (g.new d v.ownBlock k) w' v (.sl d rows.length sz) ∧ ∀ b, v.ownBlock = some b → b < w'.heap.size := by
  obtain ⟨h1, h2⟩ := h
  subst hn
  rcases h2 with ⟨rfl, h3⟩ | ⟨b, cap, cur, rfl, hb, hg, h3, h4, h5, h6⟩
  · have : rows = [] := List.eq_nil_of_length_eq_zero h3
    subst this
    exact ⟨0, ⟨by simp, .inl ⟨by simp [Gh.new, updO, Value.ownBlock], rfl⟩⟩, .slv _ (by simp [Gh.new, updO, Value.ownBlock]), fun b hb => by cases hb⟩
  · refine ⟨cap, ⟨hl, .inr ⟨b, cur, by simp [Gh.new, updO, Value.ownBlock], hg, by simp [Gh.new, updN, h5], by simp [Gh.new, updN, h3], by simp [Gh.new, updN, h4], fun i j row x hi hj => ?_⟩⟩, ?_, fun b' hb' => ?_⟩
    · obtain ⟨u, hu, hr⟩ := hx i j row x hi hj
      refine ⟨u, ?_, hr⟩
      rw [← h6, List.getElem?_take] at hu
      split at hu
      · simpa using hu
      · cases hu
    · have := RepCV.sl (P := P) (g := g.new d (some b) cap) (w := w') (r := d) (b := b) rows.length sz (by simp [Gh.new, updO]) (by simp [Gh.new, updN, h3]) (by simp [Gh.new, updN, h4])
      simpa [Gh.new, updN, Value.ownBlock] using this
    · simp [Value.ownBlock] at hb'; subst hb'; exact (Array.getElem?_eq_some_iff.1 hg).1
theorem append_core (hτ : tabB P 0 τ = true) {t d e sz by_ D : Nat} {F : List (Nat × SV)} {zs : List Z} {x y : Operand} {r0 : Option Nat} {rows rows' : List (List Cell)} (ho : o.op = .call { callee := .builtin .append, args := #[x, y], argTypes := #[t, t] }) (hd : o.dst = some d) (hN : d < N)
    (ht : tyAt τ t = .sl e sz by_) (hz : (tyAt τ e).zs = some zs) (hzl : zs.length = sz) (h0 : 0 < sz) (hx : Tgt s e sz (s.ev x) r0 rows) (hy : Src s sz (s.ev y) rows') (f1 : ∀ x, (getF F x).has D = false) (f2 : ∀ r, (getH s.H r).has D = false) (hF : ∀ x, getF F x = .u ∨ getF F x = getF s.F x)
    (hbd : (rows.length + rows'.length) * by_ ≤ 140737488355328) (hb0 : 0 < by_) :
    OpR P T N w0 s o (fun s' => s' = (St.mk F ((D, .arr e sz (rows ++ rows')) :: goneH r0 s.H)).put d (.one (.sl D (rows ++ rows').length sz))) := by
  intro g a w hs K Q hK
  obtain ⟨hu, inf, hi, hsz⟩ := sliceT_spec (tab_sl hτ ht)
  have hby : inf.bytes = by_ := by
    have := tab_by hτ ht
    unfold bytesB at this
    rw [hi] at this
    exact Nat.eq_of_beq_eq_true this
  obtain ⟨i, z, hi2, hz1, hz2, hz3⟩ := zeroB_spec (tab_zs hτ hz)
  obtain rfl : i = inf := by rw [hi] at hi2; injection hi2 with h; exact h.symm
  have hzs : z.cells.size = sz := by rw [hz2]; simp [hzl]
  obtain ⟨xs, hown, hrl, hob, hxr⟩ := hx.owns h0 hs (hs.ev x)
  obtain ⟨A, c, news, ey, hC, hnl, hn1, hnr⟩ := hy.vals h0 hs (hs.ev y)
  have hrl' : ∀ row ∈ rows', row.length = sz := by
    generalize hsv : s.ev y = sv at hy
    cases hy with
    | d _ h => exact h
    | @sl r e' rows h => have hh := hs.hH r; rw [h] at hh; exact hh.1
    | nil => simp
  have hle : rows.length + rows'.length ≤ (rows.length + rows'.length) * by_ := Nat.le_mul_of_pos_right _ hb0
  refine wp_append_any w x y t ho 0 e i z sz by_ hu hi hz1 hsz hby hzs h0 (a.eval x) rows.length xs rfl hown (fun _ => False) A rows'.length c news ey hC hnl hn1 (by unfold maxLen; omega) hbd (by have := hs.gi.sz; omega) fun v' w' hown' hg' hat => ?_
  have hlen : (rows ++ rows').length = rows.length + rows'.length := List.length_append
  have hsz' := hown.lt
  have key : Fut g.Rd g.Rd w w' → ∀ (i j : Nat) (row : List Cell) (x : Cell), (rows ++ rows')[i]? = some row → row[j]? = some x → ∃ u, (xs ++ news)[i * sz + j]? = some u ∧ RepCell g.Rd w' u x := fun hf i j row x hi hj => by
    have hxl : xs.length = rows.length * sz := hown.1
    by_cases hlt : i < rows.length
    · rw [List.getElem?_append_left hlt] at hi
      obtain ⟨u, hu, hr⟩ := hxr i j row x hi hj
      refine ⟨u, ?_, hr.mono hf.rd hf.cell⟩
      rw [List.getElem?_append_left (List.getElem?_eq_some_iff.1 hu).1]
      exact hu
    · rw [List.getElem?_append_right (by omega)] at hi
      obtain ⟨hj', u, hu, hr⟩ := hnr _ j row x hi hj
      refine ⟨u, ?_, hr.mono hf.rd hf.cell⟩
      have e1 : i * sz = rows.length * sz + (i - rows.length) * sz := by rw [← Nat.add_mul]; congr 1; omega
      rw [List.getElem?_append_right (by omega)]
      rw [← hu]
      congr 1
      omega
  have hrl2 : ∀ row ∈ rows ++ rows', row.length = sz := fun row hr => by
    rcases List.mem_append.1 hr with h | h
    · exact hrl _ h
    · exact hrl' _ h
  have hfut : Fut g.Rd g.Rd w w' := ⟨fun _ _ h => h, fun b o' hb => World.cell?_of_block (w := w) (a := ⟨b, o', none⟩) (hg'.block b (hs.gi.rd b o' hb).1 (fun e => by
    obtain ⟨r, _, hl, hr⟩ := hob b e.symm
    exact (hs.gi.rd b o' hb).2.2 r hl hr))⟩
  obtain ⟨k, q1, q2, q3⟩ := own_arr (P := P) (g := g) (d := D) hown' hlen.symm hrl2 (key hfut)
  have hs1 : Sim P T N w0 g ⟨F, s.H⟩ a w := ⟨hs.gi, hs.dn, hs.nt, fun x => by
    rcases hF x with h | h
    · show RepSV P g w _ (getF F x); rw [h]; exact .u _
    · show RepSV P g w _ (getF F x); rw [h]; exact hs.hF x, hs.hH⟩
  have h1 := hs1.newG (d := D) f1 f2 (r0 := r0) (ob := (a.eval x).ownBlock) (nb := v'.ownBlock) (k := k) (vh := .arr e sz (rows ++ rows')) hob hg' (fun b hb => by
    refine ⟨?_, q3 b hb⟩
    rcases hat with e | e
    · exact .inl (by rw [← e]; exact hb)
    · rw [e] at hb; injection hb with hb; exact .inr (by omega)) rfl (fun _ => q1)
  rw [hd]
  exact hK _ _ _ _ rfl (h1.put hN (.one q2))

def killF (r : Nat) : List (Nat × SV) → List (Nat × SV)
  | [] => []
  | p :: l => (p.1, bif p.2.has r then .u else p.2) :: killF r l
theorem killF_get (r : Nat) (F : List (Nat × SV)) (x : Nat) : getF (killF r F) x = if (getF F x).has r = true then .u else getF F x := by
  induction F with
  | nil => rfl
  | cons p F ih =>
    simp only [killF, getF, beq_eq]
    by_cases e : p.1 = x
    · simp only [e, decide_true, cond_true]
      cases p.2.has r <;> rfl
    · simp [e, ih]
theorem opr_append_nil (hτ : tabB P 0 τ = true) {t d e sz by_ : Nat} {zs : List Z} {x y : Operand} {rows' : List (List Cell)} (ho : o.op = .call { callee := .builtin .append, args := #[x, y], argTypes := #[t, t] }) (hd : o.dst = some d) (hN : d < N)
    (ht : tyAt τ t = .sl e sz by_) (hz : (tyAt τ e).zs = some zs) (hzl : zs.length = sz) (h0 : 0 < sz) (hx : s.ev x = .one .nil) (hy : Src s sz (s.ev y) rows') (hfr : s.fresh d = true)
    (hbd : rows'.length * by_ ≤ 140737488355328) (hb0 : 0 < by_) :
    OpR P T N w0 s o (fun s' => s' = (s.hput d (.arr e sz rows')).put d (.one (.sl d rows'.length sz))) := by
  have := append_core (P := P) (T := T) (N := N) (w0 := w0) (D := d) (F := s.F) (r0 := none) (rows := []) hτ ho hd hN ht hz hzl h0 (by rw [hx]; exact .nil) hy (St.fresh_spec hfr).1 (St.fresh_spec hfr).2.1 (fun _ => .inr rfl) (by simpa using hbd) hb0
  simpa [goneH, St.hput] using this
theorem opr_append_sl (hτ : tabB P 0 τ = true) {t d e sz by_ r n : Nat} {zs : List Z} {x y : Operand} {rows rows' : List (List Cell)} (ho : o.op = .call { callee := .builtin .append, args := #[x, y], argTypes := #[t, t] }) (hd : o.dst = some d) (hN : d < N)
    (ht : tyAt τ t = .sl e sz by_) (hz : (tyAt τ e).zs = some zs) (hzl : zs.length = sz) (h0 : 0 < sz) (hx : s.ev x = .one (.sl r n sz)) (hr : getH s.H r = .arr e sz rows) (hn : n = rows.length) (hy : Src s sz (s.ev y) rows') (hfr : allH r s.H = true)
    (hbd : (rows.length + rows'.length) * by_ ≤ 140737488355328) (hb0 : 0 < by_) :
    OpR P T N w0 s o (fun s' => s' = (St.mk (killF r s.F) ((r, .arr e sz (rows ++ rows')) :: s.H)).put d (.one (.sl r (rows ++ rows').length sz))) := by
  subst hn
  have q1 : ∀ x, (getF (killF r s.F) x).has r = false := fun x => by
    rw [killF_get]
    split
    · rfl
    · simp_all
  have q2 : ∀ x, getF (killF r s.F) x = .u ∨ getF (killF r s.F) x = getF s.F x := fun x => by
    rw [killF_get]
    split
    · exact .inl rfl
    · exact .inr rfl
  have h := append_core (P := P) (T := T) (N := N) (w0 := w0) (D := r) (F := killF r s.F) (r0 := some r) (rows := rows) hτ ho hd hN ht hz hzl h0 (by rw [hx]; exact .sl hr) hy q1 (fun q => allH_get hfr q) q2 hbd hb0
  intro g a w hs K Q hK
  refine h g a w hs K Q fun g' s' a' w' e hs' => hK g' _ a' w' rfl ?_
  subst e
  refine ⟨⟨fun q q' b h1 h2 => hs'.gi.inj q q' b ?_ ?_, fun q b h1 => hs'.gi.bd q b ?_, fun b o' hr => ?_, hs'.gi.keep, hs'.gi.tape, hs'.gi.org, hs'.gi.exs (fun _ _ h => h) fun c hc => ⟨rfl, hc.2.2.1, hc.2.2.2.1, fun q hq => hc.2.2.2.2 q ?_⟩⟩, hs'.dn, hs'.nt, hs'.hF, fun q => ?_⟩
  all_goals
    have hg : ∀ q, getH ((r, VH.arr e sz (rows ++ rows')) :: goneH (some r) s.H) q = getH ((r, VH.arr e sz (rows ++ rows')) :: s.H) q := fun q => by
      simp only [hget_put, goneH_get]
      by_cases e : r = q <;> simp [e]
  · show live _ q; unfold live; rw [show getH ((St.mk (killF r s.F) ((r, VH.arr e sz (rows ++ rows')) :: goneH (some r) s.H)).put d (.one (.sl r (rows ++ rows').length sz))).H q = _ from hg q]; exact h1
  · show live _ q'; unfold live; rw [show getH ((St.mk (killF r s.F) ((r, VH.arr e sz (rows ++ rows')) :: goneH (some r) s.H)).put d (.one (.sl r (rows ++ rows').length sz))).H q' = _ from hg q']; exact h2
  · show live _ q; unfold live; rw [show getH ((St.mk (killF r s.F) ((r, VH.arr e sz (rows ++ rows')) :: goneH (some r) s.H)).put d (.one (.sl r (rows ++ rows').length sz))).H q = _ from hg q]; exact h1
  · obtain ⟨a1, a2, a3⟩ := hs'.gi.rd b o' hr
    refine ⟨a1, a2, fun q hq => a3 q ?_⟩
    unfold live; rw [show getH ((St.mk (killF r s.F) ((r, VH.arr e sz (rows ++ rows')) :: goneH (some r) s.H)).put d (.one (.sl r (rows ++ rows').length sz))).H q = _ from hg q]; exact hq
  · unfold live; rw [show getH ((St.mk (killF r s.F) ((r, VH.arr e sz (rows ++ rows')) :: goneH (some r) s.H)).put d (.one (.sl r (rows ++ rows').length sz))).H q = _ from hg q]; exact hq
  · have := hs'.hH q
    rw [show getH ((St.mk (killF r s.F) ((r, VH.arr e sz (rows ++ rows')) :: goneH (some r) s.H)).put d (.one (.sl r (rows ++ rows').length sz))).H q = _ from hg q] at this
    exact this
end
end Go.Proofs.Ytcbppkfnfbdkhaa
/- Code, on ideal states: regions, tests, loops. -/
set_option linter.all false
namespace Go.Proofs.Ytcbppkfnfbdkhaa
open Go.RowKit

def irg (P : Program) (T : TypeId) (N : Nat) (w0 : Org) (ops : Array Oper) (l : List Oper) (Q : St → Prop) (s : St) : Prop :=
  ∀ g a w, Sim P T N w0 g s a w → ∀ Q' : Exit → Act → World → Prop, (∀ g' s' a' w', Q s' → Sim P T N w0 g' s' a' w' → Q' .normal a' w') → wpList P ops Q' l a w
def iwp (P : Program) (T : TypeId) (N : Nat) (w0 : Org) (c : Code) (Q : Exit → St → Prop) (s : St) : Prop :=
  ∀ g a w, Sim P T N w0 g s a w → c.wp P (fun e a' w' => ∃ g' s', Q e s' ∧ Sim P T N w0 g' s' a' w') a w

section
variable {P : Program} {T : TypeId} {N : Nat} {w0 : Org} {g g' : Gh} {s : St} {a : Act} {w w' : World} {o : Oper} {ops : Array Oper} {rest : List Oper} {Q : St → Prop}
theorem irg_nil (h : Q s) : irg P T N w0 ops [] Q s := fun g a w hs Q' hQ => wpList_nil (hQ g s a w h hs)
theorem irg_op {R : St → Prop} (hg : o.guard = none) (h : OpR P T N w0 s o R) (k : ∀ s', R s' → irg P T N w0 ops rest Q s') : irg P T N w0 ops (o :: rest) Q s :=
  fun g a w hs Q' hQ => wpList_plain hg fun K hK => h g a w hs K Q' fun g' s' a' w' hR hs' => hK _ _ (k s' hR g' a' w' hs' Q' hQ)
theorem irg_h {s' : St} (hg : o.guard = none) (h : OpR P T N w0 s o (fun x => x = s')) (k : irg P T N w0 ops rest Q s') : irg P T N w0 ops (o :: rest) Q s :=
  irg_op hg h fun _ e => e ▸ k
theorem irg_q {post : SV → Prop} {d : Nat} (hg : o.guard = none) (hd : o.dst = some d) (hN : d < N) (h : OpQ P T N w0 s o post) (k : ∀ v, post v → irg P T N w0 ops rest Q (s.put d v)) : irg P T N w0 ops (o :: rest) Q s :=
  irg_op hg (h.r fun x hx => by rw [hd] at hx; cases hx; exact hN) fun s' ⟨v, hv, e⟩ => by subst e; rw [hd]; exact k v hv
theorem irg_e {v : SV} {d : Nat} (hg : o.guard = none) (hd : o.dst = some d) (hN : d < N) (h : OpE P T N w0 s o v) (k : irg P T N w0 ops rest Q (s.put d v)) : irg P T N w0 ops (o :: rest) Q s :=
  irg_q hg hd hN h fun _ e => e ▸ k
theorem yielded_of (hs : Sim P T N w0 g s a w) {j t : Nat} {c : Bool} (hj : (ops[j]?).bind (·.dst) = some t) (hv : getF s.F t = .one (.d (.bool c))) : yielded ops a.tmps j = some c := by
  have h := hs.hF t
  rw [hv] at h
  have e := h.bool_inv
  unfold yielded
  rw [hj]
  rw [Array.getD_eq_getD_getElem?] at e
  cases ht : a.tmps[t]? with
  | none => rw [ht] at e; simp [undef] at e
  | some v => rw [ht] at e; simp at e; subst e; simp [ht]
theorem irg_gno {d j t : Nat} {want c : Bool} (hg : o.guard = some (j, want)) (hj : (ops[j]?).bind (·.dst) = some t) (hv : getF s.F t = .one (.d (.bool c))) (hc : c = !want)
    (hd : o.dst = some d) (hN : d < N) (k : irg P T N w0 ops rest Q (s.put d (.tup []))) : irg P T N w0 ops (o :: rest) Q s :=
  fun g a w hs Q' hQ => wpList_step fun K hK => by
    have hy := yielded_of hs hj hv
    rw [if_neg (by subst hc; cases want <;> simp [Region.wanted, hg, hy])]
    rw [hd]
    exact hK _ _ (k g _ w (hs.putZ hN) Q' hQ)
theorem yielded_z (hs : Sim P T N w0 g s a w) {j t : Nat} (hj : (ops[j]?).bind (·.dst) = some t) (hv : getF s.F t = .tup []) : yielded ops a.tmps j = none := by
  have h := hs.hF t
  rw [hv] at h
  unfold yielded
  rw [hj]
  rw [Array.getD_eq_getD_getElem?] at h
  cases ht : a.tmps[t]? with
  | none => simp [ht]
  | some v =>
    rw [ht] at h
    simp only [Option.getD_some] at h
    cases h with
    | tup vs ss hs h => simp [ht]
theorem irg_gz {d j t : Nat} {want : Bool} (hg : o.guard = some (j, want)) (hj : (ops[j]?).bind (·.dst) = some t) (hv : getF s.F t = .tup [])
    (hd : o.dst = some d) (hN : d < N) (k : irg P T N w0 ops rest Q (s.put d (.tup []))) : irg P T N w0 ops (o :: rest) Q s :=
  fun g a w hs Q' hQ => wpList_step fun K hK => by
    have hy := yielded_z hs hj hv
    rw [if_neg (by simp [Region.wanted, hg, hy])]
    rw [hd]
    exact hK _ _ (k g _ w (hs.putZ hN) Q' hQ)
theorem irg_split (c : Bool) (h1 : c = true → irg P T N w0 ops rest Q s) (h2 : c = false → irg P T N w0 ops rest Q s) : irg P T N w0 ops rest Q s := by
  cases h : c
  · exact h2 h
  · exact h1 h
end

def IThen (P : Program) (T : TypeId) (N : Nat) (w0 : Org) (y : Code) (Q : Exit → St → Prop) : Exit → St → Prop
  | .normal, s => iwp P T N w0 y Q s
  | e, s => Q e s
def IBlock (id : Nat) (Q : Exit → St → Prop) : Exit → St → Prop
  | .exit i, s => if i = id then Q .normal s else Q (.exit i) s
  | e, s => Q e s
def IRound (Q : Exit → St → Prop) (R : St → Prop) : Exit → St → Prop
  | .normal, s => R s
  | e, s => Q e s

section
variable {P : Program} {T : TypeId} {N : Nat} {w0 : Org} {g g' : Gh} {s : St} {a : Act} {w w' : World} {Q : Exit → St → Prop}
theorem iwp_skip (h : Q .normal s) : iwp P T N w0 .skip Q s := fun g a w hs => wp_skip ⟨g, s, h, hs⟩
theorem iwp_exit {id : Nat} (h : Q (.exit id) s) : iwp P T N w0 (.exit id) Q s := fun g a w hs => wp_exit ⟨g, s, h, hs⟩
theorem iwp_ret (h : Q .ret s) : iwp P T N w0 .ret Q s := fun g a w hs => wp_ret ⟨g, s, h, hs⟩
theorem iwp_seq {x y : Code} (h : iwp P T N w0 x (IThen P T N w0 y Q) s) : iwp P T N w0 (.seq x y) Q s := fun g a w hs =>
  wp_seq (wp_mono (h g a w hs) fun e a' w' ⟨g', s', hq, hs'⟩ => by
    cases e <;> first | exact hq g' a' w' hs' | exact ⟨g', s', hq, hs'⟩)
theorem iblock_e {id : Nat} (h : Q .normal s) : IBlock id Q (.exit id) s := by simp [IBlock, h]
theorem iblock_o {id i : Nat} (hn : Nat.beq i id = false) (h : Q (.exit i) s) : IBlock id Q (.exit i) s := by
  have : i ≠ id := fun e => by subst e; simp at hn
  simp [IBlock, this, h]
theorem iwp_cond_t {c : Operand} {x y : Code} (hc : s.ev c = .one (.d (.bool true))) (h : iwp P T N w0 x Q s) : iwp P T N w0 (.cond c x y) Q s := fun g a w hs =>
  wp_cond (t := true) (by have := hs.ev c; rw [hc] at this; exact this.bool_inv) (h g a w hs)
theorem iwp_cond_f {c : Operand} {x y : Code} (hc : s.ev c = .one (.d (.bool false))) (h : iwp P T N w0 y Q s) : iwp P T N w0 (.cond c x y) Q s := fun g a w hs =>
  wp_cond (t := false) (by have := hs.ev c; rw [hc] at this; exact this.bool_inv) (h g a w hs)
theorem iwp_cond {c : Operand} {x y : Code} {b : Bool} (hc : s.ev c = .one (.d (.bool b))) (h1 : b = true → iwp P T N w0 x Q s) (h2 : b = false → iwp P T N w0 y Q s) : iwp P T N w0 (.cond c x y) Q s := by
  cases hb : b
  · subst hb; exact iwp_cond_f hc (h2 rfl)
  · subst hb; exact iwp_cond_t hc (h1 rfl)
theorem iwp_block {id : Nat} {c : Code} (h : iwp P T N w0 c (IBlock id Q) s) : iwp P T N w0 (.block id c) Q s := fun g a w hs =>
  wp_block (wp_mono (h g a w hs) fun e a' w' ⟨g', s', hq, hs'⟩ => by
    cases e with
    | exit i =>
      simp only [IBlock] at hq
      simp only [Exit.inBlock]
      split
      · rename_i he; rw [if_pos he] at hq; exact ⟨g', s', hq, hs'⟩
      · rename_i he; rw [if_neg he] at hq; exact ⟨g', s', hq, hs'⟩
    | _ => exact ⟨g', s', hq, hs'⟩)
theorem iwp_region {id : Nat} {l : List Oper} (h : irg P T N w0 l.toArray l (Q .normal) s) : iwp P T N w0 (.region id l.toArray false) Q s := fun g a w hs =>
  wp_region_lit (h g a w hs _ fun g' s' a' w' hq hs' => ⟨g', s', hq, hs'⟩)
theorem iwp_mono {c : Code} {Q' : Exit → St → Prop} (h : iwp P T N w0 c Q s) (hq : ∀ e s, Q e s → Q' e s) : iwp P T N w0 c Q' s := fun g a w hs =>
  wp_mono (h g a w hs) fun e a' w' ⟨g', s', h1, h2⟩ => ⟨g', s', hq e s' h1, h2⟩
end

inductive CVle (vs : List Nat) : CV → CV → Prop where
  | u (c : CV) : CVle vs c .u
  | d {x y : Cell} (h : x = y) : CVle vs (.d x) (.d y)
  | nil : CVle vs .nil .nil
  | nild : CVle vs .nil (.d (.list []))
  | nils {r sz : Nat} (h : vs.contains r = true) : CVle vs .nil (.sl r 0 sz)
  | ref {r o o' : Nat} (h : vs.contains r = false) (ho : o = o') : CVle vs (.ref r o) (.ref r o')
  | sl {r n n' sz : Nat} (h : vs.contains r = false) (hn : n = n') : CVle vs (.sl r n sz) (.sl r n' sz)
  | el {r i i' j j' sz : Nat} (h : vs.contains r = false) (hi : i = i') (hj : j = j') : CVle vs (.el r i j sz) (.el r i' j' sz)
  | slp {r o n sz : Nat} (h : vs.contains r = false) : CVle vs (.slp r o n sz) (.slp r o n sz)
  | slpe {r o o' n n' sz : Nat} (h : vs.contains r = false) (ho : o = o') (hn : n = n') : CVle vs (.slp r o n sz) (.slp r o' n' sz)
  | slz {r n n' sz : Nat} (h : vs.contains r = false) (hn : n = n') : CVle vs (.sl r n sz) (.slp r 0 n' sz)
  | rp {cs : List CV} (h : ∀ r, vs.contains r = true → CV.hasL r cs = false) : CVle vs (.rp cs) (.rp cs)
  | clo {f : FuncId} {cs : List CV} (h : ∀ r, vs.contains r = true → CV.hasL r cs = false) : CVle vs (.clo f cs) (.clo f cs)
  | fn (p : List DV → Option Cell) : CVle vs (.fn p) (.fn p)
  | tape : CVle vs .tape .tape
inductive CVleL (vs : List Nat) : List CV → List CV → Prop where
  | nil : CVleL vs [] []
  | cons {c c' : CV} {l l' : List CV} (h : CVle vs c c') (hl : CVleL vs l l') : CVleL vs (c :: l) (c' :: l')
inductive SVle (vs : List Nat) : SV → SV → Prop where
  | u (v : SV) : SVle vs v .u
  | one {c c' : CV} (h : CVle vs c c') : SVle vs (.one c) (.one c')
  | agg {l l' : List CV} (h : CVleL vs l l') : SVle vs (.agg l) (.agg l')
inductive VHle (vs : List Nat) (r : Nat) : VH → VH → Prop where
  | gone (h : VH) : VHle vs r h .gone
  | blk {t : TypeId} {cs cs' : List CV} (h : vs.contains r = false) (hl : CVleL vs cs cs') : VHle vs r (.blk t cs) (.blk t cs')
  | arr {e : TypeId} {sz : Nat} {rows rows' : List (List Cell)} (h : vs.contains r = false) (hr : rows = rows') : VHle vs r (.arr e sz rows) (.arr e sz rows')
  | pin {v : Value} {c : CV} (h : CVle vs c c) : VHle vs r (.pin v c) (.pin v c)
  | tbl {e e1 : TypeId} {rows rows' : List (List (List Cell))} (h : vs.contains r = false) (hr : rows = rows') : VHle vs r (.tbl e e1 rows none) (.tbl e e1 rows' none)
  | virt {e : TypeId} {sz : Nat} {h0 : VH} (h : vs.contains r = true) : VHle vs r h0 (.arr e sz [])
inductive FitF (vs : List Nat) (s : St) : List (Nat × SV) → Prop where
  | nil : FitF vs s []
  | cons {x : Nat} {v : SV} {l : List (Nat × SV)} (h : SVle vs (getF s.F x) v) (hl : FitF vs s l) : FitF vs s ((x, v) :: l)
inductive FitH (vs : List Nat) (s : St) : List (Nat × VH) → Prop where
  | nil : FitH vs s []
  | cons {x : Nat} {v : VH} {l : List (Nat × VH)} (h : VHle vs x (getH s.H x) v) (hl : FitH vs s l) : FitH vs s ((x, v) :: l)
structure Fits (vs : List Nat) (s s' : St) : Prop where
  F : FitF vs s s'.F
  H : FitH vs s s'.H

section
variable {P : Program} {T : TypeId} {N : Nat} {w0 : Org} {g g' : Gh} {s s' : St} {a : Act} {w w' : World} {Q : Exit → St → Prop} {vs : List Nat}
def Gh.virt (g : Gh) (vs : List Nat) : Gh := ⟨fun r => if vs.contains r = true then none else g.β r, g.κ, g.Rd, g.tp, g.tl, g.ex⟩
theorem CVle.rep {v : Value} {c c' : CV} (h : CVle vs c c') (hv : RepCV P g w v c) : RepCV P (g.virt vs) w v c' := by
  have hno : ∀ r, vs.contains r = false → (g.virt vs).β r = g.β r := fun r hr => by simp only [Gh.virt, hr]; simp
  cases h with
  | u c => exact .u hv.one
  | d h => subst h; cases hv; rename_i h; exact .d h
  | nil => cases hv; exact .nil
  | nild => cases hv; exact .d (RepCV.unD (g := g) (P := P) (c := .nil) .nil rfl)
  | nils h => cases hv; exact .slv _ (by simp only [Gh.virt, h]; simp)
  | ref h ho => subst ho; obtain ⟨b, hb, rfl⟩ := hv.ref_inv; exact .ref _ ((hno _ h).trans hb)
  | @sl r n n' sz h hn =>
    subst hn
    rcases hv.sl_inv with ⟨rfl, rfl, hb⟩ | ⟨b, hb, h1, h2, rfl⟩
    · exact .slv _ ((hno _ h).trans hb)
    · exact RepCV.sl (g := g.virt vs) _ _ ((hno _ h).trans hb) h1 h2
  | @slp r o n sz h => exact hv.move (g' := g.virt vs) (Fut.refl _ _) (fun _ h => h) fun r' hr => (by
      have e : r = r' := Nat.eq_of_beq_eq_true (by simpa only [CV.has] using hr)
      subst e
      exact ⟨hno r h, rfl⟩)
  | @slpe r o o' n n' sz h ho hn => subst ho hn; exact hv.move (g' := g.virt vs) (Fut.refl _ _) (fun _ h => h) fun r' hr => (by
      have e : r = r' := Nat.eq_of_beq_eq_true (by simpa only [CV.has] using hr)
      subst e
      exact ⟨hno r h, rfl⟩)
  | @slz r n n' sz h hn =>
    subst hn
    rcases hv.sl_inv with ⟨rfl, rfl, hb⟩ | ⟨b, hb, h1, h2, rfl⟩
    · exact .slpv 0 sz
    · exact .slp 0 n sz 0 _ ((hno _ h).trans hb) (.inr (by omega)) h1 (.inr ⟨by omega, by show 0 + _ ≤ g.κ r; omega, h2⟩)
  | el h hi hj => subst hi hj; obtain ⟨b, hb, rfl⟩ := hv.el_inv; exact .el _ _ _ ((hno _ h).trans hb)
  | rp h => exact hv.move (g' := g.virt vs) (Fut.refl _ _) (fun _ h => h) fun r hr => ⟨(by
      cases hc : vs.contains r with
      | false => exact hno r hc
      | true => simp only [CV.has] at hr; rw [h r hc] at hr; cases hr), rfl⟩
  | clo h => exact hv.move (g' := g.virt vs) (Fut.refl _ _) (fun _ h => h) fun r hr => ⟨(by
      cases hc : vs.contains r with
      | false => exact hno r hc
      | true => simp only [CV.has] at hr; rw [h r hc] at hr; cases hr), rfl⟩
  | fn p => cases hv; rename_i h; exact .fn h
  | tape => cases hv; rename_i h; exact .tape h
theorem CVleL.rep {cs cs' : List CV} (h : CVleL vs cs cs') : cs.length = cs'.length ∧ ∀ (j : Nat) (c' : CV), cs'[j]? = some c' → ∃ c, cs[j]? = some c ∧ CVle vs c c' := by
  induction h with
  | nil => simp
  | cons h hl ih =>
    refine ⟨by simp [ih.1], fun j c' hj => ?_⟩
    cases j with
    | zero => simp at hj; subst hj; exact ⟨_, rfl, h⟩
    | succ j => simpa using ih.2 j c' (by simpa using hj)
theorem SVle.rep {v : Value} {c c' : SV} (h : SVle vs c c') (hv : RepSV P g w v c) : RepSV P (g.virt vs) w v c' := by
  cases h with
  | u v => exact .u _
  | one h => exact .one (h.rep hv.one_inv)
  | agg h =>
    obtain ⟨arr, rfl, hsz, hr⟩ := hv.agg_inv
    obtain ⟨k1, k2⟩ := h.rep
    refine .agg arr _ (by omega) fun j v c' h1 h2 => ?_
    obtain ⟨c, hc, hle⟩ := k2 j c' h2
    exact hle.rep (hr j v c h1 hc)
theorem FitF.get {l : List (Nat × SV)} (h : FitF vs s l) (x : Nat) : SVle vs (getF s.F x) (getF l x) := by
  induction h with
  | nil => exact .u _
  | @cons y v l h hl ih =>
    simp only [getF, beq_eq]
    by_cases e : y = x
    · subst e; simpa using h
    · simpa [e] using ih
theorem FitH.get {l : List (Nat × VH)} (h : FitH vs s l) (x : Nat) : VHle vs x (getH s.H x) (getH l x) := by
  induction h with
  | nil => exact .gone _
  | @cons y v l h hl ih =>
    simp only [getH, beq_eq]
    by_cases e : y = x
    · subst e; simpa using h
    · simpa [e] using ih
theorem Sim.fits (hs : Sim P T N w0 g s a w) (h : Fits vs s s') : Sim P T N w0 (g.virt vs) s' a w := by
  have key : ∀ r b, live s'.H r → (g.virt vs).β r = some b → live s.H r ∧ g.β r = some b := fun r b hl hb => by
    have hk := h.H.get r
    unfold live at hl ⊢
    cases hc : vs.contains r with
    | true => simp only [Gh.virt, hc] at hb; simp at hb
    | false =>
      simp only [Gh.virt, hc] at hb
      refine ⟨?_, by simpa using hb⟩
      generalize getH s'.H r = h1 at hk hl
      generalize getH s.H r = h0 at hk
      cases hk with
      | gone => cases hl
      | blk h1 h2 => rfl
      | arr h1 h2 => rfl
      | pin h => cases hl
      | tbl h1 h2 => rfl
      | virt h1 => rw [hc] at h1; cases h1
  refine ⟨⟨fun r r' b h1 h2 h3 h4 => ?_, fun r b h1 h2 => ?_, fun b o hr => ?_, hs.gi.keep, hs.gi.tape, ⟨hs.gi.org.rd0, hs.gi.org.new0, hs.gi.org.tp0, hs.gi.org.tpo⟩, hs.gi.exs (fun _ _ h => h) fun c hc => ⟨rfl, hc.2.2.1, hc.2.2.2.1, fun r hl hb => by
    obtain ⟨q1, q2⟩ := key r c hl hb
    exact hc.2.2.2.2 r q1 q2⟩⟩, hs.dn, hs.nt, fun x => (h.F.get x).rep (hs.hF x), fun r => ?_⟩
  · obtain ⟨a1, a2⟩ := key r b h1 h3
    obtain ⟨b1, b2⟩ := key r' b h2 h4
    exact hs.gi.inj r r' b a1 b1 a2 b2
  · obtain ⟨a1, a2⟩ := key r b h1 h2
    exact hs.gi.bd r b a1 a2
  · obtain ⟨a1, a2, a3⟩ := hs.gi.rd b o hr
    exact ⟨a1, a2, fun r hl hb => by
      obtain ⟨q1, q2⟩ := key r b hl hb
      exact a3 r q1 q2⟩
  · have hk := h.H.get r
    have hh := hs.hH r
    generalize getH s'.H r = h1 at hk
    generalize getH s.H r = h0 at hk hh
    cases hk with
    | gone => trivial
    | pin h => exact h.rep hh
    | blk h1 h2 =>
      obtain ⟨b, vals, q1, q2, q3, q4⟩ := hh
      obtain ⟨k1, k2⟩ := h2.rep
      refine ⟨b, vals, by simp only [Gh.virt, h1]; simpa using q1, q2, by omega, fun j v c' hv hc => ?_⟩
      obtain ⟨c, hc2, hle⟩ := k2 j c' hc
      exact hle.rep (q4 j v c hv hc2)
    | arr h1 h2 =>
      subst h2
      obtain ⟨q0, q⟩ := hh
      refine ⟨q0, ?_⟩
      rcases q with ⟨q1, q2⟩ | ⟨b, vals, q1, q2⟩
      · exact .inl ⟨by simp only [Gh.virt, h1]; simpa using q1, q2⟩
      · exact .inr ⟨b, vals, by simp only [Gh.virt, h1]; simpa using q1, q2⟩
    | tbl h1 h2 =>
      subst h2
      rcases hh with ⟨q1, q2⟩ | ⟨b, vals, bk, q1, q2, q3, q4, q5, q6, q7, q8⟩
      · exact .inl ⟨by simp only [Gh.virt, h1]; simpa using q1, q2⟩
      exact .inr ⟨b, vals, bk, by simp only [Gh.virt, h1]; simpa using q1, q2, q3, q4, q5, q6, q7, fun i q ho => by cases ho⟩
    | virt h1 => exact ⟨by simp, .inl ⟨by simp only [Gh.virt, h1]; simp, rfl⟩⟩
theorem iwp_loop {ι : Type} {c : Code} (I : ι → St) (p : ι → Prop) (μ : ι → Nat) (vs : List Nat) (i0 : ι) (hp : p i0) (h0 : Fits vs s (I i0))
    (round : ∀ i, p i → iwp P T N w0 c (IRound Q (fun s' => ∃ i', p i' ∧ μ i' < μ i ∧ ∃ vs', Fits vs' s' (I i'))) (I i)) : iwp P T N w0 (.loop c) Q s := by
  intro g a w hs b k cs
  have key : ∀ n i g a w, p i → Sim P T N w0 g (I i) a w → μ i = n →
      ∃ e a' w', (∃ g' s', Q e s' ∧ Sim P T N w0 g' s' a' w') ∧ Arrives P (lone (b.at a (.code c :: .inLoop c :: k)) cs w) b k cs e a' w' := by
    intro n
    induction n using Nat.strongRecOn with
    | _ n ih =>
      intro i g a w hp hs hn
      obtain ⟨e, a₁, w₁, ⟨g', s', hq, hs'⟩, harr⟩ := round i hp g a w hs b (.inLoop c :: k) cs
      cases e with
      | normal =>
        obtain ⟨i', hp', hlt, vs', hfit⟩ := hq
        obtain ⟨e₂, a₂, w₂, hq₂, harr₂⟩ := ih (μ i') (hn ▸ hlt) i' _ a₁ w₁ hp' (hs'.fits hfit) rfl
        exact ⟨e₂, a₂, w₂, hq₂, .of_steps (Steps.trans harr (.one step_inLoop)) harr₂⟩
      | exit id => exact ⟨_, a₁, w₁, ⟨g', s', hq, hs'⟩, .pass (x := .inLoop c) rfl (fun _ _ => .inl (by simp)) harr⟩
      | goto l => exact ⟨_, a₁, w₁, ⟨g', s', hq, hs'⟩, .pass (x := .inLoop c) rfl (fun _ _ => .inl (by simp)) harr⟩
      | ret => exact ⟨_, a₁, w₁, ⟨g', s', hq, hs'⟩, .pass (x := .inLoop c) rfl (fun _ _ => .inl (by simp)) harr⟩
      | panic ch => exact ⟨_, a₁, w₁, ⟨g', s', hq, hs'⟩, .pass (x := .inLoop c) rfl (fun _ _ => .inl (by simp)) harr⟩
      | outgrown => exact ⟨_, a₁, w₁, ⟨g', s', hq, hs'⟩, .pass (x := .inLoop c) rfl (fun _ _ => .inl (by simp)) harr⟩
  obtain ⟨e, a', w', hq, harr⟩ := key _ i0 _ a w hp (hs.fits h0) rfl
  exact ⟨e, a', w', hq, .of_steps (.one step_loop) harr⟩
end
end Go.Proofs.Ytcbppkfnfbdkhaa
