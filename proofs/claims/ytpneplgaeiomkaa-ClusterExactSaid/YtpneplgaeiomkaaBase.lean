/- Words for memory: what a call leaves as it was, and a tape of numbers. -/
import Derived.Test.YtpneplgaeiomkaaRows
import Derived.WalkKit
import Derived.WalkSpells
import Derived.WalkLawsBesides
import Derived.Maps.AppendAt
import Derived.Deep.AppendLies
import Derived.Deep.Draws
import Derived.Laws.OwnMore
import Derived.Deep.QuietTactic
import Derived.BigQuiet
import Derived.IntWalk
import Derived.Lib.SlBytesConst
import Derived.Laws.AppendOwnNone
import Derived.ProofKit
import Derived.Shelf.Abstract
set_option linter.all false
namespace Go.Proofs.Ytpneplgaeiomkaa
open Go.RowKit

theorem hid {p : Prop} (h : p) : Hid p := h

structure Keep (S : Nat → Prop) (w w' : World) : Prop where
  os : w'.os = w.os
  tape : w'.tape = w.tape
  output : w'.output = w.output
  size : w.heap.size ≤ w'.heap.size
  block : ∀ k, ¬ S k → w'.heap[k]? = w.heap[k]?

section
variable {S S' : Nat → Prop} {w w' w'' a b c : World}
theorem Keep.refl (S : Nat → Prop) (w : World) : Keep S w w := ⟨rfl, rfl, rfl, Nat.le_refl _, fun _ _ => rfl⟩
theorem Keep.trans (h : Keep S a b) (k : Keep S b c) : Keep S a c :=
  ⟨k.os.trans h.os, k.tape.trans h.tape, k.output.trans h.output, Nat.le_trans h.size k.size, fun i hi => (k.block i hi).trans (h.block i hi)⟩
theorem Keep.mono (h : Keep S w w') (hs : ∀ k, S k → S' k) : Keep S' w w' :=
  ⟨h.os, h.tape, h.output, h.size, fun k hk => h.block k fun hh => hk (hs k hh)⟩
theorem Keep.drew (h : Keep S a w) : Keep S a w.drew := ⟨h.os, h.tape, h.output, h.size, h.block⟩
theorem Keep.drewN (h : Keep S a w) (n : Nat) : Keep S a (w.drewN n) := ⟨h.os, h.tape, h.output, h.size, h.block⟩
theorem Keep.setCell (h : Keep S a w) {p : Addr} (hp : S p.block) (u : Value) : Keep S a (w.setCell p u) :=
  h.trans ⟨rfl, rfl, rfl, by simp [World.setCell], fun k hk => Below.heap_setCell _ _ _ _ (fun e => hk (e ▸ hp))⟩
theorem Keep.alloc (h : Keep S a w) (hS : S w.heap.size) (o : Obj) : Keep S a (w.alloc o) :=
  h.trans ⟨rfl, rfl, rfl, by simp, fun k hk => by
    show (w.heap.push o)[k]? = _
    rw [Array.getElem?_push, if_neg (fun (e : k = w.heap.size) => hk (by rw [e]; exact hS))]⟩
theorem Keep.below {B : Nat} (h : Below B w w') (hS : ∀ k, B ≤ k → S k) : Keep S w w' :=
  ⟨h.os, h.tape, h.output, h.size, fun k hk => h.block k (Nat.lt_of_not_le fun hle => hk (hS k hle))⟩
theorem Keep.to_below {B : Nat} (h : Keep S w w') (hS : ∀ k, S k → B ≤ k) : Below B w w' :=
  ⟨h.os, h.tape, h.output, h.size, fun k hk => h.block k fun hs => by have := hS k hs; omega⟩
theorem Keep.cell (h : Keep S w w') {p : Addr} (hp : ¬ S p.block) : w'.cell? p = w.cell? p := World.cell?_of_block (w := w) (h.block p.block hp)
theorem Keep.frozen (h : Keep S w w') {p : Addr} (hp : ¬ S p.block) : w'.frozen? p = w.frozen? p := World.frozen?_of_block (w := w) (h.block p.block hp)
end

theorem block_of_add (a : Addr) (n : Nat) : (a.add n).block = a.block := by unfold Addr.add; split <;> rfl
theorem add_of_add (a : Addr) (i j : Nat) : (a.add i).add j = a.add (i + j) := by
  unfold Addr.add
  by_cases hi : i = 0 <;> by_cases hj : j = 0 <;> simp [hi, hj, Nat.add_assoc]

def Blk (w : World) (g : Nat) (t : TypeId) (cs : Array Value) : Prop := w.heap[g]? = some (.cells cs t (0, 0))

section
variable {w w' : World} {g : Nat} {t : TypeId} {cs : Array Value}
theorem Blk.lt (h : Blk w g t cs) : g < w.heap.size := by
  rcases Nat.lt_or_ge g w.heap.size with hlt | hge
  · exact hlt
  · unfold Blk at h; rw [Array.getElem?_eq_none hge] at h; cases h
theorem Blk.cell (h : Blk w g t cs) (i : Nat) : w.cell? ⟨g, i, none⟩ = cs[i]? := cell_of_row w g i cs t (0, 0) h
theorem Blk.frozen (h : Blk w g t cs) (i : Nat) : w.frozen? ⟨g, i, none⟩ = false := by
  unfold Blk at h
  simp [World.frozen?, h]
theorem Blk.new (w : World) (t : TypeId) (cs : Array Value) : Blk (w.alloc (.cells cs t)) w.heap.size t cs := heap_alloc_new w _
theorem Blk.drew (h : Blk w g t cs) : Blk w.drew g t cs := h
theorem Blk.drewN (h : Blk w g t cs) (n : Nat) : Blk (w.drewN n) g t cs := h
theorem Blk.alloc (h : Blk w g t cs) (o : Obj) : Blk (w.alloc o) g t cs := (Below.heap_alloc w o g h.lt).trans h
theorem Blk.set_ (h : Blk w g t cs) (i : Nat) (u : Value) : Blk (w.setCell ⟨g, i, none⟩ u) g t (cs.setIfInBounds i u) := by
  unfold Blk at h ⊢
  simp [World.setCell, Array.getElem?_modify, h]
theorem Blk.keep {S : Nat → Prop} (h : Blk w g t cs) (hk : Keep S w w') (hg : ¬ S g) : Blk w' g t cs := (hk.block g hg).trans h
end

def Cells (S : Nat → Prop) (w : World) (A : Option Addr) (xs : List Value) : Prop :=
  ∀ i u, xs[i]? = some u → ∃ ad, A = some ad ∧ ¬ S ad.block ∧ w.cell? (ad.add i) = some u

section
variable {S S' : Nat → Prop} {w w' : World} {A : Option Addr} {xs ys : List Value}
theorem Cells.nil (S : Nat → Prop) (w : World) (A : Option Addr) : Cells S w A [] := fun i u h => by simp at h
theorem lt_of_cell {a : Addr} {i : Nat} {v : Value} (h : w.cell? (a.add i) = some v) : a.block < w.heap.size := by
  have := World.block_lt_of_cell? _ _ h
  rwa [block_of_add] at this
theorem Cells.keep (h : Cells S w A xs) (hk : Keep S' w w') (hS : ∀ k, k < w.heap.size → S' k → S k) : Cells S w' A xs := by
  intro i u hu
  obtain ⟨ad, e, hs, hc⟩ := h i u hu
  exact ⟨ad, e, hs, (hk.cell (p := ad.add i) (by rw [block_of_add]; exact fun hh => hs (hS _ (lt_of_cell hc) hh))).trans hc⟩
theorem Cells.below (h : Cells S w A xs) (hk : Below w.heap.size w w') : Cells S w' A xs :=
  h.keep (Keep.below hk fun _ hh => hh) fun k h1 h2 => by omega
theorem Cells.drewN (h : Cells S w A xs) (n : Nat) : Cells S (w.drewN n) A xs := h
theorem Cells.alloc (h : Cells S w A xs) (o : Obj) : Cells S (w.alloc o) A xs := h.below ((Below.refl _ _).alloc (Nat.le_refl _) _)
theorem Cells.mono (h : Cells S w A xs) (hS : ∀ k, S' k → S k) : Cells S' w A xs := fun i u hu => by
  obtain ⟨ad, e, hs, hc⟩ := h i u hu
  exact ⟨ad, e, fun hh => hs (hS _ hh), hc⟩
theorem Cells.take (h : Cells S w A xs) (n : Nat) : Cells S w A (xs.take n) := fun i u hu => by
  rw [List.getElem?_take] at hu
  split at hu
  · exact h i u hu
  · cases hu
theorem Cells.drop (h : Cells S w A xs) (n : Nat) : Cells S w (A.map (·.add n)) (xs.drop n) := fun i u hu => by
  rw [List.getElem?_drop] at hu
  obtain ⟨ad, rfl, hs, hc⟩ := h _ u hu
  exact ⟨ad.add n, rfl, by rw [block_of_add]; exact hs, by rw [add_of_add]; exact hc⟩
theorem Cells.some_ (h : Cells S w A xs) (hn : 0 < xs.length) : ∃ ad, A = some ad ∧ ¬ S ad.block ∧ ∀ i u, xs[i]? = some u → w.cell? (ad.add i) = some u := by
  obtain ⟨ad, e, hs, _⟩ := h 0 _ (List.getElem?_eq_getElem hn)
  refine ⟨ad, e, hs, fun i u hu => ?_⟩
  obtain ⟨ad', e', _, hc⟩ := h i u hu
  rw [e] at e'
  injection e' with e'
  subst e'
  exact hc
theorem Cells.plain (h : Cells S w A xs) (hn : 0 < xs.length) : ∃ b o, A = some ⟨b, o, none⟩ ∧ ¬ S b ∧ ∀ i u, xs[i]? = some u → w.cell? ⟨b, o + i, none⟩ = some u := by
  obtain ⟨ad, e, hs, hc⟩ := h.some_ hn
  obtain ⟨b, o, sp⟩ := ad
  have h0 := hc 0 _ (List.getElem?_eq_getElem hn)
  have hsp : sp = none := by
    cases sp with
    | none => rfl
    | some x =>
      simp only [World.cell?, Addr.add] at h0
      split at h0 <;> simp_all
  subst hsp
  refine ⟨b, o, e, hs, fun i u hu => ?_⟩
  have := hc i u hu
  rwa [Addr.add_lit] at this
end

structure Later (w : World) where
  val : World
  prop : Below w.heap.size w val
def Later.drew (w : World) : Later w := ⟨w.drew, (Below.refl _ _).drew⟩
instance (w : World) : Nonempty (Later w) := ⟨Later.drew w⟩
theorem Later.same {w : World} (x : Later w) {w' : World} (h : x.val = w') : ∃ y : Later w, w' = y.val := ⟨x, h.symm⟩
theorem Later.cell {w : World} {a : Addr} {v : Value} (h : w.cell? a = some v) (x : Later w) : x.val.cell? a = some v := cell_later x.prop h

theorem Cells.new (w : World) (cs : Array Value) (t : TypeId) : Cells (fun _ => False) (w.alloc (.cells cs t)) (some ⟨w.heap.size, 0, none⟩) cs.toList := fun j u hu => by
  refine ⟨_, rfl, fun h => h, ?_⟩
  rw [Addr.add_lit, Nat.zero_add, (Blk.new w t cs).cell j]
  simpa using hu

@[irreducible] def subA (A : Option Addr) (cap lo size : Nat) : Option Addr := if cap = lo then A else A.map (·.add (lo * size))
theorem Cells.sub {S : Nat → Prop} {w : World} {A : Option Addr} {xs : List Value} (h : Cells S w A xs) (cap lo size : Nat) (hc : xs.length ≤ cap * size) : Cells S w (subA A cap lo size) (xs.drop (lo * size)) := by
  unfold subA
  split
  · rename_i e
    subst e
    rw [List.drop_of_length_le hc]
    exact Cells.nil _ _ _
  · exact h.drop _
section
variable {P : Program} (w : World)
end

section
variable {P : Program} (w : World)

theorem run_append_of_nil (base : Nat) (t ty e : TypeId) (i : TypeInfo) (size : Nat) (ht : P.underlying t = some (.slice e)) (hi : P.info? e = some i)
    (v : Value) (n : Nat) (xs : List Value) (hown : w.ownsRow base e size v n xs) (c : Nat) : (Builtin.append_ #[t, t] ty #[v, .slice none 0 c]).run P w = .ok v w := by
  rcases hown.2 with ⟨rfl, rfl⟩ | ⟨g, cap, cur, rfl, _, _, hnc, _⟩
  · simp [Builtin.append_, run_underlying ht, sizeOf, typeInfo, hi, Builtin.lenOf, Builtin.firstCells]
  · simp [Builtin.append_, run_underlying ht, sizeOf, typeInfo, hi, Builtin.lenOf, Builtin.firstCells, hnc, storeCells]

theorem run_append_any (base : Nat) (t ty e : TypeId) (i : TypeInfo) (z : Value) (size bytes : Nat) (ht : P.underlying t = some (.slice e)) (hi : P.info? e = some i) (hz : i.zero = some z)
    (hsize : i.size = size) (hby : i.bytes = bytes) (hzs : z.cells.size = size) (hsz : 0 < size)
    (v : Value) (n : Nat) (xs : List Value) (hown : w.ownsRow base e size v n xs)
    (S : Nat → Prop) (A : Option Addr) (m c : Nat) (news : List Value) (hr : Cells S w A news) (hlen : news.length = m * size) (h1 : ∀ u ∈ news, u.oneCell' = true)
    (h63 : n + m ≤ maxLen) (hbytes : (n + m) * bytes ≤ 140737488355328) (hbase : base ≤ w.heap.size) :
    ∃ v' w', (Builtin.append_ #[t, t] ty #[v, .slice A m c]).run P w = .ok v' w' ∧ w'.ownsRow base e size v' (n + m) (xs ++ news) ∧ w.grownBy w' v.ownBlock ∧
      (v'.ownBlock = v.ownBlock ∨ v'.ownBlock = some w.heap.size) := by
  rcases A with _ | ad
  · have hn : news = [] := by
      rcases news with _ | ⟨u, news⟩
      · rfl
      · obtain ⟨ad, h, _⟩ := hr 0 u rfl
        cases h
    subst hn
    have hm : m = 0 := by
      rcases Nat.eq_zero_or_pos m with h0 | h0
      · exact h0
      · have := Nat.mul_pos h0 hsz
        simp at hlen
        omega
    subst hm
    exact ⟨v, w, run_append_of_nil w base t ty e i size ht hi v n xs hown c, by simpa using hown, World.grownBy.refl w _, .inl rfl⟩
  · have hcells : ∀ j u, news[j]? = some u → w.cell? (ad.add j) = some u := by
      intro j u hu
      obtain ⟨ad', h, _, hc⟩ := hr j u hu
      injection h with h
      subst h
      exact hc
    obtain ⟨v', w', hrun, h2, h3, _, h5⟩ := run_append_own_at (P := P) w base t ty e i z size bytes ht hi hz hsize hby hzs hsz v n xs hown ad m c news hlen hcells h1 h63 hbytes hbase
    exact ⟨v', w', hrun, h2, h3, h5⟩

theorem wp_append_any {o : Oper} {a : Act} {K : Act → World → Prop} {Q : Exit → Act → World → Prop} (s x : Operand) (t : TypeId)
    (ho : o.op = .call { callee := .builtin .append, args := #[s, x], argTypes := #[t, t] })
    (base : Nat) (e : TypeId) (i : TypeInfo) (z : Value) (size bytes : Nat) (ht : P.underlying t = some (.slice e)) (hi : P.info? e = some i) (hz : i.zero = some z)
    (hsize : i.size = size) (hby : i.bytes = bytes) (hzs : z.cells.size = size) (hsz : 0 < size)
    (v : Value) (n : Nat) (xs : List Value) (hs : a.eval s = v) (hown : w.ownsRow base e size v n xs)
    (S : Nat → Prop) (A : Option Addr) (m c : Nat) (news : List Value) (hx : a.eval x = .slice A m c) (hr : Cells S w A news) (hlen : news.length = m * size) (h1 : ∀ u ∈ news, u.oneCell' = true)
    (h63 : n + m ≤ maxLen) (hbytes : (n + m) * bytes ≤ 140737488355328) (hbase : base ≤ w.heap.size)
    (h : ∀ v' w', w'.ownsRow base e size v' (n + m) (xs ++ news) → w.grownBy w' v.ownBlock → (v'.ownBlock = v.ownBlock ∨ v'.ownBlock = some w.heap.size) → K (a.put o.dst v') w') : o.wp P a w K Q := by
  obtain ⟨v', w', hrun, h2, h3, h4⟩ := run_append_any (P := P) w base t o.type e i z size bytes ht hi hz hsize hby hzs hsz v n xs hown S A m c news hr hlen h1 h63 hbytes hbase
  unfold Oper.wp execOp
  simp only [ho, resolve, invoke, builtin, Sem.run_bind, Sem.run_pure, Result.andThen_ok, List.map_toArray, List.map_cons, List.map_nil, hs, hx, hrun]
  exact h v' w' h2 h3 h4

end

def byt (l : List UInt8) (i : Nat) : Int := ((l.getD i 0).toNat : Int)
def byteV (b : UInt8) : Value := .int .u8 (b.toNat : Int)
def Bts (S : Nat → Prop) (w : World) (A : Option Addr) (l : List UInt8) : Prop := Cells S w A (l.map byteV)

section
variable {S S' : Nat → Prop} {w w' : World} {A : Option Addr} {l : List UInt8}
theorem Bts.at_ (h : Bts S w A l) (i : Nat) (hi : i < l.length) : ∃ ad, A = some ad ∧ ¬ S ad.block ∧ w.cell? (ad.add i) = some (.int .u8 (byt l i)) := by
  refine h i _ ?_
  simp [hi, byteV, byt]
theorem Bts.keep (h : Bts S w A l) (hk : Keep S' w w') (hS : ∀ k, k < w.heap.size → S' k → S k) : Bts S w' A l := Cells.keep h hk hS
theorem Bts.below (h : Bts S w A l) (hk : Below w.heap.size w w') : Bts S w' A l := Cells.below h hk
theorem Bts.mono (h : Bts S w A l) (hS : ∀ k, S' k → S k) : Bts S' w A l := Cells.mono h hS
end

theorem Bts.sub {S : Nat → Prop} {w : World} {A : Option Addr} {l : List UInt8} (h : Bts S w A l) (cap lo : Nat) (hc : l.length ≤ cap) : Bts S w (subA A cap lo 1) (l.drop lo) := by
  have := Cells.sub h cap lo 1 (by simpa using hc)
  unfold Bts
  rw [List.map_drop]
  simpa using this
theorem Bts.take {S : Nat → Prop} {w : World} {A : Option Addr} {l : List UInt8} (h : Bts S w A l) (n : Nat) : Bts S w A (l.take n) := by
  have := Cells.take h n
  unfold Bts
  rw [List.map_take]
  exact this

def bstr (l : List UInt8) : ByteArray := ⟨l.toArray⟩
theorem Bts.string {S : Nat → Prop} {P : Program} {w : World} {A : Option Addr} {l : List UInt8} (h : Bts S w A l) (src dst e : TypeId) (c : Nat) (hs : P.underlying src = some (.slice e)) (he : P.underlying e = some (.int .u8)) (hd : P.underlying dst = some .string) :
    (convert src dst (.slice A l.length c)).run P w = .ok (.string (bstr l)) w := by
  cases A with
  | none =>
    have hl : l = [] := by
      rcases l with _ | ⟨b, l⟩
      · rfl
      · obtain ⟨ad, e, _⟩ := h 0 _ rfl
        cases e
    subst hl
    exact run_convert_bytes_nil (P := P) (w := w) src e hs he _ c dst hd
  | some ad =>
    refine run_convert_bytes_back w src dst e ad c l hs he hd fun j hj => ?_
    obtain ⟨ad', e, _, hc⟩ := h.at_ j hj
    injection e with e
    subst e
    rw [hc, byt]
    simp [hj]

def isByte (v : Value) : Prop := ∃ b : UInt8, v = byteV b
def IsRow (k : IntKind) (w : World) (a : Option Addr) (len cap : Nat) (zs : List Int) : Prop :=
  (a = none ∧ len = 0 ∧ cap = 0 ∧ zs = []) ∨
  ∃ x, a = some x ∧ len ≤ cap ∧ cap ≤ maxLen ∧ zs.length = cap ∧ (∀ i, i < zs.length → w.cell? (x.add i) = some (.int k (zs.getD i 0))) ∧ ∀ n ∈ zs, (Lit.int k n).wf = true

theorem IsRow.bytes {w : World} {a : Option Addr} {len cap : Nat} {zs : List Int} (h : IsRow .u8 w a len cap zs) : ∃ l : List UInt8, len = l.length ∧ l.length ≤ cap ∧ cap ≤ maxLen ∧ Bts (fun b => w.heap.size ≤ b) w a l := by
  rcases h with ⟨rfl, rfl, rfl, rfl⟩ | ⟨x, rfl, h1, h2, h3, h4, h5⟩
  · exact ⟨[], rfl, Nat.le_refl _, by unfold maxLen; omega, Cells.nil _ _ _⟩
  · refine ⟨(zs.take len).map fun z => UInt8.ofNat z.toNat, by simp; omega, by simp; omega, h2, ?_⟩
    intro i u hu
    have hi : i < len := by
      have := (List.getElem?_eq_some_iff.1 hu).1
      simp at this
      omega
    have hc := h4 i (by omega)
    have hw := h5 (zs[i]'(by omega)) (List.getElem_mem _)
    have hbd : 0 ≤ zs[i]'(by omega) ∧ zs[i]'(by omega) ≤ 255 := by
      simp [Lit.wf, IntKind.min, IntKind.max, IntKind.bits, IntKind.signed] at hw
      omega
    refine ⟨x, rfl, ?_, ?_⟩
    · have := lt_of_cell hc; omega
    · rw [hc]
      simp [hi, show i < zs.length by omega] at hu
      rw [← hu]
      unfold byteV
      simp [show i < zs.length by omega, UInt8.toNat_ofNat']
      omega

def TapeAt (T : TypeId) (w : World) (tb : Nat) (A : Option Addr) (n c : Nat) (zs : Nat → Int) (k : Nat) : Prop :=
  Blk w tb T #[.slice A n c, .int .i64 (k : Int)] ∧ k ≤ n ∧ n ≤ 9223372036854775807 ∧
    ∀ i, i < n → ∃ ad, A = some ad ∧ ad.block < tb ∧ w.cell? (ad.add i) = some (.int .i64 (zs i))

def TapeOK (T : TypeId) (w : World) (tb : Nat) : Prop := ∃ A n c zs k, TapeAt T w tb A n c zs k

theorem TapeOK.keep {T : TypeId} {S : Nat → Prop} {w w' : World} {tb : Nat} (h : TapeOK T w tb) (hk : Keep S w w') (hS : ∀ k, k ≤ tb → ¬ S k) : TapeOK T w' tb := by
  obtain ⟨A, n, c, zs, k, hb, h1, h2, h3⟩ := h
  refine ⟨A, n, c, zs, k, hb.keep hk (hS _ (Nat.le_refl _)), h1, h2, fun i hi => ?_⟩
  obtain ⟨ad, e, hlt, hc⟩ := h3 i hi
  exact ⟨ad, e, hlt, (hk.cell (p := ad.add i) (by rw [block_of_add]; exact hS _ (by omega))).trans hc⟩

theorem IsRow.tape {T : TypeId} {w : World} {a : Option Addr} {len cap : Nat} {zs : List Int} (h : IsRow .i64 w a len cap zs) : TapeOK T (w.alloc (.cells #[.slice a len cap, .int .i64 0] T)) w.heap.size := by
  refine ⟨a, len, cap, fun i => zs.getD i 0, 0, Blk.new _ _ _, Nat.zero_le _, ?_, fun i hi => ?_⟩
  · rcases h with ⟨rfl, rfl, rfl, rfl⟩ | ⟨x, rfl, h1, h2, h3, h4, h5⟩
    · omega
    · unfold maxLen at h2; omega
  · rcases h with ⟨rfl, rfl, rfl, rfl⟩ | ⟨x, rfl, h1, h2, h3, h4, h5⟩
    · omega
    · have hc := h4 i (by omega)
      have hlt := lt_of_cell hc
      exact ⟨x, rfl, hlt, (World.cell?_alloc_lt w _ (x.add i) (by rw [block_of_add]; exact hlt)).trans hc⟩

end Go.Proofs.Ytpneplgaeiomkaa
