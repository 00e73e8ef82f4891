/- Ideal values: plain data, and how memory holds them. -/
import Derived.Test.YtbnmcdnkeipdhaaBase
set_option linter.all false
namespace Go.Proofs.Ytbnmcdnkeipdhaa
open Go.RowKit

/-- Data of one cell. -/
inductive Cell where
  | bool (b : Bool)
  | int (k : IntKind) (n : Int)
  | str (s : ByteArray)
  | list (xs : List (List Cell))
/-- A plain value: of one cell, or a struct. -/
inductive DV where
  | one (c : Cell)
  | agg (cs : List Cell)
/-- What a cell or a slot holds. -/
inductive CV where
  | u
  | d (c : Cell)
  | nil
  | ref (r off : Nat)
  | sl (r n sz : Nat)
  | el (r i j sz : Nat)
  | slp (r off n sz : Nat)
  | rp (cs : List CV)
  | clo (f : FuncId) (caps : List CV)
  | fn (p : List DV → Option Cell)
  | tape
/-- What a slot holds. -/
inductive SV where
  | u
  | one (c : CV)
  | agg (cs : List CV)
  | tup (vs : List SV)
/-- What a block of the call's own holds. -/
inductive VH where
  | gone
  | blk (t : TypeId) (cs : List CV)
  | arr (e : TypeId) (sz : Nat) (rows : List (List Cell))

mutual
def CV.has (r : Nat) : CV → Bool
  | .ref q _ => Nat.beq q r
  | .sl q _ _ => Nat.beq q r
  | .el q _ _ _ => Nat.beq q r
  | .slp q _ _ _ => Nat.beq q r
  | .rp cs => CV.hasL r cs
  | .clo _ cs => CV.hasL r cs
  | .u => false
  | .d _ => false
  | .nil => false
  | .fn _ => false
  | .tape => false
def CV.hasL (r : Nat) : List CV → Bool
  | [] => false
  | c :: cs => c.has r || CV.hasL r cs
end
theorem CV.hasL_get {r : Nat} {cs : List CV} {j : Nat} {c : CV} (h : cs[j]? = some c) (hc : c.has r = true) : CV.hasL r cs = true := by
  induction cs generalizing j with
  | nil => simp at h
  | cons x cs ih =>
    unfold CV.hasL
    cases j with
    | zero => simp at h; subst h; simp [hc]
    | succ j => simp at h; simp [ih h]
theorem CV.hasL_d (r : Nat) (cs : List Cell) : CV.hasL r (cs.map .d) = false := by
  induction cs with
  | nil => rfl
  | cons c cs ih => simp [CV.hasL, CV.has, ih]
mutual
def SV.has (r : Nat) : SV → Bool
  | .u => false
  | .one c => c.has r
  | .agg cs => CV.hasL r cs
  | .tup vs => SV.hasL r vs
def SV.hasL (r : Nat) : List SV → Bool
  | [] => false
  | c :: cs => c.has r || SV.hasL r cs
end
theorem SV.hasL_get {r : Nat} {cs : List SV} {j : Nat} {c : SV} (h : cs[j]? = some c) (hc : c.has r = true) : SV.hasL r cs = true := by
  induction cs generalizing j with
  | nil => simp at h
  | cons x cs ih =>
    unfold SV.hasL
    cases j with
    | zero => simp at h; subst h; simp [hc]
    | succ j => simp at h; simp [ih h]

/-- The value v, in the world w, holds the data c, in cells of Rd. -/
inductive RepCell (Rd : Nat → Nat → Prop) (w : World) : Value → Cell → Prop where
  | bool (b : Bool) : RepCell Rd w (.bool b) (.bool b)
  | int (k : IntKind) (n : Int) (h : (Lit.int k n).wf = true) : RepCell Rd w (.int k n) (.int k n)
  | str (s : ByteArray) (h : s.size ≤ maxLen) : RepCell Rd w (.string s) (.str s)
  | list (A : Option Addr) (cap : Nat) (xs : List (List Cell)) (sz : Nat) (vals : Nat → Nat → Value) (h0 : A = none → xs = []) (h1 : xs.length ≤ cap) (h2 : cap ≤ maxLen)
      (hsz : ∀ row ∈ xs, row.length = sz) (hc : ∀ i j, i < xs.length → j < sz → ∃ b o, A = some ⟨b, o, none⟩ ∧ Rd b (o + (i * sz + j)) ∧ w.cell? ⟨b, o + (i * sz + j), none⟩ = some (vals i j))
      (hr : ∀ i j row x, xs[i]? = some row → row[j]? = some x → RepCell Rd w (vals i j) x) : RepCell Rd w (.slice A xs.length cap) (.list xs)

theorem RepCell.mono {Rd Rd' : Nat → Nat → Prop} {w w' : World} (hR : ∀ b o, Rd b o → Rd' b o) (hw : ∀ b o, Rd b o → w'.cell? ⟨b, o, none⟩ = w.cell? ⟨b, o, none⟩) {v : Value} {c : Cell} (h : RepCell Rd w v c) : RepCell Rd' w' v c := by
  induction h with
  | bool b => exact .bool b
  | int k n h => exact .int k n h
  | str s h => exact .str s h
  | list A cap xs sz vals h0 h1 h2 hsz hc hr ih =>
    refine .list A cap xs sz vals h0 h1 h2 hsz (fun i j hi hj => ?_) ih
    obtain ⟨b, o, e, hrd, hcell⟩ := hc i j hi hj
    exact ⟨b, o, e, hR _ _ hrd, (hw _ _ hrd).trans hcell⟩
theorem RepCell.one {Rd : Nat → Nat → Prop} {w : World} {v : Value} {c : Cell} (h : RepCell Rd w v c) : v.oneCell' = true := by
  cases h <;> rfl

inductive RepDV (Rd : Nat → Nat → Prop) (w : World) : Value → DV → Prop where
  | one {v c} (h : RepCell Rd w v c) : RepDV Rd w v (.one c)
  | agg (vs : Array Value) (cs : List Cell) (hs : vs.size = cs.length) (h : ∀ (j : Nat) (v : Value) (c : Cell), vs[j]? = some v → cs[j]? = some c → RepCell Rd w v c) : RepDV Rd w (.agg vs) (.agg cs)
theorem RepDV.mono {Rd Rd' : Nat → Nat → Prop} {w w' : World} (hR : ∀ b o, Rd b o → Rd' b o) (hw : ∀ b o, Rd b o → w'.cell? ⟨b, o, none⟩ = w.cell? ⟨b, o, none⟩) {v : Value} {c : DV} (h : RepDV Rd w v c) : RepDV Rd' w' v c := by
  cases h with
  | one h => exact .one (h.mono hR hw)
  | agg vs cs hs h => exact .agg vs cs hs fun j v c h1 h2 => (h j v c h1 h2).mono hR hw

/-- The value of a scalar. -/
def Cell.sval : Cell → Option Value
  | .bool b => some (.bool b)
  | .int k n => some (.int k n)
  | .str s => some (.string s)
  | .list _ => none

/-- The cells Rd are there, with what they held. -/
structure Fut (Rd Rd' : Nat → Nat → Prop) (w w' : World) : Prop where
  rd : ∀ b o, Rd b o → Rd' b o
  cell : ∀ b o, Rd b o → w'.cell? ⟨b, o, none⟩ = w.cell? ⟨b, o, none⟩
theorem Fut.refl (Rd : Nat → Nat → Prop) (w : World) : Fut Rd Rd w w := ⟨fun _ _ h => h, fun _ _ _ => rfl⟩
theorem Fut.trans {R1 R2 R3 : Nat → Nat → Prop} {a b c : World} (h : Fut R1 R2 a b) (k : Fut R2 R3 b c) : Fut R1 R3 a c :=
  ⟨fun b o x => k.rd _ _ (h.rd _ _ x), fun b o x => (k.cell _ _ (h.rd _ _ x)).trans (h.cell _ _ x)⟩

/-- A function value that computes p. -/
def FnOK (P : Program) (Rd : Nat → Nat → Prop) (w : World) (v : Value) (p : List DV → Option Cell) : Prop :=
  ∃ (f : FuncId) (cap : Array Value), v = .func (.func f) #[] cap ∧ (∀ args w, (callFunc f args).run P w = .ok (.enter f args) w) ∧
    ∀ Rd' w', Fut Rd Rd' w w' → (∀ b o, Rd' b o → b < w'.heap.size) → ∀ (args : List DV) (vals : Array Value) (r : Cell), p args = some r → vals.size = args.length →
      (∀ (j : Nat) (v : Value) (d : DV), vals[j]? = some v → args[j]? = some d → RepDV Rd' w' v d) →
      Calls P f (vals ++ cap) w' fun e w'' => ∃ u, r.sval = some u ∧ e = .returned u ∧ Below w'.heap.size w' w''
theorem FnOK.mono {P : Program} {Rd Rd' : Nat → Nat → Prop} {w w' : World} {v : Value} {p : List DV → Option Cell} (h : FnOK P Rd w v p) (hf : Fut Rd Rd' w w') : FnOK P Rd' w' v p := by
  obtain ⟨f, cap, e, he, hc⟩ := h
  exact ⟨f, cap, e, he, fun R2 w2 h2 => hc R2 w2 (hf.trans h2)⟩

/-- What is known beside the plain state. -/
structure Gh where
  β : Nat → Option Nat
  κ : Nat → Nat
  Rd : Nat → Nat → Prop
  tp : Option Nat
  tl : Option Addr × Nat × Nat × (Nat → Int)

inductive RepCV (P : Program) (g : Gh) (w : World) : Value → CV → Prop where
  | u {v} (h : v.oneCell' = true) : RepCV P g w v .u
  | d {v c} (h : RepCell g.Rd w v c) : RepCV P g w v (.d c)
  | nil : RepCV P g w (.slice none 0 0) .nil
  | ref {r b} (off : Nat) (h : g.β r = some b) : RepCV P g w (.pointer (some ⟨b, off, none⟩)) (.ref r off)
  | slv {r} (sz : Nat) (h : g.β r = none) : RepCV P g w (.slice none 0 0) (.sl r 0 sz)
  | sl {r b} (n sz : Nat) (h : g.β r = some b) (h1 : n ≤ g.κ r) (h2 : g.κ r ≤ maxLen) : RepCV P g w (.slice (some ⟨b, 0, none⟩) n (g.κ r)) (.sl r n sz)
  | el {r b} (i j sz : Nat) (h : g.β r = some b) : RepCV P g w (.pointer (some ⟨b, i * sz + j, none⟩)) (.el r i j sz)
  | slp {r b} (off n sz o c : Nat) (h : g.β r = some b) (ho : n = 0 ∨ o = off * sz) : RepCV P g w (.slice (some ⟨b, o, none⟩) n c) (.slp r off n sz)
  | slpv {r} (off sz : Nat) : RepCV P g w (.slice none 0 0) (.slp r off 0 sz)
  | rp (b o : Nat) (cs : List CV) (vals : Nat → Value) (h : ∀ j c, cs[j]? = some c → g.Rd b (o + j) ∧ w.cell? ⟨b, o + j, none⟩ = some (vals j)) (hr : ∀ j c, cs[j]? = some c → RepCV P g w (vals j) c) :
      RepCV P g w (.pointer (some ⟨b, o, none⟩)) (.rp cs)
  | clo (f : FuncId) (vs : Array Value) (cs : List CV) (hs : vs.size = cs.length) (h : ∀ (j : Nat) (v : Value) (c : CV), vs[j]? = some v → cs[j]? = some c → RepCV P g w v c) : RepCV P g w (.func (.func f) #[] vs) (.clo f cs)
  | fn {v p} (h : FnOK P g.Rd w v p) : RepCV P g w v (.fn p)
  | tape {tb} (h : g.tp = some tb) : RepCV P g w (.pointer (some ⟨tb, 0, none⟩)) .tape

theorem FnOK.oneCell {P : Program} {Rd : Nat → Nat → Prop} {w : World} {v : Value} {p : List DV → Option Cell} (h : FnOK P Rd w v p) : v.oneCell' = true := by
  obtain ⟨f, cap, rfl, _⟩ := h; rfl
theorem RepCV.one {P : Program} {g : Gh} {w : World} {v : Value} {c : CV} (h : RepCV P g w v c) : v.oneCell' = true := by
  cases h with
  | u h => exact h
  | d h => exact h.one
  | fn h => exact h.oneCell
  | _ => rfl

/-- The second ghost is as the first, for the names that c has. -/
theorem RepCV.move {P : Program} {g g' : Gh} {w w' : World} {v : Value} {c : CV} (h : RepCV P g w v c) (hf : Fut g.Rd g'.Rd w w') (ht : ∀ tb, g.tp = some tb → g'.tp = some tb)
    (hb : ∀ r, c.has r = true → g'.β r = g.β r ∧ g'.κ r = g.κ r) : RepCV P g' w' v c := by
  induction h with
  | u h => exact .u h
  | d h => exact .d (h.mono hf.rd hf.cell)
  | nil => exact .nil
  | @ref r b off h => exact .ref off ((hb r (by simp [CV.has])).1.trans h)
  | @slv r sz h => exact .slv sz ((hb r (by simp [CV.has])).1.trans h)
  | @sl r b n sz h h1 h2 =>
    obtain ⟨e1, e2⟩ := hb r (by simp [CV.has])
    have := RepCV.sl (P := P) (g := g') (w := w') (r := r) (b := b) n sz (e1.trans h) (by rw [e2]; exact h1) (by rw [e2]; exact h2)
    rwa [e2] at this
  | @el r b i j sz h => exact .el i j sz ((hb r (by simp [CV.has])).1.trans h)
  | @slp r b off n sz o c h ho => exact .slp off n sz o c ((hb r (by simp [CV.has])).1.trans h) ho
  | slpv off sz => exact .slpv off sz
  | rp b o cs vals h hr ih =>
    refine .rp b o cs vals (fun j c hj => ?_) (fun j c hj => ih j c hj (fun r hc => hb r ?_))
    · obtain ⟨h1, h2⟩ := h j c hj
      exact ⟨hf.rd _ _ h1, (hf.cell _ _ h1).trans h2⟩
    · simp only [CV.has]; exact CV.hasL_get hj hc
  | clo f vs cs hs h ih => exact .clo f vs cs hs fun j v c h1 h2 => ih j v c h1 h2 fun r hc => hb r (by simp only [CV.has]; exact CV.hasL_get h2 hc)
  | fn h => exact .fn (h.mono hf)
  | tape h => exact .tape (ht _ h)

mutual
/-- There is no tape in it. -/
def CV.nt : CV → Bool
  | .tape => false
  | .rp cs => CV.ntL cs
  | .clo _ cs => CV.ntL cs
  | .u => true
  | .d _ => true
  | .nil => true
  | .fn _ => true
  | .ref _ _ => true
  | .sl _ _ _ => true
  | .el _ _ _ _ => true
  | .slp _ _ _ _ => true
def CV.ntL : List CV → Bool
  | [] => true
  | c :: cs => c.nt && CV.ntL cs
end
theorem CV.ntL_get {cs : List CV} (h : CV.ntL cs = true) {j : Nat} {c : CV} (hj : cs[j]? = some c) : c.nt = true := by
  induction cs generalizing j with
  | nil => simp at hj
  | cons x cs ih =>
    simp [CV.ntL] at h
    cases j with
    | zero => simp at hj; subst hj; exact h.1
    | succ j => exact ih h.2 (by simpa using hj)
theorem RepCV.moveN {P : Program} {g g' : Gh} {w w' : World} {v : Value} {c : CV} (h : RepCV P g w v c) (hf : Fut g.Rd g'.Rd w w') (hn : c.nt = true)
    (hb : ∀ r, c.has r = true → g'.β r = g.β r ∧ g'.κ r = g.κ r) : RepCV P g' w' v c := by
  induction h with
  | u h => exact .u h
  | d h => exact .d (h.mono hf.rd hf.cell)
  | nil => exact .nil
  | @ref r b off h => exact .ref off ((hb r (by simp [CV.has])).1.trans h)
  | @slv r sz h => exact .slv sz ((hb r (by simp [CV.has])).1.trans h)
  | @sl r b n sz h h1 h2 =>
    obtain ⟨e1, e2⟩ := hb r (by simp [CV.has])
    have := RepCV.sl (P := P) (g := g') (w := w') (r := r) (b := b) n sz (e1.trans h) (by rw [e2]; exact h1) (by rw [e2]; exact h2)
    rwa [e2] at this
  | @el r b i j sz h => exact .el i j sz ((hb r (by simp [CV.has])).1.trans h)
  | @slp r b off n sz o c h ho => exact .slp off n sz o c ((hb r (by simp [CV.has])).1.trans h) ho
  | slpv off sz => exact .slpv off sz
  | rp b o cs vals h hr ih =>
    refine .rp b o cs vals (fun j c hj => ?_) (fun j c hj => ih j c hj (CV.ntL_get (by simpa [CV.nt] using hn) hj) (fun r hc => hb r ?_))
    · obtain ⟨h1, h2⟩ := h j c hj
      exact ⟨hf.rd _ _ h1, (hf.cell _ _ h1).trans h2⟩
    · simp only [CV.has]; exact CV.hasL_get hj hc
  | clo f vs cs hs h ih => exact .clo f vs cs hs fun j v c h1 h2 => ih j v c h1 h2 (CV.ntL_get (by simpa [CV.nt] using hn) h2) fun r hc => hb r (by simp only [CV.has]; exact CV.hasL_get h2 hc)
  | fn h => exact .fn (h.mono hf)
  | tape h => cases hn
inductive RepSV (P : Program) (g : Gh) (w : World) : Value → SV → Prop where
  | u (v : Value) : RepSV P g w v .u
  | one {v c} (h : RepCV P g w v c) : RepSV P g w v (.one c)
  | agg (vs : Array Value) (cs : List CV) (hs : vs.size = cs.length) (h : ∀ (j : Nat) (v : Value) (c : CV), vs[j]? = some v → cs[j]? = some c → RepCV P g w v c) : RepSV P g w (.agg vs) (.agg cs)
  | tup (vs : Array Value) (ss : List SV) (hs : vs.size = ss.length) (h : ∀ (j : Nat) (v : Value) (c : SV), vs[j]? = some v → ss[j]? = some c → RepSV P g w v c) : RepSV P g w (.tuple vs) (.tup ss)
theorem RepSV.move {P : Program} {g g' : Gh} {w w' : World} {v : Value} {c : SV} (h : RepSV P g w v c) (hf : Fut g.Rd g'.Rd w w') (ht : ∀ tb, g.tp = some tb → g'.tp = some tb)
    (hb : ∀ r, c.has r = true → g'.β r = g.β r ∧ g'.κ r = g.κ r) : RepSV P g' w' v c := by
  induction h with
  | u v => exact .u v
  | one h => exact .one (h.move hf ht fun r hr => hb r (by simpa only [SV.has] using hr))
  | agg vs cs hs h => exact .agg vs cs hs fun j v c h1 h2 => (h j v c h1 h2).move hf ht fun r hr => hb r (by simp only [SV.has]; exact CV.hasL_get h2 hr)
  | tup vs ss hs h ih => exact .tup vs ss hs fun j v c h1 h2 => ih j v c h1 h2 fun r hr => hb r (by simp only [SV.has]; exact SV.hasL_get h2 hr)
/-! plain values -/
def CV.pl : CV → Bool
  | .d _ => true
  | _ => false
def plL : List CV → Bool
  | [] => true
  | c :: l => c.pl && plL l
mutual
def SV.pl : SV → Bool
  | .one c => c.pl
  | .agg cs => plL cs
  | .tup vs => SV.plS vs
  | .u => false
def SV.plS : List SV → Bool
  | [] => true
  | c :: l => c.pl && SV.plS l
end
def Cell.sc : Cell → Bool
  | .list _ => false
  | .bool _ => true
  | .int _ _ => true
  | .str _ => true
def CV.sc : CV → Bool
  | .d c => c.sc
  | _ => false
def scL : List CV → Bool
  | [] => true
  | c :: l => c.sc && scL l
mutual
def SV.sc : SV → Bool
  | .one c => c.sc
  | .agg cs => scL cs
  | .tup vs => SV.scS vs
  | .u => false
def SV.scS : List SV → Bool
  | [] => true
  | c :: l => c.sc && SV.scS l
end
theorem plL_get {cs : List CV} (h : plL cs = true) {j : Nat} {c : CV} (hj : cs[j]? = some c) : c.pl = true := by
  induction cs generalizing j with
  | nil => simp at hj
  | cons x cs ih =>
    simp [plL] at h
    cases j with
    | zero => simp at hj; subst hj; exact h.1
    | succ j => exact ih h.2 (by simpa using hj)
theorem SV.plS_get {cs : List SV} (h : SV.plS cs = true) {j : Nat} {c : SV} (hj : cs[j]? = some c) : c.pl = true := by
  induction cs generalizing j with
  | nil => simp at hj
  | cons x cs ih =>
    simp [SV.plS] at h
    cases j with
    | zero => simp at hj; subst hj; exact h.1
    | succ j => exact ih h.2 (by simpa using hj)
theorem scL_get {cs : List CV} (h : scL cs = true) {j : Nat} {c : CV} (hj : cs[j]? = some c) : c.sc = true := by
  induction cs generalizing j with
  | nil => simp at hj
  | cons x cs ih =>
    simp [scL] at h
    cases j with
    | zero => simp at hj; subst hj; exact h.1
    | succ j => exact ih h.2 (by simpa using hj)
theorem SV.scS_get {cs : List SV} (h : SV.scS cs = true) {j : Nat} {c : SV} (hj : cs[j]? = some c) : c.sc = true := by
  induction cs generalizing j with
  | nil => simp at hj
  | cons x cs ih =>
    simp [SV.scS] at h
    cases j with
    | zero => simp at hj; subst hj; exact h.1
    | succ j => exact ih h.2 (by simpa using hj)
theorem RepCell.scal {Rd Rd' : Nat → Nat → Prop} {w w' : World} {v : Value} {c : Cell} (h : RepCell Rd w v c) (hs : c.sc = true) : RepCell Rd' w' v c := by
  cases h with
  | bool b => exact .bool b
  | int k n h => exact .int k n h
  | str s h => exact .str s h
  | list => cases hs
theorem RepCell.sval {Rd : Nat → Nat → Prop} {w : World} {v u : Value} {c : Cell} (h : RepCell Rd w v c) (hs : c.sval = some u) : v = u := by
  cases h <;> simp [Cell.sval] at hs <;> exact hs
theorem RepSV.plain {P : Program} {g g' : Gh} {w w' : World} {v : Value} {c : SV} (h : RepSV P g w v c) (hp : c.pl = true) (hf : Fut g.Rd g'.Rd w w') : RepSV P g' w' v c := by
  induction h with
  | u v => cases hp
  | @one v c h =>
    cases c with
    | d c => cases h; rename_i h; exact .one (.d (h.mono hf.rd hf.cell))
    | _ => cases hp
  | agg vs cs hs h =>
    refine .agg vs cs hs fun j v c h1 h2 => ?_
    have hc := plL_get hp h2
    have := h j v c h1 h2
    cases c with
    | d c => cases this; rename_i h; exact .d (h.mono hf.rd hf.cell)
    | _ => cases hc
  | tup vs ss hs h ih => exact .tup vs ss hs fun j v c h1 h2 => ih j v c h1 h2 (SV.plS_get hp h2)
theorem RepSV.scal {P : Program} {g g' : Gh} {w w' : World} {v : Value} {c : SV} (h : RepSV P g w v c) (hp : c.sc = true) : RepSV P g' w' v c := by
  induction h with
  | u v => cases hp
  | @one v c h =>
    cases c with
    | d c => cases h; rename_i h; exact .one (.d (h.scal hp))
    | _ => cases hp
  | agg vs cs hs h =>
    refine .agg vs cs hs fun j v c h1 h2 => ?_
    have hc := scL_get hp h2
    have := h j v c h1 h2
    cases c with
    | d c => cases this; rename_i h; exact .d (h.scal hc)
    | _ => cases hc
  | tup vs ss hs h ih => exact .tup vs ss hs fun j v c h1 h2 => ih j v c h1 h2 (SV.scS_get hp h2)
end Go.Proofs.Ytbnmcdnkeipdhaa
