/- Ideal states, and what a state of the machine has to do with them. -/
import Derived.Test.YtbnmcdnkeipdhaaIva
set_option linter.all false
namespace Go.Proofs.Ytbnmcdnkeipdhaa
open Go.RowKit

structure St where
  F : List (Nat × SV)
  H : List (Nat × VH)
def getF : List (Nat × SV) → Nat → SV
  | [], _ => .u
  | p :: l, x => bif Nat.beq p.1 x then p.2 else getF l x
def getH : List (Nat × VH) → Nat → VH
  | [], _ => .gone
  | p :: l, x => bif Nat.beq p.1 x then p.2 else getH l x
def St.put (s : St) (x : Nat) (v : SV) : St := ⟨(x, v) :: s.F, s.H⟩
def St.putO (s : St) (x : Option Nat) (v : SV) : St := match x with | some x => s.put x v | none => s
def St.hput (s : St) (r : Nat) (h : VH) : St := ⟨s.F, (r, h) :: s.H⟩
def VH.has (r : Nat) : VH → Bool
  | .blk _ cs => CV.hasL r cs
  | .gone => false
  | .arr _ _ _ => false
def VH.live : VH → Bool
  | .gone => false
  | .blk _ _ => true
  | .arr _ _ _ => true
def allF (r : Nat) : List (Nat × SV) → Bool
  | [] => true
  | p :: l => !p.2.has r && allF r l
def allH (r : Nat) : List (Nat × VH) → Bool
  | [] => true
  | p :: l => !p.2.has r && allH r l
/-- The name r is not in use. -/
def St.fresh (s : St) (r : Nat) : Bool := allF r s.F && (allH r s.H && !(getH s.H r).live)
theorem beq_eq {a b : Nat} : Nat.beq a b = decide (a = b) := by
  by_cases h : a = b
  · subst h; simp
  · rw [decide_eq_false h]
    cases hb : Nat.beq a b with
    | false => rfl
    | true => exact absurd (Nat.eq_of_beq_eq_true hb) h
theorem get_put (s : St) (x y : Nat) (v : SV) : getF (s.put x v).F y = if x = y then v else getF s.F y := by
  simp only [St.put, getF, beq_eq]
  by_cases h : x = y <;> simp [h]
theorem hget_put (H : List (Nat × VH)) (x y : Nat) (v : VH) : getH ((x, v) :: H) y = if x = y then v else getH H y := by
  simp only [getH, beq_eq]
  by_cases h : x = y <;> simp [h]
theorem allF_get {r : Nat} {F : List (Nat × SV)} (h : allF r F = true) (x : Nat) : (getF F x).has r = false := by
  induction F with
  | nil => rfl
  | cons p F ih =>
    simp [allF] at h
    simp only [getF, beq_eq]
    by_cases e : p.1 = x
    · simp [e, h.1]
    · simp [e, ih h.2]
theorem allH_get {r : Nat} {F : List (Nat × VH)} (h : allH r F = true) (x : Nat) : (getH F x).has r = false := by
  induction F with
  | nil => rfl
  | cons p F ih =>
    simp [allH] at h
    simp only [getH, beq_eq]
    by_cases e : p.1 = x
    · simp [e, h.1]
    · simp [e, ih h.2]

def HeapOK (P : Program) (g : Gh) (w : World) (r : Nat) : VH → Prop
  | .gone => True
  | .blk t cs => ∃ b vals, g.β r = some b ∧ Blk w b t vals ∧ vals.size = cs.length ∧ ∀ (j : Nat) (v : Value) (c : CV), vals[j]? = some v → cs[j]? = some c → RepCV P g w v c
  | .arr e sz rows => (∀ row ∈ rows, row.length = sz) ∧ ((g.β r = none ∧ rows = []) ∨ ∃ b vals, g.β r = some b ∧ Blk w b e vals ∧ vals.size = g.κ r * sz ∧ rows.length ≤ g.κ r ∧ g.κ r ≤ maxLen ∧
      ∀ (i j : Nat) (row : List Cell) (x : Cell), rows[i]? = some row → row[j]? = some x → ∃ u, vals[i * sz + j]? = some u ∧ RepCell g.Rd w u x)

/-- The tape: its list of numbers is tl. -/
def TapeR (T : TypeId) (tl : Option Addr × Nat × Nat × (Nat → Int)) (Rd : Nat → Nat → Prop) (w : World) (tb : Nat) : Prop :=
  (∃ k : Nat, Blk w tb T #[.slice tl.1 tl.2.1 tl.2.2.1, .int .i64 (k : Int)] ∧ k ≤ tl.2.1) ∧ tl.2.1 ≤ 9223372036854775807 ∧
    ∀ i, i < tl.2.1 → ∃ b o, tl.1 = some ⟨b, o, none⟩ ∧ Rd b (o + i) ∧ w.cell? ⟨b, o + i, none⟩ = some (.int .i64 (tl.2.2.2 i))
theorem TapeR.keep {T : TypeId} {tl : Option Addr × Nat × Nat × (Nat → Int)} {Rd Rd' : Nat → Nat → Prop} {w w' : World} {tb : Nat} (h : TapeR T tl Rd w tb) (hf : Fut Rd Rd' w w') (hb : w'.heap[tb]? = w.heap[tb]?) : TapeR T tl Rd' w' tb := by
  obtain ⟨⟨k, h1, h2⟩, h3, h4⟩ := h
  refine ⟨⟨k, hb.trans h1, h2⟩, h3, fun i hi => ?_⟩
  obtain ⟨b, o, e, hr, hc⟩ := h4 i hi
  exact ⟨b, o, e, hf.rd _ _ hr, (hf.cell _ _ hr).trans hc⟩

def live (H : List (Nat × VH)) (r : Nat) : Prop := (getH H r).live = true
/-- What may be changed among the blocks that were there. -/
def Mut (tp : Option Nat) (n : Nat) (k : Nat) : Prop := tp = some k ∨ n ≤ k

/-- Where a call begins. -/
structure Org where
  w : World
  Rd : Nat → Nat → Prop
  tp : Option Nat
  tl : Option Addr × Nat × Nat × (Nat → Int)
abbrev Org.heap (o : Org) : Array Obj := o.w.heap
structure OrgOK (w0 : Org) (g : Gh) : Prop where
  rd0 : ∀ b o, w0.Rd b o → g.Rd b o
  new0 : ∀ b o, g.Rd b o → w0.Rd b o ∨ w0.heap.size ≤ b
  tp0 : ∀ tb, w0.tp = some tb → g.tp = some tb ∧ g.tl = w0.tl
  tpo : ∀ tb, g.tp = some tb → w0.tp = some tb ∨ w0.heap.size ≤ tb
structure GI (T : TypeId) (w0 : Org) (g : Gh) (H : List (Nat × VH)) (w : World) : Prop where
  inj : ∀ r r' b, live H r → live H r' → g.β r = some b → g.β r' = some b → r = r'
  bd : ∀ r b, live H r → g.β r = some b → w0.heap.size ≤ b ∧ b < w.heap.size ∧ g.tp ≠ some b
  rd : ∀ b o, g.Rd b o → b < w.heap.size ∧ g.tp ≠ some b ∧ ∀ r, live H r → g.β r ≠ some b
  keep : Keep (Mut w0.tp w0.heap.size) w0.w w
  tape : ∀ tb, g.tp = some tb → tb < w.heap.size ∧ TapeR T g.tl g.Rd w tb
  org : OrgOK w0 g

theorem GI.sz {T : TypeId} {w0 : Org} {g : Gh} {H : List (Nat × VH)} {w : World} (h : GI T w0 g H w) : w0.heap.size ≤ w.heap.size := h.keep.size
structure Sim (P : Program) (T : TypeId) (N : Nat) (w0 : Org) (g : Gh) (s : St) (a : Act) (w : World) : Prop where
  gi : GI T w0 g s.H w
  dn : a.defers = []
  nt : a.tmps.size = N
  hF : ∀ x, RepSV P g w (a.tmps.getD x undef) (getF s.F x)
  hH : ∀ r, HeapOK P g w r (getH s.H r)

/-- What a step that stores into nothing leaves. -/
structure Ext (T : TypeId) (g g' : Gh) (w w' : World) : Prop where
  β : g'.β = g.β
  κ : g'.κ = g.κ
  tp : g'.tp = g.tp
  tl : g'.tl = g.tl
  rd : ∀ b o, g.Rd b o → g'.Rd b o
  new : ∀ b o, g'.Rd b o → g.Rd b o ∨ (w.heap.size ≤ b ∧ b < w'.heap.size)
  keep : Keep (Mut g.tp w.heap.size) w w'
  tape : ∀ tb, g.tp = some tb → TapeR T g.tl g'.Rd w' tb

section
variable {P : Program} {T : TypeId} {N : Nat} {w0 : Org} {g g' : Gh} {s : St} {a : Act} {w w' : World}
theorem GI.fut (h : GI T w0 g s.H w) (e : Ext T g g' w w') : Fut g.Rd g'.Rd w w' :=
  ⟨e.rd, fun b o hr => e.keep.cell (p := ⟨b, o, none⟩) fun hm => by
    obtain ⟨h1, h2, _⟩ := h.rd b o hr
    rcases hm with hm | hm
    · exact h2 hm
    · simp at hm; omega⟩
theorem mut_mono {tp : Option Nat} {m n k : Nat} (hmn : m ≤ n) (h : Mut tp n k) : Mut tp m k := h.imp id fun h => Nat.le_trans hmn h
theorem HeapOK.move {r : Nat} {c : VH} (h : HeapOK P g w r c) (hf : Fut g.Rd g'.Rd w w') (ht : ∀ tb, g.tp = some tb → g'.tp = some tb)
    (hb : ∀ q, c.has q = true ∨ q = r → g'.β q = g.β q ∧ g'.κ q = g.κ q) (hbl : ∀ b, c.live = true → g.β r = some b → w'.heap[b]? = w.heap[b]?) : HeapOK P g' w' r c := by
  cases c with
  | gone => trivial
  | blk t cs =>
    obtain ⟨b, vals, h1, h2, h3, h4⟩ := h
    exact ⟨b, vals, (hb r (.inr rfl)).1.trans h1, (hbl b rfl h1).trans h2, h3, fun j v c hv hc => (h4 j v c hv hc).move hf ht fun q hq => hb q (.inl (by simp only [VH.has]; exact CV.hasL_get hc hq))⟩
  | arr e sz rows =>
    obtain ⟨h0, h⟩ := h
    obtain ⟨e1, e2⟩ := hb r (.inr rfl)
    refine ⟨h0, ?_⟩
    rcases h with ⟨h1, h2⟩ | ⟨b, vals, h1, h2, h3, h4, h5, h6⟩
    · exact .inl ⟨e1.trans h1, h2⟩
    · refine .inr ⟨b, vals, e1.trans h1, (hbl b rfl h1).trans h2, by rw [e2]; exact h3, by rw [e2]; exact h4, by rw [e2]; exact h5, fun i j row x hi hj => ?_⟩
      obtain ⟨u, hu, hr⟩ := h6 i j row x hi hj
      exact ⟨u, hu, hr.mono hf.rd hf.cell⟩
theorem Sim.ext (h : Sim P T N w0 g s a w) (e : Ext T g g' w w') : Sim P T N w0 g' s a w' := by
  have hf := h.gi.fut e
  have hs := e.keep.size
  have hsz := h.gi.keep.size
  have same : ∀ r, g'.β r = g.β r ∧ g'.κ r = g.κ r := fun r => ⟨by rw [e.β], by rw [e.κ]⟩
  have ht : ∀ tb, g.tp = some tb → g'.tp = some tb := fun tb h => by rw [e.tp]; exact h
  have hz : w0.heap.size ≤ w.heap.size := hsz
  refine ⟨⟨fun r r' b h1 h2 h3 h4 => ?_, fun r b h1 h2 => ?_, fun b o hr => ?_, ?_, fun tb htb => ?_, ⟨fun b o hr => e.rd _ _ (h.gi.org.rd0 _ _ hr), fun b o hr => ?_, fun tb htb => ?_, fun tb htb => h.gi.org.tpo tb (by rw [← e.tp]; exact htb)⟩⟩, h.dn, h.nt, fun x => (h.hF x).move hf ht fun r _ => same r, fun r => (h.hH r).move hf ht (fun q _ => same q) fun b hl hb => ?_⟩
  · rw [e.β] at h3 h4; exact h.gi.inj r r' b h1 h2 h3 h4
  · rw [e.β] at h2
    rw [e.tp]
    obtain ⟨a1, a2, a3⟩ := h.gi.bd r b h1 h2
    exact ⟨a1, by omega, a3⟩
  · rw [e.tp, e.β]
    rcases e.new b o hr with ho | ⟨h1, h2⟩
    · obtain ⟨a1, a2, a3⟩ := h.gi.rd b o ho
      exact ⟨by omega, a2, a3⟩
    · refine ⟨h2, fun h3 => ?_, fun r h3 h4 => ?_⟩
      · have := (h.gi.tape b h3).1; omega
      · have := (h.gi.bd r b h3 h4).2.1; omega
  · refine h.gi.keep.trans (e.keep.mono fun k hk => ?_)
    rcases hk with hk | hk
    · exact h.gi.org.tpo k hk
    · exact .inr (by omega)
  · rw [e.tp] at htb
    rw [e.tl]
    exact ⟨by have := (h.gi.tape tb htb).1; omega, e.tape tb htb⟩
  · rcases e.new b o hr with ho | ⟨h1, h2⟩
    · exact h.gi.org.new0 b o ho
    · exact .inr (by omega)
  · rw [e.tp, e.tl]; exact h.gi.org.tp0 tb htb
  · obtain ⟨_, a2, a3⟩ := h.gi.bd r b hl hb
    exact e.keep.block b fun hm => by
      rcases hm with hm | hm
      · exact a3 hm
      · omega
theorem Sim.put (h : Sim P T N w0 g s a w) {x : Nat} {v : Value} {sv : SV} (hx : x < N) (hv : RepSV P g w v sv) : Sim P T N w0 g (s.put x sv) (a.put (some x) v) w := by
  refine ⟨h.gi, h.dn, by simp [Act.put, h.nt], fun y => ?_, h.hH⟩
  rw [get_put]
  have hx' : x < a.tmps.size := by rw [h.nt]; exact hx
  by_cases e : x = y
  · subst e
    simpa [Act.put, hx'] using hv
  · simp only [e, if_false]
    have := h.hF y
    simpa [Act.put, Array.getElem?_setIfInBounds_ne e] using this
theorem Sim.putZ (h : Sim P T N w0 g s a w) {x : Nat} (hx : x < N) : Sim P T N w0 g (s.put x (.tup [])) (a.put (some x) undef) w := h.put hx (.tup #[] [] rfl (by simp))
theorem Sim.putU (h : Sim P T N w0 g s a w) {x : Nat} (hx : x < N) (v : Value) : Sim P T N w0 g (s.put x .u) (a.put (some x) v) w := h.put hx (.u v)
end
end Go.Proofs.Ytbnmcdnkeipdhaa
