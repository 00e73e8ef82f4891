/- Operations that make memory or store, on ideal states. -/
import Derived.Test.YtbnmcdnkeipdhaaIve
import Derived.Laws.CopyRow
import Derived.Great.BuildSlice
set_option linter.all false
namespace Go.Proofs.Ytbnmcdnkeipdhaa
open Go.RowKit

/-- Whatever the operation does, from a state like s, it leaves a state of R. -/
def OpR (P : Program) (T : TypeId) (N : Nat) (w0 : Org) (s : St) (o : Oper) (R : St → Prop) : Prop :=
  ∀ g a w, Sim P T N w0 g s a w → ∀ (K : Act → World → Prop) (Q : Exit → Act → World → Prop), (∀ g' s' a' w', R s' → Sim P T N w0 g' s' a' w' → K a' w') → o.wp P a w K Q

def updO (f : Nat → Option Nat) (d : Nat) (b : Option Nat) : Nat → Option Nat := fun r => if r = d then b else f r
def updN (f : Nat → Nat) (d : Nat) (b : Nat) : Nat → Nat := fun r => if r = d then b else f r
def Gh.new (g : Gh) (d : Nat) (b : Option Nat) (k : Nat) : Gh := ⟨updO g.β d b, updN g.κ d k, g.Rd, g.tp, g.tl⟩

section
variable {P : Program} {T : TypeId} {N : Nat} {w0 : Org} {g g' : Gh} {s : St} {a : Act} {w w' : World} {o : Oper}
theorem OpQ.r {post : SV → Prop} (h : OpQ P T N w0 s o post) (hd : ∀ d, o.dst = some d → d < N) : OpR P T N w0 s o (fun s' => ∃ v, post v ∧ s' = s.putO o.dst v) := by
  intro g a w hs K Q hK
  refine h g a w hs K Q fun v w' ⟨g', sv, h1, h2, h3⟩ => ?_
  have h4 := hs.ext h2
  cases hdst : o.dst with
  | none => exact hK g' _ _ _ ⟨sv, h1, rfl⟩ (by rw [hdst]; exact h4)
  | some d => exact hK g' _ _ _ ⟨sv, h1, rfl⟩ (by rw [hdst]; exact h4.put (hd d hdst) h3)

theorem St.fresh_spec {d : Nat} (h : s.fresh d = true) : (∀ x, (getF s.F x).has d = false) ∧ (∀ r, (getH s.H r).has d = false) ∧ (getH s.H d).live = false := by
  unfold St.fresh at h
  simp at h
  exact ⟨fun x => allF_get h.1 x, fun r => allH_get h.2.1 r, h.2.2⟩

def goneH (r0 : Option Nat) (H : List (Nat × VH)) : List (Nat × VH) := match r0 with | some r => (r, VH.gone) :: H | none => H
theorem goneH_get (r0 : Option Nat) (H : List (Nat × VH)) (r : Nat) : getH (goneH r0 H) r = if r0 = some r then .gone else getH H r := by
  cases r0 with
  | none => simp [goneH]
  | some q =>
    simp only [goneH, hget_put]
    by_cases e : q = r <;> simp [e]
theorem ccells_has (r : Nat) (l : List Value) : CV.hasL r (l.map ccell) = false := by
  induction l with
  | nil => rfl
  | cons v l ih =>
    simp only [List.map_cons, CV.hasL, ih, Bool.or_false]
    unfold ccell
    split
    · rfl
    · rename_i k n; cases (Lit.int k n).wf <;> rfl
    · rename_i s; cases Nat.ble s.size 1000000 <;> rfl
    · rfl
    · rfl
theorem cval_has (r : Nat) (v : Value) : (cval v).has r = false := by
  unfold cval
  split
  · rfl
  · rename_i k n; cases (Lit.int k n).wf <;> rfl
  · rename_i s; cases Nat.ble s.size 1000000 <;> rfl
  · rfl
  · rename_i vs
    cases vs.all (·.oneCell')
    · rfl
    · exact ccells_has r _
  · rfl
theorem ev_has {d : Nat} (h : s.fresh d = true) (x : Operand) : (s.ev x).has d = false := by
  cases x with
  | tmp t => exact (St.fresh_spec h).1 t
  | const v => exact cval_has d v
  | func f => rfl
  | global g => rfl
theorem cells_has {sv : SV} {d : Nat} {cs : List CV} (h : sv.has d = false) (hc : sv.cells = some cs) : CV.hasL d cs = false := by
  cases sv with
  | one c => simp [SV.cells] at hc; subst hc; simpa [CV.hasL, SV.has] using h
  | agg cs' => simp [SV.cells] at hc; subst hc; simpa [SV.has] using h
  | _ => cases hc
theorem hasL_ne {d : Nat} {cs : List CV} (h : CV.hasL d cs = false) {j : Nat} {c : CV} (hj : cs[j]? = some c) {r : Nat} (hr : c.has r = true) : r ≠ d := fun e => by
  subst e
  rw [CV.hasL_get hj hr] at h
  cases h

/-- The name d is given a block of its own; what the block ob held may have been changed. -/
theorem Sim.newG (h : Sim P T N w0 g s a w) {d : Nat} (f1 : ∀ x, (getF s.F x).has d = false) (f2 : ∀ r, (getH s.H r).has d = false) {r0 : Option Nat} {ob nb : Option Nat} {k : Nat} {vh : VH} (hob : ∀ b, ob = some b → ∃ r, r0 = some r ∧ live s.H r ∧ g.β r = some b)
    (hw : w.grownBy w' ob) (hnb : ∀ b, nb = some b → (ob = some b ∨ w.heap.size ≤ b) ∧ b < w'.heap.size) (hlive : vh.live = true)
    (hvh : Fut g.Rd g.Rd w w' → HeapOK P (g.new d nb k) w' d vh) :
    Sim P T N w0 (g.new d nb k) ⟨s.F, (d, vh) :: goneH r0 s.H⟩ a w' := by
  have hsz := hw.size
  have hsz0 := h.gi.sz
  have hH : ∀ r, getH ((d, vh) :: goneH r0 s.H) r = if d = r then vh else if r0 = some r then .gone else getH s.H r := by
    intro r
    rw [hget_put, goneH_get]
  have lv : ∀ r, live ((d, vh) :: goneH r0 s.H) r → r = d ∨ (r ≠ d ∧ r0 ≠ some r ∧ live s.H r) := by
    intro r hr
    unfold live at hr
    rw [hH] at hr
    by_cases e : d = r
    · exact .inl e.symm
    · rw [if_neg e] at hr
      by_cases e2 : r0 = some r
      · rw [if_pos e2] at hr; cases hr
      · rw [if_neg e2] at hr; exact .inr ⟨fun h => e h.symm, e2, hr⟩
  have tpob : ∀ b, g.tp = some b → ob ≠ some b := fun b hb e => by
    obtain ⟨r, _, hl, hr⟩ := hob b e
    exact (h.gi.bd r b hl hr).2.2 hb
  have rdob : ∀ b o, g.Rd b o → ob ≠ some b := fun b o hb e => by
    obtain ⟨r, _, hl, hr⟩ := hob b e
    exact (h.gi.rd b o hb).2.2 r hl hr
  have oth : ∀ r b, live s.H r → r0 ≠ some r → g.β r = some b → ob ≠ some b := fun r b hl hne hr e => by
    obtain ⟨r', e', hl', hr'⟩ := hob b e
    exact hne (by rw [e', h.gi.inj r r' b hl hl' hr hr'])
  have hf : Fut g.Rd g.Rd w w' := ⟨fun _ _ h => h, fun b o hb => World.cell?_of_block (w := w) (a := ⟨b, o, none⟩) (hw.block b (h.gi.rd b o hb).1 (fun e => rdob b o hb e.symm))⟩
  have hnew : ∀ r, r ≠ d → (g.new d nb k).β r = g.β r ∧ (g.new d nb k).κ r = g.κ r := fun r hr => by simp [Gh.new, updO, updN, hr]
  refine ⟨⟨fun r r' b h1 h2 h3 h4 => ?_, fun r b h1 h2 => ?_, fun b o hr => ?_, ?_, fun tb htb => ?_, ⟨h.gi.org.rd0, h.gi.org.new0, h.gi.org.tp0, h.gi.org.tpo⟩⟩, h.dn, h.nt, fun x => (h.hF x).move hf (fun _ h => h) fun r hr => hnew r (fun e => by rw [e, f1 x] at hr; cases hr), fun r => ?_⟩
  · rcases lv r h1 with rfl | ⟨n1, n2, l1⟩ <;> rcases lv r' h2 with rfl | ⟨m1, m2, l2⟩
    · rfl
    · rw [(hnew r' m1).1] at h4
      simp [Gh.new, updO] at h3
      rcases (hnb b h3).1 with e | e
      · exact absurd e (oth r' b l2 m2 h4)
      · have := (h.gi.bd r' b l2 h4).2.1; omega
    · rw [(hnew r n1).1] at h3
      simp [Gh.new, updO] at h4
      rcases (hnb b h4).1 with e | e
      · exact absurd e (oth r b l1 n2 h3)
      · have := (h.gi.bd r b l1 h3).2.1; omega
    · rw [(hnew r n1).1] at h3
      rw [(hnew r' m1).1] at h4
      exact h.gi.inj r r' b l1 l2 h3 h4
  · rcases lv r h1 with rfl | ⟨n1, n2, l1⟩
    · simp [Gh.new, updO] at h2
      obtain ⟨e1, e2⟩ := hnb b h2
      rcases e1 with e | e
      · obtain ⟨q, _, hl, hq⟩ := hob b e
        obtain ⟨a1, a2, a3⟩ := h.gi.bd q b hl hq
        exact ⟨a1, e2, a3⟩
      · exact ⟨by omega, e2, fun ht => by have := (h.gi.tape b ht).1; omega⟩
    · rw [(hnew r n1).1] at h2
      obtain ⟨a1, a2, a3⟩ := h.gi.bd r b l1 h2
      exact ⟨a1, by omega, a3⟩
  · obtain ⟨a1, a2, a3⟩ := h.gi.rd b o hr
    refine ⟨by omega, a2, fun r h1 h2 => ?_⟩
    rcases lv r h1 with rfl | ⟨n1, n2, l1⟩
    · simp [Gh.new, updO] at h2
      rcases (hnb b h2).1 with e | e
      · exact rdob b o hr e
      · omega
    · rw [(hnew r n1).1] at h2
      exact a3 r l1 h2
  · have hk : Keep (Mut w0.tp w0.heap.size) w w' := ⟨hw.os, hw.tape, hw.output, hw.size, fun k hk => by
      have hlt : k < w0.heap.size := Nat.lt_of_not_le fun hh => hk (.inr hh)
      refine hw.block k (by omega) fun e => ?_
      obtain ⟨q, _, hl, hq⟩ := hob k e.symm
      have := (h.gi.bd q k hl hq).1
      omega⟩
    exact h.gi.keep.trans hk
  · obtain ⟨a1, a2⟩ := h.gi.tape tb htb
    exact ⟨by omega, a2.keep hf (hw.block tb a1 (fun e => tpob tb htb e.symm))⟩
  · show HeapOK P _ w' r (getH ((d, vh) :: goneH r0 s.H) r)
    rw [hH]
    by_cases e : d = r
    · subst e; rw [if_pos rfl]; exact hvh hf
    · rw [if_neg e]
      by_cases e2 : r0 = some r
      · rw [if_pos e2]; trivial
      · rw [if_neg e2]
        refine (h.hH r).move hf (fun _ h => h) (fun q hq => hnew q fun e' => ?_) (fun b hl hb => hw.block b (h.gi.bd r b hl hb).2.1 fun e' => oth r b hl e2 hb e'.symm)
        rcases hq with hq | hq
        · rw [e', f2 r] at hq; cases hq
        · exact e (by rw [← e', hq])
theorem Sim.new (h : Sim P T N w0 g s a w) {d : Nat} (hd : s.fresh d = true) {r0 : Option Nat} {ob nb : Option Nat} {k : Nat} {vh : VH} (hob : ∀ b, ob = some b → ∃ r, r0 = some r ∧ live s.H r ∧ g.β r = some b)
    (hw : w.grownBy w' ob) (hnb : ∀ b, nb = some b → (ob = some b ∨ w.heap.size ≤ b) ∧ b < w'.heap.size) (hlive : vh.live = true)
    (hvh : Fut g.Rd g.Rd w w' → HeapOK P (g.new d nb k) w' d vh) :
    Sim P T N w0 (g.new d nb k) ⟨s.F, (d, vh) :: goneH r0 s.H⟩ a w' :=
  h.newG (St.fresh_spec hd).1 (St.fresh_spec hd).2.1 hob hw hnb hlive hvh
theorem Sim.new_ (h : Sim P T N w0 g s a w) {d : Nat} (hd : s.fresh d = true) {t : TypeId} {vals : Array Value} {k : Nat} {vh : VH} (hlive : vh.live = true)
    (hvh : Fut g.Rd g.Rd w (w.alloc (.cells vals t)) → HeapOK P (g.new d (some w.heap.size) k) (w.alloc (.cells vals t)) d vh) :
    Sim P T N w0 (g.new d (some w.heap.size) k) (s.hput d vh) a (w.alloc (.cells vals t)) :=
  h.new hd (r0 := none) (ob := none) (fun b hb => by cases hb) (World.grownBy_alloc w _ none) (fun b hb => by simp at hb; subst hb; exact ⟨.inr (Nat.le_refl _), by simp⟩) hlive hvh

/-- The block of the name r holds something else. -/
theorem Sim.change (h : Sim P T N w0 g s a w) {r b : Nat} {vals old : Array Value} {t : TypeId} {vh : VH} (hl : live s.H r) (hb : g.β r = some b) (hold : Blk w b t old) (hlive : vh.live = true)
    (hvh : Fut g.Rd g.Rd w (w.setRow b vals) → HeapOK P g (w.setRow b vals) r vh) : Sim P T N w0 g (s.hput r vh) a (w.setRow b vals) := by
  obtain ⟨b1, b2, b3⟩ := h.gi.bd r b hl hb
  have blk : ∀ k, k ≠ b → (w.setRow b vals).heap[k]? = w.heap[k]? := fun k hk => setRow_other w b k vals hk
  have hH : ∀ q, getH (s.hput r vh).H q = if r = q then vh else getH s.H q := fun q => hget_put _ _ _ _
  have lv : ∀ q, live (s.hput r vh).H q → live s.H q := fun q hq => by
    unfold live at hq ⊢
    rw [hH] at hq
    by_cases e : r = q
    · subst e; exact hl
    · rwa [if_neg e] at hq
  have hf : Fut g.Rd g.Rd w (w.setRow b vals) := ⟨fun _ _ h => h, fun b' o hb' => cell_setRow_other w b vals ⟨b', o, none⟩ (fun e => (h.gi.rd b' o hb').2.2 r hl (by rw [hb]; simp at e; rw [e]))⟩
  refine ⟨⟨fun r r' b h1 h2 h3 h4 => h.gi.inj r r' b (lv _ h1) (lv _ h2) h3 h4, fun q b' h1 h2 => by have := h.gi.bd q b' (lv _ h1) h2; simpa using this, fun b' o hr => ?_, ?_, fun tb htb => ?_, h.gi.org⟩, h.dn, h.nt, fun x => (h.hF x).move hf (fun _ h => h) fun _ _ => ⟨rfl, rfl⟩, fun q => ?_⟩
  · obtain ⟨a1, a2, a3⟩ := h.gi.rd b' o hr
    exact ⟨by simpa using a1, a2, fun q hq => a3 q (lv _ hq)⟩
  · refine h.gi.keep.trans ⟨rfl, rfl, rfl, by simp, fun k hk => blk k fun e => hk (.inr (by omega))⟩
  · obtain ⟨a1, a2⟩ := h.gi.tape tb htb
    exact ⟨by simpa using a1, a2.keep hf (blk tb fun e => b3 (by rw [← e]; exact htb))⟩
  · rw [hH]
    by_cases e : r = q
    · subst e; rw [if_pos rfl]; exact hvh hf
    · rw [if_neg e]
      refine (h.hH q).move hf (fun _ h => h) (fun _ _ => ⟨rfl, rfl⟩) fun b' hl' hb' => blk b' fun e' => e ?_
      subst e'
      exact h.gi.inj r q _ hl hl' hb hb'

theorem opr_box {t d : Nat} {x : Operand} {cs : List CV} (ho : o.op = .box t x) (hd : o.dst = some d) (hN : d < N) (hx : (s.ev x).cells = some cs) (hfr : s.fresh d = true) :
    OpR P T N w0 s o (fun s' => s' = (s.hput d (.blk t cs)).put d (.one (.ref d 0))) := by
  intro g a w hs K Q hK
  obtain ⟨k1, k2⟩ := (hs.ev x).cells_ hx
  have hrun : (execOp a.eval o).run P w = .ok (.value (.pointer (some ⟨w.heap.size, 0, none⟩))) (w.alloc (.cells (a.eval x).cells t)) := by
    simp [execOp, ho, Instr.box, newVar, newRow]
  have h1 := hs.new_ hfr (t := t) (vals := (a.eval x).cells) (k := 0) (vh := .blk t cs) rfl (fun hf => ⟨w.heap.size, (a.eval x).cells, by simp [Gh.new, updO], Blk.new _ _ _, k1, fun j u c hu hc => (k2 j u c hu hc).move hf (fun _ h => h) (fun r hr => by
    have hne := hasL_ne (cells_has (ev_has hfr x) hx) hc hr
    simp [Gh.new, updO, updN, hne])⟩)
  unfold Oper.wp
  rw [hrun]
  refine hK (g.new d (some w.heap.size) 0) ((s.hput d (.blk t cs)).put d (.one (.ref d 0))) _ _ rfl ?_
  rw [hd]
  exact h1.put hN (.one (.ref 0 (by simp [Gh.new, updO])))
end
end Go.Proofs.Ytbnmcdnkeipdhaa
