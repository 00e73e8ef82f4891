/- Texts of the library, put together. -/
import Derived.Test.YtcbppkfnfbdkhaaLb3
import Derived.Deep.Upon
import Derived.Laws.Strings3
/- Calls that change blocks they were handed, and hand lists back. -/
set_option linter.all false
set_option maxRecDepth 20000
namespace Go.Proofs.Ytcbppkfnfbdkhaa
open Go.RowKit Go.Shelf
def CV.upn (ρ : List Nat) : CV → CV
  | .d x => .d x
  | .nil => .nil
  | .sl r n sz => .sl (ρ.getD r 0) n sz
  | .ref r off => .ref (ρ.getD r 0) off
  | .u => .u
  | .el _ _ _ _ => .u
  | .slp _ _ _ _ => .u
  | .rp _ => .u
  | .clo _ _ => .u
  | .fn _ => .u
  | .tape => .u
def CV.okn (m : Nat) (k : Bool) : CV → Bool
  | .d _ => true
  | .nil => true
  | .sl r _ _ => Nat.blt r m && !(k && Nat.beq r 0)
  | .ref r _ => Nat.blt r m
  | .u => true
  | .el _ _ _ _ => false
  | .slp _ _ _ _ => false
  | .rp _ => false
  | .clo _ _ => false
  | .fn _ => false
  | .tape => false
def CV.oknL (m : Nat) (k : Bool) : List CV → Bool
  | [] => true
  | c :: l => c.okn m k && CV.oknL m k l
def CV.upnL (ρ : List Nat) : List CV → List CV
  | [] => []
  | c :: l => c.upn ρ :: CV.upnL ρ l
mutual
def SV.upn (ρ : List Nat) : SV → SV
  | .u => .u
  | .one c => .one (c.upn ρ)
  | .agg cs => .agg (CV.upnL ρ cs)
  | .tup vs => .tup (SV.upnL ρ vs)
def SV.upnL (ρ : List Nat) : List SV → List SV
  | [] => []
  | v :: l => v.upn ρ :: SV.upnL ρ l
end
mutual
def SV.okn (m : Nat) (k : Bool) : SV → Bool
  | .u => true
  | .one c => c.okn m k
  | .agg cs => CV.oknL m k cs
  | .tup vs => SV.oknL m k vs
def SV.oknL (m : Nat) (k : Bool) : List SV → Bool
  | [] => true
  | v :: l => v.okn m k && SV.oknL m k l
end
def VH.upn (ρ : List Nat) : VH → VH
  | .arr e sz rows => .arr e sz rows
  | .blk t cs => .blk t (CV.upnL ρ cs)
  | .gone => .gone
  | .pin _ _ => .gone
  | .tbl _ _ _ _ => .gone
def VH.okn (m : Nat) (k b : Bool) : VH → Bool
  | .arr _ _ _ => !b
  | .blk _ cs => CV.oknL m k cs
  | .gone => false
  | .pin _ _ => false
  | .tbl _ _ _ _ => false
theorem CV.oknL_get {m : Nat} {k : Bool} {cs : List CV} (h : CV.oknL m k cs = true) {j : Nat} {c : CV} (hj : cs[j]? = some c) : c.okn m k = true := by
  induction cs generalizing j with
  | nil => simp at hj
  | cons x cs ih =>
    simp only [CV.oknL, Bool.and_eq_true] at h
    cases j with
    | zero => simp at hj; subst hj; exact h.1
    | succ j => exact ih h.2 (by simpa using hj)
theorem SV.oknL_get {m : Nat} {k : Bool} {cs : List SV} (h : SV.oknL m k cs = true) {j : Nat} {c : SV} (hj : cs[j]? = some c) : c.okn m k = true := by
  induction cs generalizing j with
  | nil => simp at hj
  | cons x cs ih =>
    simp only [SV.oknL, Bool.and_eq_true] at h
    cases j with
    | zero => simp at hj; subst hj; exact h.1
    | succ j => exact ih h.2 (by simpa using hj)
theorem CV.upnL_get (ρ : List Nat) (cs : List CV) (j : Nat) : (CV.upnL ρ cs)[j]? = (cs[j]?).map (CV.upn ρ) := by
  induction cs generalizing j with
  | nil => rfl
  | cons x cs ih => cases j with
    | zero => rfl
    | succ j => simpa [CV.upnL] using ih j
theorem CV.upnL_len (ρ : List Nat) (cs : List CV) : (CV.upnL ρ cs).length = cs.length := by
  induction cs with
  | nil => rfl
  | cons x cs ih => simp [CV.upnL, ih]
theorem SV.upnL_get (ρ : List Nat) (cs : List SV) (j : Nat) : (SV.upnL ρ cs)[j]? = (cs[j]?).map (SV.upn ρ) := by
  induction cs generalizing j with
  | nil => rfl
  | cons x cs ih => cases j with
    | zero => rfl
    | succ j => simpa [SV.upnL] using ih j
theorem SV.upnL_len (ρ : List Nat) (cs : List SV) : (SV.upnL ρ cs).length = cs.length := by
  induction cs with
  | nil => rfl
  | cons x cs ih => simp [SV.upnL, ih]
structure Names (ρ : List Nat) (k : Bool) (gl gu : Gh) : Prop where
  β : ∀ i q, ρ[i]? = some q → gu.β q = gl.β i
  κ : ∀ i q, ρ[i]? = some q → (k = true → i ≠ 0) → gu.κ q = gl.κ i
theorem okn_sl {m : Nat} {k : Bool} {r n sz : Nat} (h : (CV.sl r n sz).okn m k = true) : r < m ∧ (k = true → r ≠ 0) := by
  simp only [CV.okn, Bool.and_eq_true, Bool.not_eq_true', beq_eq] at h
  refine ⟨blt_lt h.1, fun hk e => ?_⟩
  subst hk e
  simp at h
theorem getD_some {ρ : List Nat} {r : Nat} (h : r < ρ.length) : ρ[r]? = some (ρ.getD r 0) := by
  rw [List.getD_eq_getElem?_getD, List.getElem?_eq_getElem h]; rfl
theorem RepCV.down {P : Program} {gl gu : Gh} {w : World} {ρ : List Nat} {k : Bool} (hn : Names ρ k gl gu) (hR : gl.Rd = gu.Rd) {v : Value} {c : CV} (ho : c.okn ρ.length k = true) (h : RepCV P gu w v (c.upn ρ)) : RepCV P gl w v c := by
  cases c with
  | u => exact .u h.one
  | d x => cases h; rename_i h; exact .d (hR ▸ h)
  | nil => cases h; exact .nil
  | sl r n sz =>
    obtain ⟨o1, o2⟩ := okn_sl ho
    have hq := getD_some o1
    have e1 := hn.β _ _ hq
    have e2 := hn.κ _ _ hq o2
    rcases RepCV.sl_inv h with ⟨rfl, rfl, hb⟩ | ⟨b, hb, h1, h2, rfl⟩
    · exact .slv _ (e1.symm.trans hb)
    · have := RepCV.sl (P := P) (g := gl) (w := w) (r := r) (b := b) n sz (e1.symm.trans hb) (by rw [← e2]; exact h1) (by rw [← e2]; exact h2)
      rwa [← e2] at this
  | ref r off =>
    have o1 : r < ρ.length := blt_lt ho
    obtain ⟨b, hb, rfl⟩ := RepCV.ref_inv h
    exact .ref _ ((hn.β _ _ (getD_some o1)).symm.trans hb)
  | el _ _ _ _ => cases ho
  | slp _ _ _ _ => cases ho
  | rp _ => cases ho
  | clo _ _ => cases ho
  | fn _ => cases ho
  | tape => cases ho
theorem RepCV.upn {P : Program} {gl gu : Gh} {w : World} {ρ : List Nat} {k : Bool} (hn : Names ρ k gl gu) (hR : gl.Rd = gu.Rd) {v : Value} {c : CV} (ho : c.okn ρ.length k = true) (h : RepCV P gl w v c) : RepCV P gu w v (c.upn ρ) := by
  cases c with
  | u => exact .u h.one
  | d x => cases h; rename_i h; exact .d (hR ▸ h)
  | nil => cases h; exact .nil
  | sl r n sz =>
    obtain ⟨o1, o2⟩ := okn_sl ho
    have hq := getD_some o1
    have e1 := hn.β _ _ hq
    have e2 := hn.κ _ _ hq o2
    rcases h.sl_inv with ⟨rfl, rfl, hb⟩ | ⟨b, hb, h1, h2, rfl⟩
    · exact .slv _ (e1.trans hb)
    · have := RepCV.sl (P := P) (g := gu) (w := w) (r := ρ.getD r 0) (b := b) n sz (e1.trans hb) (by rw [e2]; exact h1) (by rw [e2]; exact h2)
      rwa [e2] at this
  | ref r off =>
    have o1 : r < ρ.length := blt_lt ho
    obtain ⟨b, hb, rfl⟩ := h.ref_inv
    exact .ref _ ((hn.β _ _ (getD_some o1)).trans hb)
  | el _ _ _ _ => cases ho
  | slp _ _ _ _ => cases ho
  | rp _ => cases ho
  | clo _ _ => cases ho
  | fn _ => cases ho
  | tape => cases ho
theorem RepSV.upn {P : Program} {gl gu : Gh} {w : World} {ρ : List Nat} {k : Bool} (hn : Names ρ k gl gu) (hR : gl.Rd = gu.Rd) {v : Value} {c : SV} (h : RepSV P gl w v c) (ho : c.okn ρ.length k = true) : RepSV P gu w v (c.upn ρ) := by
  induction h with
  | u v => exact .u v
  | one h => exact .one (h.upn hn hR ho)
  | agg vs cs hs h =>
    refine .agg vs _ (by rw [CV.upnL_len]; exact hs) fun j v c' h1 h2 => ?_
    rw [CV.upnL_get] at h2
    cases hc : cs[j]? with
    | none => rw [hc] at h2; cases h2
    | some c =>
      rw [hc] at h2; simp at h2; subst h2
      exact (h j v c h1 hc).upn hn hR (CV.oknL_get ho hc)
  | tup vs ss hs h ih =>
    refine .tup vs _ (by rw [SV.upnL_len]; exact hs) fun j v c' h1 h2 => ?_
    rw [SV.upnL_get] at h2
    cases hc : ss[j]? with
    | none => rw [hc] at h2; cases h2
    | some c =>
      rw [hc] at h2; simp at h2; subst h2
      exact ih j v c h1 hc (SV.oknL_get ho hc)
theorem HeapOK.down {P : Program} {gl gu : Gh} {w : World} {ρ : List Nat} {k : Bool} (hn : Names ρ k gl gu) (hR : gl.Rd = gu.Rd) {i q : Nat} {vh : VH} (hi : ρ[i]? = some q) {b : Bool} (hb : b = (k && Nat.beq i 0)) (ho : vh.okn ρ.length k b = true) (h : HeapOK P gu w q (vh.upn ρ)) : HeapOK P gl w i vh := by
  cases vh with
  | gone => cases ho
  | pin _ _ => cases ho
  | tbl _ _ _ _ => cases ho
  | blk t cs =>
    obtain ⟨bb, vals, h1, h2, h3, h4⟩ := h
    refine ⟨bb, vals, (hn.β _ _ hi).symm.trans h1, h2, by rw [h3, CV.upnL_len], fun j v c hv hc => ?_⟩
    exact RepCV.down hn hR (CV.oknL_get ho hc) (h4 j v (c.upn ρ) hv (by rw [CV.upnL_get, hc]; rfl))
  | arr e sz rows =>
    have e1 := hn.β _ _ hi
    have e2 := hn.κ _ _ hi fun hk e => by subst hk e; subst hb; cases ho
    obtain ⟨h0, h⟩ := h
    refine ⟨h0, ?_⟩
    rcases h with ⟨h1, h2⟩ | ⟨bb, vals, h1, h2, h3, h4, h5, h6⟩
    · exact .inl ⟨e1.symm.trans h1, h2⟩
    · refine .inr ⟨bb, vals, e1.symm.trans h1, h2, by rw [← e2]; exact h3, by rw [← e2]; exact h4, by rw [← e2]; exact h5, fun i j row x hi hj => ?_⟩
      obtain ⟨u, hu, hr⟩ := h6 i j row x hi hj
      exact ⟨u, hu, hR ▸ hr⟩
theorem HeapOK.upn {P : Program} {gl gu : Gh} {w : World} {ρ : List Nat} {k : Bool} (hn : Names ρ k gl gu) (hR : gl.Rd = gu.Rd) {i q : Nat} {vh : VH} (hi : ρ[i]? = some q) {b : Bool} (hb : b = (k && Nat.beq i 0)) (ho : vh.okn ρ.length k b = true) (h : HeapOK P gl w i vh) : HeapOK P gu w q (vh.upn ρ) := by
  cases vh with
  | gone => cases ho
  | pin _ _ => cases ho
  | tbl _ _ _ _ => cases ho
  | blk t cs =>
    obtain ⟨bb, vals, h1, h2, h3, h4⟩ := h
    refine ⟨bb, vals, (hn.β _ _ hi).trans h1, h2, by rw [h3, CV.upnL_len], fun j v c' hv hc' => ?_⟩
    rw [CV.upnL_get] at hc'
    cases hc : cs[j]? with
    | none => rw [hc] at hc'; cases hc'
    | some c =>
      rw [hc] at hc'; simp at hc'; subst hc'
      exact (h4 j v c hv hc).upn hn hR (CV.oknL_get ho hc)
  | arr e sz rows =>
    have e1 := hn.β _ _ hi
    have e2 := hn.κ _ _ hi fun hk e => by subst hk e; subst hb; cases ho
    obtain ⟨h0, h⟩ := h
    refine ⟨h0, ?_⟩
    rcases h with ⟨h1, h2⟩ | ⟨bb, vals, h1, h2, h3, h4, h5, h6⟩
    · exact .inl ⟨e1.trans h1, h2⟩
    · refine .inr ⟨bb, vals, e1.trans h1, h2, by rw [e2]; exact h3, by rw [e2]; exact h4, by rw [e2]; exact h5, fun i j row x hi hj => ?_⟩
      obtain ⟨u, hu, hr⟩ := h6 i j row x hi hj
      exact ⟨u, hu, hR ▸ hr⟩
theorem VH.upn_live {ρ : List Nat} {vh : VH} {m : Nat} {k b : Bool} (h : vh.okn m k b = true) : (vh.upn ρ).live = true := by cases vh <;> first | rfl | cases h
section
variable {P : Program} {T : TypeId} {N : Nat} {w0 : Org} {g g' : Gh} {s s' : St} {a : Act} {w w' : World} {o : Oper} {τ : List TyI}
end
end Go.Proofs.Ytcbppkfnfbdkhaa
/- Calls that change blocks they were handed, and hand lists back: the caller. -/
set_option linter.all false
set_option maxRecDepth 20000
namespace Go.Proofs.Ytcbppkfnfbdkhaa
open Go.RowKit Go.Shelf
def inv : List Nat → Nat → Nat → Option Nat
  | [], _, _ => none
  | q :: l, i, x => if q = x then some i else inv l (i + 1) x
def Gh.lendN (g : Gh) (ρ : List Nat) : Gh := ⟨fun i => (ρ[i]?).bind g.β, fun i => match ρ[i]? with | some q => g.κ q | none => g.κ i, g.Rd, g.tp, g.tl, fun _ => none⟩
def Org.lendN (g : Gh) (w : World) (ρ : List Nat) : Org := ⟨w, g.Rd, g.tp, g.tl, fun k => ∃ q ∈ ρ, g.β q = some k⟩
theorem names_lend (g : Gh) (ρ : List Nat) (k : Bool) : Names ρ k (g.lendN ρ) g := ⟨fun i q h => by simp [Gh.lendN, h], fun i q h _ => by simp [Gh.lendN, h]⟩
def Gh.back (g g' : Gh) (ρ : List Nat) (k : Bool) : Gh := ⟨fun x => match inv ρ 0 x with | some i => g'.β i | none => g.β x, fun x => match inv ρ 0 x with | some i => bif k && Nat.beq i 0 then g.κ x else g'.κ i | none => g.κ x, g'.Rd, g.tp, g.tl, g.ex⟩
structure Handed (s : St) (ρ : List Nat) (k : Bool) (hh : List VH) : Prop where
  nd : ρ.Nodup
  len : hh.length = ρ.length
  h : ∀ (i q : Nat) (vh : VH), ρ[i]? = some q → hh[i]? = some vh → getH s.H q = vh.upn ρ ∧ vh.okn ρ.length k (k && Nat.beq i 0) = true
section
variable {P : Program} {T : TypeId} {N : Nat} {w0 : Org} {g g' : Gh} {s s' : St} {a : Act} {w w' : World} {o : Oper} {τ : List TyI} {ρ : List Nat} {k : Bool} {hh hh' : List VH} {u : Value}
theorem Handed.get (h : Handed s ρ k hh) {i q : Nat} (hi : ρ[i]? = some q) : ∃ vh, hh[i]? = some vh ∧ getH s.H q = vh.upn ρ ∧ vh.okn ρ.length k (k && Nat.beq i 0) = true ∧ live s.H q := by
  have := (List.getElem?_eq_some_iff.1 hi).1
  have hv : hh[i]? = some (hh[i]'(by have := h.len; omega)) := List.getElem?_eq_getElem _
  obtain ⟨h1, h2⟩ := h.h i q _ hi hv
  exact ⟨_, hv, h1, h2, by unfold live; rw [h1]; exact VH.upn_live h2⟩
def SV.noN (m : Nat) (v : SV) : Bool := (List.range m).all fun i => !v.has i
inductive ArgN (P : Program) (T : TypeId) (s : St) (ρ : List Nat) (z : Bool) : List Operand → List SV → Prop where
  | nil : ArgN P T s ρ z [] []
  | pl {x : Operand} {v : SV} {l : List Operand} {l' : List SV} (h : PsS P T s.H true (s.ev x) v) (hn : v.noN ρ.length = true) (hl : ArgN P T s ρ z l l') : ArgN P T s ρ z (x :: l) (v :: l')
  | nm {x : Operand} {c c' : CV} {l : List Operand} {l' : List SV} (h : s.ev x = .one c') (hc : c.upn ρ = c') (ho : c.okn ρ.length false = true) (hl : ArgN P T s ρ z l l') : ArgN P T s ρ z (x :: l) (.one c :: l')
  | nz {x : Operand} {i sz : Nat} {l : List Operand} {l' : List SV} (hz : z = true) (h : s.ev x = .one .nil) (hi : Nat.blt i ρ.length = true) (hl : ArgN P T s ρ z l l') : ArgN P T s ρ z (x :: l) (.one (.sl i 0 sz) :: l')
theorem psG_lendN {v : Value} {sv : SV} {H : List (Nat × VH)} (h : RepSV P (psG g H w true) w v sv) (h0 : sv.noN ρ.length = true) : RepSV P (g.lendN ρ) w v sv := by
  refine h.move (g' := g.lendN ρ) ⟨fun _ _ h => h, fun _ _ _ => rfl⟩ (fun _ h => h) fun q hq => ?_
  have : ρ[q]? = none := by
    cases hr : ρ[q]? with
    | none => rfl
    | some x =>
      have hlt := (List.getElem?_eq_some_iff.1 hr).1
      unfold SV.noN at h0
      rw [List.all_eq_true] at h0
      have := h0 q (List.mem_range.2 hlt)
      rw [hq] at this; cases this
  simp [Gh.lendN, this, psG]
theorem ArgN.rep {z : Bool} {l : List Operand} {l' : List SV} (h : ArgN P T s ρ z l l') (hs : Sim P T N w0 g s a w) (hz : z = true → ∀ (i q : Nat), ρ[i]? = some q → g.β q = none) : l.length = l'.length ∧ ∀ (j : Nat) (v : Value) (c' : SV), (l.map a.eval)[j]? = some v → l'[j]? = some c' → RepSV P (g.lendN ρ) w v c' := by
  induction h with
  | nil => simp
  | pl h hn hl ih =>
    obtain ⟨ih1, ih2⟩ := ih
    refine ⟨by simp [ih1], fun j v c' h1 h2 => ?_⟩
    cases j with
    | zero => simp at h1 h2; subst h1 h2; exact psG_lendN (h.rep hs (hs.ev _)) hn
    | succ j => exact ih2 j v c' (by simpa using h1) (by simpa using h2)
  | @nm x c c1 l l' h hc ho hl ih =>
    obtain ⟨ih1, ih2⟩ := ih
    refine ⟨by simp [ih1], fun j v c' h1 h2 => ?_⟩
    cases j with
    | zero =>
      simp at h1 h2; subst h1 h2 hc
      have := hs.ev x; rw [h] at this
      exact .one (RepCV.down (names_lend g ρ false) rfl ho this.one_inv)
    | succ j => exact ih2 j v c' (by simpa using h1) (by simpa using h2)
  | @nz x i sz l l' hzt h hi hl ih =>
    obtain ⟨ih1, ih2⟩ := ih
    refine ⟨by simp [ih1], fun j v c' h1 h2 => ?_⟩
    cases j with
    | zero =>
      simp at h1 h2; subst h1 h2
      have := hs.ev x; rw [h] at this
      have e := this.one_inv
      generalize a.eval x = v at e
      cases e
      have hq := getD_some (blt_lt hi)
      exact .one (.slv _ (((names_lend g ρ false).β _ _ hq).symm.trans (hz hzt i _ hq)))
    | succ j => exact ih2 j v c' (by simpa using h1) (by simpa using h2)
end
section
variable {k : Wk} {w0 : Org} {ops : Array Oper} {l : List Oper} {Q : St → Prop} {F F' : List (Nat × SV)} {H : List (Nat × VH)} {d t : Nat} {p : String} {af : Array Edge}
end
theorem CVleL.rfl_ (l : List CV) : CVleL [] l l := by
  induction l with
  | nil => exact .nil
  | cons c l ih => exact .cons (CVle.rfl_ c) ih
section
variable {τ : List TyI} {fn : Func} {F : List (Nat × SV)} {H : List (Nat × VH)} {α : Type} {f : α → List Cell} {xs x0 : List α} {e sz n : Nat} {u : Value} {ex : Exit} {t t1 t2 : Tmp} {c1 c2 d1 d2 : Cell}
end
end Go.Proofs.Ytcbppkfnfbdkhaa
/- More operations that may be taken first. -/
set_option linter.all false
set_option maxRecDepth 20000
namespace Go.Proofs.Ytcbppkfnfbdkhaa
open Go.RowKit Go.Shelf
section
variable {k : Wk} {w0 : Org} {s : St} {o : Oper}
theorem f_cat {d t ty tb : Nat} {x y : Operand} {p : String} {af : Array Edge} {gd : Option (Nat × Bool)} {a b : ByteArray} (hu : strB k.P t = true) (hx : s.ev x = .one (.d (.str a))) (hy : s.ev y = .one (.d (.str b))) (hc : a.size + b.size ≤ 1000000000) : OpE k.P k.T k.N w0 s ⟨some d, .binOp .add t x y tb, ty, p, af, gd⟩ (.one (.d (.str (a ++ b)))) := ope_cat hu rfl hx hy hc
end
section
variable {P : Program} {T : TypeId} {N : Nat} {w0 : Org} {g : Gh} {s : St} {a : Act} {w : World}
end
section
variable {k : Wk} {w0 : Org} {ops : Array Oper} {l : List Oper} {Q : St → Prop} {F F' : List (Nat × SV)} {H : List (Nat × VH)} {d t : Nat} {p : String} {af : Array Edge}
end
end Go.Proofs.Ytcbppkfnfbdkhaa
/- A difference may be taken first. -/
set_option linter.all false
set_option maxRecDepth 20000
namespace Go.Proofs.Ytcbppkfnfbdkhaa
open Go.RowKit Go.Shelf
section
variable {k : Wk} {w0 : Org} {s : St} {o : Oper}
end
end Go.Proofs.Ytcbppkfnfbdkhaa
/- To bytes whose room is used up, bytes are appended that may be none; what comes is only read from then on. -/
set_option linter.all false
set_option maxRecDepth 20000
namespace Go.Proofs.Ytcbppkfnfbdkhaa
open Go.RowKit Go.Shelf Go.Lib
section
variable {k : Wk} {w0 : Org} {ops : Array Oper} {l rest : List Oper} {Q : St → Prop} {F F' : List (Nat × SV)} {H H' : List (Nat × VH)} {d b n t : Nat} {p p' pa pb pc pd : String} {af af' afa afb afc afd : Array Edge} {s : St}
end
end Go.Proofs.Ytcbppkfnfbdkhaa
/- Parts of texts. -/
set_option linter.all false
set_option maxRecDepth 20000
namespace Go.Proofs.Ytcbppkfnfbdkhaa
open Go.RowKit Go.Shelf
section
variable {P : Program} {T : TypeId} {N : Nat} {w0 : Org} {s : St} {o : Oper}
theorem ope_strh {t : TypeId} {x z : Operand} {a : ByteArray} {kk : IntKind} {n : Int} (hu : strB P t = true) (ho : o.op = .slice t x none (some z) none) (hx : s.ev x = .one (.d (.str a))) (hz : s.ev z = .one (.d (.int kk n))) (h : 0 ≤ n ∧ n ≤ (a.size : Int)) : OpE P T N w0 s o (.one (.d (.str (a.extract 0 n.toNat)))) :=
  ope_val fun g ac w hs => by
    have h1 := hs.ev x; rw [hx] at h1
    have h2 := hs.ev z; rw [hz] at h2
    have hs' := strB_spec hu
    refine ⟨.string (a.extract 0 n.toNat), ?_, .one (.d (.str _ (by have := h1.str_inv.2; simp only [ByteArray.size_extract]; omega)))⟩
    simp [execOp, ho, h1.str_inv.1, h2.int_inv.1, run_sliceAt_string w t _ _ _ _ hs', run_slice_string_to_if w t a kk n hs', h, Result.andThen]
theorem ope_strl {t : TypeId} {x y : Operand} {a : ByteArray} {kk : IntKind} {n : Int} (hu : strB P t = true) (ho : o.op = .slice t x (some y) none none) (hx : s.ev x = .one (.d (.str a))) (hy : s.ev y = .one (.d (.int kk n))) (h : 0 ≤ n ∧ n ≤ (a.size : Int)) : OpE P T N w0 s o (.one (.d (.str (a.extract n.toNat a.size)))) :=
  ope_val fun g ac w hs => by
    have h1 := hs.ev x; rw [hx] at h1
    have h2 := hs.ev y; rw [hy] at h2
    have hs' := strB_spec hu
    refine ⟨.string (a.extract n.toNat a.size), ?_, .one (.d (.str _ (by have := h1.str_inv.2; simp only [ByteArray.size_extract]; omega)))⟩
    simp [execOp, ho, h1.str_inv.1, h2.int_inv.1, run_sliceAt_string w t _ _ _ _ hs', run_slice_string_from_if w t a kk n hs', h, Result.andThen]
end
section
variable {k : Wk} {w0 : Org} {ops : Array Oper} {l : List Oper} {Q : St → Prop} {F : List (Nat × SV)} {H : List (Nat × VH)} {d t ty : Nat} {x y : Operand} {p : String} {af : Array Edge} {a : ByteArray} {kk : IntKind} {n : Int}
theorem v_strh (hN : Nat.blt d k.N = true) (hu : strB k.P t = true) (hx : (St.mk F H).ev x = .one (.d (.str a))) (hy : (St.mk F H).ev y = .one (.d (.int kk n))) (hc : 0 ≤ n ∧ n ≤ (a.size : Int)) (h : rg k w0 ops l Q ⟨(d, .one (.d (.str (a.extract 0 n.toNat)))) :: F, H⟩) : rg k w0 ops (⟨some d, .slice t x none (some y) none, ty, p, af, none⟩ :: l) Q ⟨F, H⟩ :=
  rgI (irg_e rfl rfl (nlt hN) (ope_strh hu rfl hx hy hc) (rgO h))
theorem v_strl (hN : Nat.blt d k.N = true) (hu : strB k.P t = true) (hx : (St.mk F H).ev x = .one (.d (.str a))) (hy : (St.mk F H).ev y = .one (.d (.int kk n))) (hc : 0 ≤ n ∧ n ≤ (a.size : Int)) (h : rg k w0 ops l Q ⟨(d, .one (.d (.str (a.extract n.toNat a.size)))) :: F, H⟩) : rg k w0 ops (⟨some d, .slice t x (some y) none none, ty, p, af, none⟩ :: l) Q ⟨F, H⟩ :=
  rgI (irg_e rfl rfl (nlt hN) (ope_strl hu rfl hx hy hc) (rgO h))
end
end Go.Proofs.Ytcbppkfnfbdkhaa
/- Function values that are only called: as functions of data. -/
set_option linter.all false
set_option maxRecDepth 20000
namespace Go.Proofs.Ytcbppkfnfbdkhaa
open Go.RowKit Go.Shelf
section
variable {P : Program} {T : TypeId} {N : Nat} {w0 : Org} {s : St} {o : Oper}
theorem clo_fn {g : Gh} {w : World} {v : Value} {f : FuncId} {cs : List CV} {p : List DV → Option Cell} (h : RepCV P g w v (.clo f cs)) (hpl : ∀ r, CV.hasL r cs = false) (he : Enters P f) (hn : CV.ntL cs = true) (hf : FnSpec P T f cs p) : RepCV P g w v (.fn p) := by
  cases h with
  | clo f vs cs hs' hr =>
    have hok := fnspec_ok (P := P) (T := T) (w := w) (p := p) (vs := vs) (⟨fun _ => none, g.κ, g.Rd, none, g.tl, fun _ => none⟩ : Gh) (fun _ => rfl) he hf (by omega) (fun j v c h1 h2 =>
      (hr j v c h1 h2).moveN (g' := ⟨fun _ => none, g.κ, g.Rd, none, g.tl, fun _ => none⟩) (Fut.refl _ _) (CV.ntL_get hn h2) fun r hc => by
        have := CV.hasL_get h2 hc
        rw [hpl r] at this; cases this) hn
    exact .fn hok
theorem ope_mfn {f : FuncId} {caps : Array Operand} {cs : List CV} {p : List DV → Option Cell} (ho : o.op = .makeFunc (.func f) #[] caps) (hc : evL s caps.toList = some cs) (hpl : ∀ r, CV.hasL r cs = false) (he : Enters P f) (hn : CV.ntL cs = true) (hf : FnSpec P T f cs p) : OpE P T N w0 s o (.one (.fn p)) :=
  ope_val fun g a w hs => by
    obtain ⟨k1, k2⟩ := evL_rep hs _ _ hc
    refine ⟨.func (.func f) #[] (caps.map a.eval), by simp [execOp, ho, Instr.makeFunc], .one (clo_fn (T := T) (.clo f _ cs (by simpa using k1) fun j v c hv hc' => k2 j v c (by simpa using hv) hc') hpl he hn hf)⟩
end
section
variable {k : Wk} {w0 : Org} {ops : Array Oper} {l : List Oper} {Q : St → Prop} {s : St} {d t : Nat} {p : String} {af : Array Edge}
theorem v_mfn {F : List (Nat × SV)} {H : List (Nat × VH)} {f : FuncId} {caps : Array Operand} {cs : List CV} {pp : List DV → Option Cell} (hf : Enters k.P f ∧ CV.ntL cs = true ∧ FnSpec k.P k.T f cs pp) (hN : Nat.blt d k.N = true) (hc : evL ⟨F, H⟩ caps.toList = some cs) (hpl : ∀ r, CV.hasL r cs = false) (h : rg k w0 ops l Q ⟨(d, .one (.fn pp)) :: F, H⟩) : rg k w0 ops (⟨some d, .makeFunc (.func f) #[] caps, t, p, af, none⟩ :: l) Q ⟨F, H⟩ :=
  rgI (irg_e rfl rfl (nlt hN) (ope_mfn rfl hc hpl hf.1 hf.2.1 hf.2.2) (rgO h))
theorem f_callf {o : Oper} {y : Operand} {pp : List DV → Option Cell} {xs : Array Operand} {ts : Array TypeId} {args : List DV} {r : Cell} (ho : o.op = .call { callee := .value y, args := xs, argTypes := ts }) (hy : s.ev y = .one (.fn pp)) (ha : dvL s xs.toList args) (hp : pp args = some r) (hw : ∀ k n, r = .int k n → (Lit.int k n).wf = true) (hz : ∀ b, r = .str b → b.size ≤ maxLen) : OpE k.P k.T k.N w0 s o (.one (.d r)) :=
  ope_call_fn ho hy ha hp hw hz
end
end Go.Proofs.Ytcbppkfnfbdkhaa
/- Texts in order. -/
set_option linter.all false
set_option maxRecDepth 20000
namespace Go.Proofs.Ytcbppkfnfbdkhaa
open Go.RowKit Go.Shelf
def sLt (a b : ByteArray) : Bool := Go.Op.bytesLess a.toList b.toList
section
variable {P : Program} {T : TypeId} {N : Nat} {w0 : Org} {s : St} {o : Oper}
theorem ope_strlt {t t' : TypeId} {x y : Operand} {a b : ByteArray} (ho : o.op = .binOp .lss t x y t') (hx : s.ev x = .one (.d (.str a))) (hy : s.ev y = .one (.d (.str b))) : OpE P T N w0 s o (.one (.d (.bool (sLt a b)))) :=
  ope_scalar (v := .bool (sLt a b)) (fun g ac w hs => by
    have h1 := hs.ev x; rw [hx] at h1
    have h2 := hs.ev y; rw [hy] at h2
    have e : (eqGuard .lss t x y (.string a) (.string b)).run P w = .ok () w := by unfold eqGuard; rfl
    have e2 : (binOp .lss t (.string a) (.string b)).run P w = .ok (.bool (sLt a b)) w := by simp [binOp, Op.stringOp, sLt]
    simp only [execOp, ho, h1.str_inv.1, h2.str_inv.1, Sem.run_bind, e, e2, Result.andThen_ok, Sem.run_pure]) rfl (by simp) (by simp)
theorem ope_strgt {t t' : TypeId} {x y : Operand} {a b : ByteArray} (ho : o.op = .binOp .gtr t x y t') (hx : s.ev x = .one (.d (.str a))) (hy : s.ev y = .one (.d (.str b))) : OpE P T N w0 s o (.one (.d (.bool (!(sLt a b || decide (a = b)))))) :=
  ope_scalar (v := .bool (!(sLt a b || decide (a = b)))) (fun g ac w hs => by
    have h1 := hs.ev x; rw [hx] at h1
    have h2 := hs.ev y; rw [hy] at h2
    have e : (eqGuard .gtr t x y (.string a) (.string b)).run P w = .ok () w := by unfold eqGuard; rfl
    have e2 : (binOp .gtr t (.string a) (.string b)).run P w = .ok (.bool (!(sLt a b || decide (a = b)))) w := by
      simp [binOp, Op.stringOp, sLt, ← ba_list]
    simp only [execOp, ho, h1.str_inv.1, h2.str_inv.1, Sem.run_bind, e, e2, Result.andThen_ok, Sem.run_pure]) rfl (by simp) (by simp)
end
section
variable {k : Wk} {w0 : Org} {ops : Array Oper} {l : List Oper} {Q : St → Prop} {F : List (Nat × SV)} {H : List (Nat × VH)} {d t ty tb : Nat} {x y : Operand} {p : String} {af : Array Edge} {a b : ByteArray}
theorem v_strlt (hN : Nat.blt d k.N = true) (hx : (St.mk F H).ev x = .one (.d (.str a))) (hy : (St.mk F H).ev y = .one (.d (.str b))) (h : rg k w0 ops l Q ⟨(d, .one (.d (.bool (sLt a b)))) :: F, H⟩) : rg k w0 ops (⟨some d, .binOp .lss t x y tb, ty, p, af, none⟩ :: l) Q ⟨F, H⟩ :=
  rgI (irg_e rfl rfl (nlt hN) (ope_strlt rfl hx hy) (rgO h))
theorem v_strgt (hN : Nat.blt d k.N = true) (hx : (St.mk F H).ev x = .one (.d (.str a))) (hy : (St.mk F H).ev y = .one (.d (.str b))) (h : rg k w0 ops l Q ⟨(d, .one (.d (.bool (!(sLt a b || decide (a = b)))))) :: F, H⟩) : rg k w0 ops (⟨some d, .binOp .gtr t x y tb, ty, p, af, none⟩ :: l) Q ⟨F, H⟩ :=
  rgI (irg_e rfl rfl (nlt hN) (ope_strgt rfl hx hy) (rgO h))
end
end Go.Proofs.Ytcbppkfnfbdkhaa
/- A whole struct out of an own list. -/
set_option linter.all false
set_option maxRecDepth 20000
namespace Go.Proofs.Ytcbppkfnfbdkhaa
open Go.RowKit Go.Shelf
section
variable {k : Wk} {w0 : Org} {ops : Array Oper} {l : List Oper} {Q : St → Prop} {F : List (Nat × SV)} {H : List (Nat × VH)} {d t t' : Nat} {x : Operand} {p : String} {af : Array Edge}
theorem v_ldel {α : Type} {f : α → List Cell} {xs : List α} {e sz r : Nat} {m : Int} {fs zs} (hN : Nat.blt d k.N = true) (hx : (St.mk F H).ev x = .one (.el r m.toNat 0 sz)) (hH : getH H r = .arr e sz (xs.map f)) (ht : tyAt k.τ t' = .st sz fs zs) (inst : Inhabited α) (hf : (f (gt xs m)).length = sz) (hc : 0 ≤ m ∧ m < (xs.length : Int)) (h : rg k w0 ops l Q ⟨(d, .agg ((f (gt xs m)).map .d)) :: F, H⟩) : rg k w0 ops (⟨some d, .load t' x, t, p, af, none⟩ :: l) Q ⟨F, H⟩ := by
  refine j_ld_eln hN hx hH ht (row := f (gt xs m)) ?_ (by omega) ?_
  · rw [List.getElem?_map, List.getElem?_eq_getElem (by omega), gt_eq (by omega)]; rfl
  · rw [List.drop_zero, List.take_of_length_le (by omega)]
    exact h
end
theorem v_fzg {k : Wk} {w0 : Org} {ops : Array Oper} {l : List Oper} {Q : St → Prop} {F F' : List (Nat × SV)} {H H' : List (Nat × VH)} {e sz : Nat} {rows : List (List Cell)} {p q : Prop} (d r : Nat) {cs : List CV} (hd : getF F d = .agg cs) (hr : getH H r = .arr e sz rows) (hF : fzK r sz rows F (fun a p => some (a, p)) = some (F', p)) (hH : fzHK r sz rows H (fun a p => some (a, p)) = some (H', q)) (hp : p ∧ q) (h : rg k w0 ops l Q ⟨F', H'⟩) : rg k w0 ops l Q ⟨F, H⟩ := j_fz r hr hF hH hp h
end Go.Proofs.Ytcbppkfnfbdkhaa
/- The length of a list of the function's own, as the slice says it. -/
set_option linter.all false
set_option maxRecDepth 20000
namespace Go.Proofs.Ytcbppkfnfbdkhaa
open Go.RowKit Go.Shelf
theorem v_lnc {k : Wk} {w0 : Org} {ops : Array Oper} {l : List Oper} {Q : St → Prop} {F : List (Nat × SV)} {H : List (Nat × VH)} {o : Oper} (D i j : Nat) {α : Type} {f : α → List Cell} {xs : List α} {r n sz e t : Nat} {cs : List CV} (hd : o.dst = some D) (h1 : getH H i = .blk t cs) (h2 : cs[j]? = some (.sl r n sz)) (h3 : getH H r = .arr e sz (xs.map f)) (hc : xs.length = n) (h : rg k w0 ops (o :: l) Q ⟨F, H⟩) : rg k w0 ops (o :: l) Q ⟨F, H⟩ := h
theorem v_ldes {k : Wk} {w0 : Org} {ops : Array Oper} {l : List Oper} {Q : St → Prop} {F : List (Nat × SV)} {H : List (Nat × VH)} {d t t' : Nat} {x : Operand} {p : String} {af : Array Edge} {α : Type} {f : α → List Cell} {xs : List α} {e sz r n j : Nat} {m : Int} {fs zs} (hN : Nat.blt d k.N = true) (hx : (St.mk F H).ev x = .one (.el r m.toNat j sz)) (hH : getH H r = .arr e sz (xs.map f)) (ht : tyAt k.τ t' = .st n fs zs) (inst : Inhabited α) (hf : Nat.ble (j + n) (f (gt xs m)).length = true) (hc : 0 ≤ m ∧ m < (xs.length : Int)) (h : rg k w0 ops l Q ⟨(d, .agg ((((f (gt xs m)).drop j).take n).map .d)) :: F, H⟩) : rg k w0 ops (⟨some d, .load t' x, t, p, af, none⟩ :: l) Q ⟨F, H⟩ := by
  refine j_ld_eln hN hx hH ht (row := f (gt xs m)) ?_ (Nat.le_of_ble_eq_true hf) h
  rw [List.getElem?_map, List.getElem?_eq_getElem (by omega), gt_eq (by omega)]; rfl
end Go.Proofs.Ytcbppkfnfbdkhaa
