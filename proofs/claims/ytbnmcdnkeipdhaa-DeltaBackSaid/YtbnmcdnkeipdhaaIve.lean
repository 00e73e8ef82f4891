/- Structs built and taken apart, lengths, tuples, closures; a table of types. -/
import Derived.Test.YtbnmcdnkeipdhaaIvd
import Derived.Laws.Tables
set_option linter.all false
namespace Go.Proofs.Ytbnmcdnkeipdhaa
open Go.RowKit

/-- What a cell holds at first. -/
inductive Z where
  | bool | int (k : IntKind) | str | nil | u
def Z.cv : Z → CV
  | .bool => .d (.bool false)
  | .int k => .d (.int k 0)
  | .str => .d (.str ⟨#[]⟩)
  | .nil => .nil
  | .u => .u
def Z.fits : Z → Value → Bool
  | .bool, .bool b => !b
  | .int k, .int k' n => decide (k = k') && decide (n = 0)
  | .str, .string s => Nat.beq s.size 0
  | .nil, .slice none 0 0 => true
  | .u, v => v.oneCell'
  | _, _ => false
theorem zero_wf (k : IntKind) : (Lit.int k 0).wf = true := by cases k <;> rfl
theorem Z.rep {P : Program} {g : Gh} {w : World} {z : Z} {v : Value} (h : z.fits v = true) : RepCV P g w v z.cv := by
  unfold Z.fits at h
  split at h
  · simp at h; subst h; exact .d (.bool false)
  · simp at h
    obtain ⟨rfl, rfl⟩ := h
    exact .d (.int _ 0 (zero_wf _))
  · rename_i s
    have : s.size = 0 := by rw [beq_eq] at h; simpa using h
    have e : s = ⟨#[]⟩ := by cases s; rename_i d; simp [ByteArray.size] at this; simp [this]
    subst e
    exact .d (.str _ (by show 0 ≤ maxLen; omega))
  · exact .nil
  · exact .u h
  · cases h

inductive TyI where
  | bad
  | one (z : Z)
  | sl (e n bytes : Nat)
  | st (n : Nat) (fs : List (Nat × Nat × Nat)) (zs : List Z)
  | ar (n len e sz : Nat) (zs : List Z)
def fitsL : List Z → List Value → Bool
  | [], [] => true
  | z :: zs, v :: vs => z.fits v && fitsL zs vs
  | _, _ => false
theorem fitsL_get {zs : List Z} {vs : List Value} (h : fitsL zs vs = true) : zs.length = vs.length ∧ ∀ (j : Nat) (z : Z) (v : Value), zs[j]? = some z → vs[j]? = some v → z.fits v = true := by
  induction zs generalizing vs with
  | nil => cases vs with
    | nil => simp
    | cons v vs => simp [fitsL] at h
  | cons z zs ih =>
    cases vs with
    | nil => simp [fitsL] at h
    | cons v vs =>
      simp [fitsL] at h
      obtain ⟨h1, h2⟩ := ih h.2
      refine ⟨by simp [h1], fun j z' v' hz hv => ?_⟩
      cases j with
      | zero => simp at hz hv; subst hz hv; exact h.1
      | succ j => simp at hz hv; exact h2 j z' v' hz hv
def fldsB (P : Program) (t : TypeId) : Nat → List (Nat × Nat × Nat) → Bool
  | _, [] => true
  | k, f :: fs => fldT P t k f.1 && (fldT' P t k f.1 f.2.1 && fldsB P t (k + 1) fs)
def zeroB (P : Program) (t : TypeId) (zs : List Z) : Bool :=
  match P.info? t with
  | some i => (match i.zero with | some z => fitsL zs z.cells.toList | none => false)
  | none => false
def placesB (P : Program) (t : TypeId) (fs : List (Nat × Nat × Nat)) : Bool :=
  match P.underlying t with
  | some (.struct fields) => decide (fields.toList.mapM (fun f => (P.info? f.type).map fun i => (f.offset, i.size)) = some (fs.map fun f => (f.1, f.2.2)))
  | _ => false
def bytesB (P : Program) (e b : Nat) : Bool := match P.info? e with | some i => Nat.beq i.bytes b | none => false
def sizeB (P : Program) (t n : Nat) : Bool := match P.info? t with | some i => Nat.beq i.size n | none => false
def tyB (P : Program) (t : TypeId) : TyI → Bool
  | .bad => true
  | .one z => oneT P t && (zeroB P t [z] && sizeB P t 1)
  | .sl e n b => (sliceT P t e n && bytesB P e b) && (oneT P t && (zeroB P t [.nil] && sizeB P t 1))
  | .st n fs zs => aggT P t n && (fldsB P t 0 fs && (zeroB P t zs && placesB P t fs))
  | .ar n len e sz zs => aggT P t n && (arrT P t len e sz && zeroB P t zs)
def tabB (P : Program) : Nat → List TyI → Bool
  | _, [] => true
  | t, i :: l => tyB P t i && tabB P (t + 1) l
def tyAt : List TyI → Nat → TyI
  | [], _ => .bad
  | i :: _, 0 => i
  | _ :: l, n + 1 => tyAt l n
theorem tabB_at {P : Program} {l : List TyI} {k : Nat} (h : tabB P k l = true) (t : Nat) : tyB P (k + t) (tyAt l t) = true := by
  induction l generalizing k t with
  | nil => cases t <;> rfl
  | cons i l ih =>
    simp [tabB] at h
    cases t with
    | zero => exact h.1
    | succ t => have := ih h.2 t; rw [show k + (t + 1) = k + 1 + t by omega]; exact this
section
variable {P : Program} {τ : List TyI} {t : Nat}
theorem tab_at (h : tabB P 0 τ = true) : tyB P t (tyAt τ t) = true := by have := tabB_at h t; rwa [Nat.zero_add] at this
def TyI.isOne : TyI → Bool
  | .one _ => true
  | .sl _ _ _ => true
  | _ => false
def TyI.zs : TyI → Option (List Z)
  | .one z => some [z]
  | .sl _ _ _ => some [.nil]
  | .st _ _ zs => some zs
  | .ar _ _ _ _ zs => some zs
  | .bad => none
def TyI.size : TyI → Option Nat
  | .one _ => some 1
  | .sl _ _ _ => some 1
  | .st n _ _ => some n
  | .ar n _ _ _ _ => some n
  | .bad => none
theorem tab_one (h : tabB P 0 τ = true) (e : (tyAt τ t).isOne = true) : oneT P t = true := by
  have := tab_at (t := t) h
  cases hi : tyAt τ t <;> rw [hi] at this e <;> first | (cases e; done) | (simp [tyB] at this; simp [this])
theorem tab_zs (h : tabB P 0 τ = true) {zs : List Z} (e : (tyAt τ t).zs = some zs) : zeroB P t zs = true := by
  have := tab_at (t := t) h
  cases hi : tyAt τ t <;> rw [hi] at this e <;> simp [tyB, TyI.zs] at this e <;> subst e <;> simp [this]
theorem tab_size (h : tabB P 0 τ = true) {n : Nat} (e : (tyAt τ t).size = some n) : ∃ inf, P.info? t = some inf ∧ inf.size = n := by
  have := tab_at (t := t) h
  have k1 : ∀ m, sizeB P t m = true → ∃ inf, P.info? t = some inf ∧ inf.size = m := fun m hm => by
    unfold sizeB at hm
    cases hi : P.info? t with
    | none => rw [hi] at hm; cases hm
    | some i => rw [hi] at hm; exact ⟨i, rfl, Nat.eq_of_beq_eq_true hm⟩
  have k2 : ∀ m, aggT P t m = true → ∃ inf, P.info? t = some inf ∧ inf.size = m := fun m hm => by
    unfold aggT at hm
    rw [Bool.and_eq_true] at hm
    exact k1 m hm.2
  cases hi : tyAt τ t <;> rw [hi] at this e <;> simp [tyB, TyI.size] at this e <;> subst e
  · exact k1 _ this.2.2
  · exact k1 _ this.2.2.2
  · exact k2 _ this.1
  · exact k2 _ this.1
theorem tab_agg (h : tabB P 0 τ = true) {n : Nat} {fs zs} (e : tyAt τ t = .st n fs zs) : aggT P t n = true := by
  have := tab_at (t := t) h; rw [e] at this; simp [tyB] at this; exact this.1
theorem tab_agga (h : tabB P 0 τ = true) {n len e sz : Nat} {zs} (he : tyAt τ t = .ar n len e sz zs) : aggT P t n = true := by
  have := tab_at (t := t) h; rw [he] at this; simp [tyB] at this; exact this.1
theorem tab_sl (h : tabB P 0 τ = true) {e n b : Nat} (he : tyAt τ t = .sl e n b) : sliceT P t e n = true := by
  have := tab_at (t := t) h; rw [he] at this; simp [tyB] at this; exact this.1.1
theorem tab_by (h : tabB P 0 τ = true) {e n b : Nat} (he : tyAt τ t = .sl e n b) : bytesB P e b = true := by
  have := tab_at (t := t) h; rw [he] at this; simp [tyB] at this; exact this.1.2
theorem tab_ar (h : tabB P 0 τ = true) {n len e sz : Nat} {zs} (he : tyAt τ t = .ar n len e sz zs) : arrT P t len e sz = true := by
  have := tab_at (t := t) h; rw [he] at this; simp [tyB] at this; exact this.2.1
theorem fldsB_get {k : Nat} {fs : List (Nat × Nat × Nat)} (h : fldsB P t k fs = true) {i : Nat} {f : Nat × Nat × Nat} (hi : fs[i]? = some f) : fldT P t (k + i) f.1 = true ∧ fldT' P t (k + i) f.1 f.2.1 = true := by
  induction fs generalizing k i with
  | nil => simp at hi
  | cons x fs ih =>
    simp [fldsB] at h
    cases i with
    | zero => simp at hi; subst hi; exact ⟨h.1, h.2.1⟩
    | succ i => simp at hi; have := ih h.2.2 hi; rwa [show k + (i + 1) = k + 1 + i by omega]
theorem tab_fld (h : tabB P 0 τ = true) {n : Nat} {fs zs} (e : tyAt τ t = .st n fs zs) {i : Nat} {f : Nat × Nat × Nat} (hi : fs[i]? = some f) : fldT P t i f.1 = true ∧ fldT' P t i f.1 f.2.1 = true := by
  have := tab_at (t := t) h; rw [e] at this; simp [tyB] at this
  have := fldsB_get this.2.1 hi
  rwa [Nat.zero_add] at this
end

section
variable {P : Program} {T : TypeId} {N : Nat} {w0 : Org} {g : Gh} {s : St} {a : Act} {w : World} {o : Oper}

def SV.cells : SV → Option (List CV)
  | .one c => some [c]
  | .agg cs => some cs
  | _ => none
theorem RepSV.cells_ {v : Value} {sv : SV} {cs : List CV} (h : RepSV P g w v sv) (hc : sv.cells = some cs) : v.cells.size = cs.length ∧ ∀ (j : Nat) (u : Value) (c : CV), v.cells[j]? = some u → cs[j]? = some c → RepCV P g w u c := by
  cases h with
  | u v => cases hc
  | one h =>
    simp [SV.cells] at hc
    subst hc
    have e : v.cells = #[v] := by have := h.one; cases v <;> first | rfl | cases this
    rw [e]
    refine ⟨rfl, fun j u c hu hc => ?_⟩
    cases j with
    | zero => simp at hu hc; subst hu hc; exact h
    | succ j => simp at hc
  | agg vs cs' hs h =>
    simp [SV.cells] at hc
    subst hc
    exact ⟨hs, h⟩
  | tup => cases hc

def setSeg (l : List CV) (off : Nat) (cs : List CV) : List CV := l.take off ++ cs ++ l.drop (off + cs.length)
def cfill (pl : List (Nat × Nat)) (cs : List CV) : List (Nat × List CV) → Option (List CV)
  | [] => some cs
  | p :: rest => match pl[p.1]? with
    | none => none
    | some q => bif Nat.beq p.2.length q.2 && Nat.ble (q.1 + p.2.length) cs.length then cfill pl (setSeg cs q.1 p.2) rest else none

theorem foldl_set (off : Nat) (vs : List Value) : ∀ (k : Nat) (cs : Array Value) (i : Nat),
    ((vs.zipIdx k).foldl (fun cs x => cs.setIfInBounds (off + x.2) x.1) cs)[i]? = if off + k ≤ i ∧ i < off + k + vs.length ∧ i < cs.size then vs[i - (off + k)]? else cs[i]? := by
  induction vs with
  | nil => intro k cs i; simp; intros; omega
  | cons v vs ih =>
    intro k cs i
    simp only [List.zipIdx_cons, List.foldl_cons]
    rw [ih (k + 1)]
    simp only [Array.size_setIfInBounds, List.length_cons]
    by_cases h1 : off + k = i
    · subst h1
      by_cases h2 : off + k < cs.size
      · rw [if_neg (by omega), if_pos (by omega)]; simp [h2]
      · rw [if_neg (by omega), if_neg (by omega)]; rw [Array.getElem?_setIfInBounds_self]; simp [h2]
    · by_cases h2 : off + (k + 1) ≤ i ∧ i < off + (k + 1) + vs.length ∧ i < cs.size
      · rw [if_pos h2, if_pos (by omega)]
        rw [show i - (off + k) = (i - (off + (k + 1))) + 1 by omega]
        simp
      · rw [if_neg h2, if_neg (by omega), Array.getElem?_setIfInBounds_ne h1]
theorem foldl_size (off : Nat) (vs : List Value) : ∀ (k : Nat) (cs : Array Value), ((vs.zipIdx k).foldl (fun cs x => cs.setIfInBounds (off + x.2) x.1) cs).size = cs.size := by
  induction vs with
  | nil => intro k cs; rfl
  | cons v vs ih => intro k cs; simp only [List.zipIdx_cons, List.foldl_cons]; rw [ih]; simp
theorem setSeg_get {l : List CV} {off : Nat} {cs : List CV} (h : off + cs.length ≤ l.length) (i : Nat) : (setSeg l off cs)[i]? = if off ≤ i ∧ i < off + cs.length then cs[i - off]? else l[i]? := by
  unfold setSeg
  by_cases h1 : i < off
  · rw [if_neg (by omega), List.append_assoc, List.getElem?_append_left (by simp; omega), List.getElem?_take_of_lt h1]
  · by_cases h2 : i < off + cs.length
    · rw [if_pos (by omega), List.append_assoc, List.getElem?_append_right (by simp; omega), List.getElem?_append_left (by simp; omega)]
      simp [show min off l.length = off by omega]
    · rw [if_neg (by omega), List.getElem?_append_right (by simp; omega), List.getElem?_drop]
      congr 1
      simp
      omega
theorem fill_rep {place : Nat → Option (Nat × Nat)} {pl : List (Nat × Nat)} (hpl : ∀ i p, pl[i]? = some p → place i = some p) : ∀ (parts : List (Nat × Value)) (cparts : List (Nat × List CV)) (vals : Array Value) (cs cs' : List CV),
    parts.length = cparts.length → (∀ (j : Nat) (p : Nat × Value) (q : Nat × List CV), parts[j]? = some p → cparts[j]? = some q → p.1 = q.1 ∧ p.2.cells.size = q.2.length ∧ ∀ (j : Nat) (u : Value) (c : CV), p.2.cells[j]? = some u → q.2[j]? = some c → RepCV P g w u c) →
    vals.size = cs.length → (∀ (j : Nat) (u : Value) (c : CV), vals[j]? = some u → cs[j]? = some c → RepCV P g w u c) → cfill pl cs cparts = some cs' →
    ∃ vals', Instr.fill place vals parts = some vals' ∧ vals'.size = cs'.length ∧ ∀ (j : Nat) (u : Value) (c : CV), vals'[j]? = some u → cs'[j]? = some c → RepCV P g w u c
  | [], cparts, vals, cs, cs', hl, hp, hs, hv, hf => by
    have : cparts = [] := List.eq_nil_of_length_eq_zero (by simpa using hl.symm)
    subst this
    simp [cfill] at hf
    subst hf
    exact ⟨vals, rfl, hs, hv⟩
  | p :: parts, [], vals, cs, cs', hl, hp, hs, hv, hf => by simp at hl
  | p :: parts, q :: cparts, vals, cs, cs', hl, hp, hs, hv, hf => by
    obtain ⟨e1, e2, e3⟩ := hp 0 p q rfl rfl
    obtain ⟨i, v⟩ := p
    obtain ⟨i', c⟩ := q
    dsimp only at e1 e2 e3
    subst e1
    simp only [cfill] at hf
    cases hq : pl[i]? with
    | none => rw [hq] at hf; cases hf
    | some x =>
      rw [hq] at hf
      dsimp only at hf
      cases hb : (Nat.beq c.length x.2 && Nat.ble (x.1 + c.length) cs.length) with
      | false => rw [hb] at hf; cases hf
      | true =>
        rw [hb] at hf
        simp only [cond_true] at hf
        rw [Bool.and_eq_true] at hb
        have h1 : c.length = x.2 := Nat.eq_of_beq_eq_true hb.1
        have h2 := Nat.le_of_ble_eq_true hb.2
        have hle : x.1 + c.length ≤ cs.length := h2
        obtain ⟨vals', k1, k2, k3⟩ := fill_rep hpl parts cparts (v.cells.zipIdx.foldl (fun cs x' => cs.setIfInBounds (x.1 + x'.2) x'.1) vals) (setSeg cs x.1 c) cs' (by simpa using hl) (fun j p q h1 h2 => hp (j + 1) p q (by simpa using h1) (by simpa using h2))
          (by
            rw [← Array.foldl_toList, Array.toList_zipIdx]
            rw [foldl_size]
            simp [setSeg]; omega)
          (fun j u c' hu hc' => by
            rw [← Array.foldl_toList, Array.toList_zipIdx] at hu
            rw [foldl_set] at hu
            rw [setSeg_get hle] at hc'
            have hsz : v.cells.toList.length = c.length := by simpa using e2
            by_cases hin : x.1 ≤ j ∧ j < x.1 + c.length
            · rw [if_pos hin] at hc'
              rw [if_pos (by omega)] at hu
              exact e3 _ u c' (by simpa using hu) hc'
            · rw [if_neg hin] at hc'
              rw [if_neg (by omega)] at hu
              exact hv j u c' hu hc') hf
        refine ⟨vals', ?_, k2, k3⟩
        simp only [Instr.fill, hpl i x hq]
        rw [if_neg (by simp; omega)]
        exact k1

def partsOf (s : St) : List (Nat × Operand) → Option (List (Nat × List CV))
  | [] => some []
  | p :: l => match (s.ev p.2).cells, partsOf s l with
    | some cs, some r => some ((p.1, cs) :: r)
    | _, _ => none
theorem partsOf_rep (hs : Sim P T N w0 g s a w) : ∀ (l : List (Nat × Operand)) (r : List (Nat × List CV)), partsOf s l = some r → (l.map fun p => (p.1, a.eval p.2)).length = r.length ∧
    ∀ (j : Nat) (p : Nat × Value) (q : Nat × List CV), (l.map fun p => (p.1, a.eval p.2))[j]? = some p → r[j]? = some q → p.1 = q.1 ∧ p.2.cells.size = q.2.length ∧ ∀ (j : Nat) (u : Value) (c : CV), p.2.cells[j]? = some u → q.2[j]? = some c → RepCV P g w u c
  | [], r, h => by simp [partsOf] at h; subst h; simp
  | p :: l, r, h => by
    simp only [partsOf] at h
    cases h1 : (s.ev p.2).cells with
    | none => rw [h1] at h; cases h
    | some cs =>
      cases h2 : partsOf s l with
      | none => rw [h1, h2] at h; cases h
      | some r' =>
        rw [h1, h2] at h
        simp at h
        subst h
        obtain ⟨k1, k2⟩ := partsOf_rep hs l r' h2
        refine ⟨by simpa using k1, fun j p' q hp hq => ?_⟩
        cases j with
        | zero =>
          simp at hp hq
          subst hp hq
          exact ⟨rfl, (hs.ev p.2).cells_ h1⟩
        | succ j => exact k2 j p' q (by simpa using hp) (by simpa using hq)
theorem zeroB_spec {t : TypeId} {zs : List Z} (h : zeroB P t zs = true) : ∃ i z, P.info? t = some i ∧ i.zero = some z ∧ z.cells.size = (zs.map Z.cv).length ∧ ∀ (g : Gh) (w : World) (j : Nat) (u : Value) (c : CV), z.cells[j]? = some u → (zs.map Z.cv)[j]? = some c → RepCV P g w u c := by
  unfold zeroB at h
  cases hi : P.info? t with
  | none => rw [hi] at h; cases h
  | some i =>
    rw [hi] at h
    dsimp only at h
    cases hz : i.zero with
    | none => rw [hz] at h; cases h
    | some z =>
      rw [hz] at h
      obtain ⟨k1, k2⟩ := fitsL_get h
      refine ⟨i, z, rfl, hz, by simpa using k1.symm, fun g w j u c hu hc => ?_⟩
      rw [List.getElem?_map] at hc
      cases hzz : zs[j]? with
      | none => rw [hzz] at hc; cases hc
      | some zz =>
        rw [hzz] at hc
        simp at hc
        subst hc
        exact Z.rep (k2 j zz u hzz (by simpa using hu))
theorem ope_build {τ : List TyI} (hτ : tabB P 0 τ = true) {t n : Nat} {fs : List (Nat × Nat × Nat)} {zs : List Z} {parts : Array (Nat × Operand)} {cp : List (Nat × List CV)} {r : List CV} (ho : o.op = .build t parts) (ht : tyAt τ t = .st n fs zs)
    (hp : partsOf s parts.toList = some cp) (hr : cfill (fs.map fun f => (f.1, f.2.2)) (zs.map Z.cv) cp = some r) : OpE P T N w0 s o (.agg r) :=
  ope_val fun g a w hs => by
    have hb := tab_at (t := t) hτ
    rw [ht] at hb
    simp [tyB] at hb
    obtain ⟨ha, _, hz, hpl⟩ := hb
    obtain ⟨i, z, hi, hz1, hz2, hz3⟩ := zeroB_spec hz
    obtain ⟨k1, k2⟩ := partsOf_rep hs _ _ hp
    unfold placesB at hpl
    cases hu : P.underlying t with
    | none => rw [hu] at hpl; cases hpl
    | some d =>
      rw [hu] at hpl
      cases d with
      | struct fields =>
        simp at hpl
        obtain ⟨vals', h1, h2, h3⟩ := fill_rep (P := P) (g := g) (w := w) (place := fun i => (fs.map fun f => (f.1, f.2.2)).toArray[i]?) (pl := fs.map fun f => (f.1, f.2.2)) (by intro i p h; simpa using h) _ cp z.cells _ r k1 k2 hz2 (hz3 g w) hr
        have hbu : P.built t (parts.map fun (i, x) => (i, a.eval x)).toList = some vals' := by
          unfold Program.built
          simp only [hi, hu, hz1]
          rw [hpl]
          simpa using h1
        refine ⟨.agg vals', ?_, .agg _ _ h2 h3⟩
        simp only [execOp, ho, Sem.run_bind, run_build w t _ vals' hbu, Result.andThen_ok, Sem.run_pure]
      | _ => cases hpl
theorem ope_build_arr {τ : List TyI} (hτ : tabB P 0 τ = true) {t n len e sz : Nat} {zs : List Z} {parts : Array (Nat × Operand)} {cp : List (Nat × List CV)} {r : List CV} (ho : o.op = .build t parts) (ht : tyAt τ t = .ar n len e sz zs)
    (hp : partsOf s parts.toList = some cp) (hr : cfill ((List.range len).map fun i => (i * sz, sz)) (zs.map Z.cv) cp = some r) : OpE P T N w0 s o (.agg r) :=
  ope_val fun g a w hs => by
    have hb := tab_at (t := t) hτ
    rw [ht] at hb
    simp [tyB] at hb
    obtain ⟨ha, har, hz⟩ := hb
    obtain ⟨hu, inf, hinf, hsz⟩ := arrT_spec har
    obtain ⟨i, z, hi, hz1, hz2, hz3⟩ := zeroB_spec hz
    obtain ⟨k1, k2⟩ := partsOf_rep hs _ _ hp
    obtain ⟨vals', h1, h2, h3⟩ := fill_rep (P := P) (g := g) (w := w) (place := fun i => some (i * sz, sz)) (pl := (List.range len).map fun i => (i * sz, sz)) (by
      intro i p h
      rw [List.getElem?_map] at h
      by_cases hlt : i < len
      · simp [hlt] at h; rw [h]
      · simp [hlt] at h) _ cp z.cells _ r k1 k2 hz2 (hz3 g w) hr
    have hbu : P.built t (parts.map fun (i, x) => (i, a.eval x)).toList = some vals' := by
      unfold Program.built
      simp only [hi, hu, hz1, hinf, hsz]
      simpa using h1
    refine ⟨.agg vals', ?_, .agg _ _ h2 h3⟩
    simp only [execOp, ho, Sem.run_bind, run_build w t _ vals' hbu, Result.andThen_ok, Sem.run_pure]

theorem ope_extract {x : Operand} {i : Nat} {vs : List SV} {v : SV} (ho : o.op = .extract x i) (hx : s.ev x = .tup vs) (hv : vs[i]? = some v) : OpE P T N w0 s o v :=
  ope_val fun g a w hs => by
    have h := hs.ev x; rw [hx] at h
    generalize he : a.eval x = u at h
    cases h with
    | tup arr _ hsz h =>
      have hlt := (List.getElem?_eq_some_iff.1 hv).1
      have hi : arr[i]? = some (arr[i]'(by omega)) := Array.getElem?_eq_getElem (by omega)
      exact ⟨arr[i]'(by omega), by simp [execOp, ho, he, Instr.extract, hi], h i _ v hi hv⟩
def evL (s : St) : List Operand → Option (List CV)
  | [] => some []
  | x :: l => match s.ev x, evL s l with
    | .one c, some r => some (c :: r)
    | _, _ => none
theorem evL_rep (hs : Sim P T N w0 g s a w) : ∀ (l : List Operand) (r : List CV), evL s l = some r → l.length = r.length ∧ ∀ (j : Nat) (v : Value) (c : CV), (l.map a.eval)[j]? = some v → r[j]? = some c → RepCV P g w v c
  | [], r, h => by simp [evL] at h; subst h; simp
  | x :: l, r, h => by
    simp only [evL] at h
    cases h1 : s.ev x with
    | one c =>
      cases h2 : evL s l with
      | none => rw [h1, h2] at h; cases h
      | some r' =>
        rw [h1, h2] at h
        simp at h
        subst h
        obtain ⟨k1, k2⟩ := evL_rep hs l r' h2
        refine ⟨by simp [k1], fun j v c' hv hc => ?_⟩
        cases j with
        | zero =>
          simp at hv hc
          subst hv hc
          have := hs.ev x
          rw [h1] at this
          exact this.one_inv
        | succ j => exact k2 j v c' (by simpa using hv) (by simpa using hc)
    | _ => rw [h1] at h; cases h
theorem ope_makeFunc {f : FuncId} {caps : Array Operand} {cs : List CV} (ho : o.op = .makeFunc (.func f) #[] caps) (hc : evL s caps.toList = some cs) : OpE P T N w0 s o (.one (.clo f cs)) :=
  ope_val fun g a w hs => by
    obtain ⟨k1, k2⟩ := evL_rep hs _ _ hc
    refine ⟨.func (.func f) #[] (caps.map a.eval), by simp [execOp, ho, Instr.makeFunc], .one (.clo f _ cs (by simpa using k1) fun j v c hv hc' => k2 j v c (by simpa using hv) hc')⟩

/-! lengths -/
theorem len_wf {n : Nat} (h : n ≤ maxLen) : (Lit.int .i64 (n : Int)).wf = true := by
  unfold maxLen at h
  simp [Lit.wf, IntKind.min, IntKind.max, IntKind.bits, IntKind.signed]
  omega
section
variable {t e n b : Nat} {x : Operand}
theorem run_len (hu : P.underlying t = some (.slice e)) (ty : TypeId) (A : Option Addr) (n c : Nat) (cs : Array Bool) : (builtin .len #[t] ty cs #[.slice A n c]).run P w = .ok (.value (.int .i64 n)) w := by
  simp [builtin, Builtin.len_, run_underlying hu, goInt]
theorem ope_len_d {rows : List (List Cell)} (ho : o.op = .call { callee := .builtin .len, args := #[x], argTypes := #[t] }) (hx : s.ev x = .one (.d (.list rows))) (ht : sliceT P t e n = true) : OpE P T N w0 s o (.one (.d (.int .i64 (rows.length : Int)))) :=
  ope_val fun g a w hs => by
    have h := hs.ev x; rw [hx] at h
    obtain ⟨A, cap, sz, vals, he, _, h1, h2, _⟩ := h.list_inv.list_inv
    exact ⟨.int .i64 rows.length, by simp [execOp, ho, resolve, invoke, he, run_len (sliceT_spec ht).1], .one (.d (.int _ _ (len_wf (by omega))))⟩
theorem ope_len_sl {r m sz : Nat} (ho : o.op = .call { callee := .builtin .len, args := #[x], argTypes := #[t] }) (hx : s.ev x = .one (.sl r m sz)) (ht : sliceT P t e n = true) : OpE P T N w0 s o (.one (.d (.int .i64 (m : Int)))) :=
  ope_val fun g a w hs => by
    have h := hs.ev x; rw [hx] at h
    rcases h.one_inv.sl_inv with ⟨he, hm, _⟩ | ⟨b, hb, h1, h2, he⟩
    · subst hm
      exact ⟨.int .i64 0, by simp [execOp, ho, resolve, invoke, he, run_len (sliceT_spec ht).1], .one (.d (.int _ _ rfl))⟩
    · exact ⟨.int .i64 m, by simp [execOp, ho, resolve, invoke, he, run_len (sliceT_spec ht).1], .one (.d (.int _ _ (len_wf (by omega))))⟩
theorem ope_len_nil (ho : o.op = .call { callee := .builtin .len, args := #[x], argTypes := #[t] }) (hx : s.ev x = .one .nil) (ht : sliceT P t e n = true) : OpE P T N w0 s o (.one (.d (.int .i64 0))) :=
  ope_val fun g a w hs => by
    have h := hs.ev x; rw [hx] at h
    have he : a.eval x = .slice none 0 0 := by generalize a.eval x = v at h; cases h with | one h => cases h; rfl
    exact ⟨.int .i64 0, by simp [execOp, ho, resolve, invoke, he, run_len (sliceT_spec ht).1], .one (.d (.int _ _ rfl))⟩
theorem ope_len_str {sb : ByteArray} (ho : o.op = .call { callee := .builtin .len, args := #[x], argTypes := #[t] }) (hx : s.ev x = .one (.d (.str sb))) (ht : P.underlying t = some .string) : OpE P T N w0 s o (.one (.d (.int .i64 (sb.size : Int)))) :=
  ope_val fun g a w hs => by
    have h := hs.ev x; rw [hx] at h
    obtain ⟨he, hz⟩ := h.str_inv
    exact ⟨.int .i64 sb.size, by simp [execOp, ho, resolve, invoke, he, builtin, Builtin.len_, run_underlying ht, goInt], .one (.d (.int _ _ (len_wf hz)))⟩
end
/-! fields of struct values, and elements of array values -/
theorem run_part_one {ft : TypeId} {vs : Array Value} {off : Nat} {v : Value} (ht : oneT P ft = true) (hv : vs[off]? = some v) : (part ft vs off).run P w = .ok v w := by
  simp [part, run_isAgg_one ht, hv]
theorem run_part_agg {ft n : Nat} {vs : Array Value} {off : Nat} (ht : aggT P ft n = true) : (part ft vs off).run P w = .ok (.agg (vs.extract off (off + n))) w := by
  simp [part, (run_isAgg_agg (w := w) ht).1, (run_isAgg_agg (w := w) ht).2]
theorem ope_field1 {t f fo ft : Nat} {x : Operand} {cs : List CV} {c : CV} (ho : o.op = .field t x f) (hx : s.ev x = .agg cs) (hf : fldT' P t f fo ft = true) (ht : oneT P ft = true) (hc : cs[fo]? = some c) : OpE P T N w0 s o (.one c) :=
  ope_val fun g a w hs => by
    have h := hs.ev x; rw [hx] at h
    obtain ⟨vs, he, hsz, hv⟩ := h.agg_inv
    obtain ⟨fs, f', hu, hf', rfl, rfl⟩ := fldT'_spec hf
    have hlt := (List.getElem?_eq_some_iff.1 hc).1
    have hi : vs[f'.offset]? = some (vs[f'.offset]'(by omega)) := Array.getElem?_eq_getElem (by omega)
    exact ⟨vs[f'.offset]'(by omega), by simp [execOp, ho, he, Instr.field, run_underlying hu, hf', asAgg, run_part_one ht hi], .one (hv _ _ _ hi hc)⟩
theorem agg_seg {vs : Array Value} {cs : List CV} (hsz : vs.size = cs.length) (hv : ∀ (j : Nat) (v : Value) (c : CV), vs[j]? = some v → cs[j]? = some c → RepCV P g w v c) (off n : Nat) (h : off + n ≤ cs.length) : RepSV P g w (.agg (vs.extract off (off + n))) (.agg ((cs.drop off).take n)) := by
  refine .agg _ _ (by simp; omega) fun j v c h1 h2 => ?_
  have hj : j < n := by have := (List.getElem?_eq_some_iff.1 h2).1; simp at this; omega
  rw [List.getElem?_take_of_lt hj, List.getElem?_drop] at h2
  rw [Array.getElem?_extract] at h1
  split at h1
  · exact hv _ v c h1 h2
  · cases h1
theorem ope_fieldn {t f fo ft n : Nat} {x : Operand} {cs : List CV} (ho : o.op = .field t x f) (hx : s.ev x = .agg cs) (hf : fldT' P t f fo ft = true) (ht : aggT P ft n = true) (hc : fo + n ≤ cs.length) : OpE P T N w0 s o (.agg ((cs.drop fo).take n)) :=
  ope_val fun g a w hs => by
    have h := hs.ev x; rw [hx] at h
    obtain ⟨vs, he, hsz, hv⟩ := h.agg_inv
    obtain ⟨fs, f', hu, hf', rfl, rfl⟩ := fldT'_spec hf
    exact ⟨.agg (vs.extract f'.offset (f'.offset + n)), by simp [execOp, ho, he, Instr.field, run_underlying hu, hf', asAgg, run_part_agg ht], agg_seg hsz hv _ _ hc⟩
theorem ope_index1 {t len e : Nat} {x y : Operand} {cs : List CV} {c : CV} {k : IntKind} {m : Int} (ho : o.op = .index t x y) (hx : s.ev x = .agg cs) (hy : s.ev y = .one (.d (.int k m))) (ht : arrT P t len e 1 = true) (he : oneT P e = true) (h0 : 0 ≤ m) (h1 : m < len) (hc : cs[m.toNat]? = some c) : OpE P T N w0 s o (.one c) :=
  ope_val fun g a w hs => by
    have h := hs.ev x; rw [hx] at h
    have h2 := hs.ev y; rw [hy] at h2
    obtain ⟨vs, hev, hsz, hv⟩ := h.agg_inv
    obtain ⟨hu, inf, hinf, hisz⟩ := arrT_spec ht
    have hlt := (List.getElem?_eq_some_iff.1 hc).1
    have hi : vs[m.toNat]? = some (vs[m.toNat]'(by omega)) := Array.getElem?_eq_getElem (by omega)
    exact ⟨vs[m.toNat]'(by omega), by simp [execOp, ho, hev, h2.int_inv.1, Instr.index, asIntOf, run_underlying hu, h0, h1, sizeOf, typeInfo, hinf, hisz, run_part_one he hi], .one (hv _ _ _ hi hc)⟩
theorem ope_indexn {t len e n : Nat} {x y : Operand} {cs : List CV} {k : IntKind} {m : Int} (ho : o.op = .index t x y) (hx : s.ev x = .agg cs) (hy : s.ev y = .one (.d (.int k m))) (ht : arrT P t len e n = true) (he : aggT P e n = true) (h0 : 0 ≤ m) (h1 : m < len) (hc : m.toNat * n + n ≤ cs.length) : OpE P T N w0 s o (.agg ((cs.drop (m.toNat * n)).take n)) :=
  ope_val fun g a w hs => by
    have h := hs.ev x; rw [hx] at h
    have h2 := hs.ev y; rw [hy] at h2
    obtain ⟨vs, hev, hsz, hv⟩ := h.agg_inv
    obtain ⟨hu, inf, hinf, hisz⟩ := arrT_spec ht
    exact ⟨.agg (vs.extract (m.toNat * n) (m.toNat * n + n)), by simp [execOp, ho, hev, h2.int_inv.1, Instr.index, asIntOf, run_underlying hu, h0, h1, sizeOf, typeInfo, hinf, hisz, run_part_agg he], agg_seg hsz hv _ _ hc⟩
end
end Go.Proofs.Ytbnmcdnkeipdhaa
