/- Operations that read memory and take values apart, on ideal states. -/
import Derived.Test.YtbnmcdnkeipdhaaIvc
import Derived.Laws.Cells
set_option linter.all false
namespace Go.Proofs.Ytbnmcdnkeipdhaa
open Go.RowKit

/-- A type of one cell that is no struct. -/
def oneT (P : Program) (t : TypeId) : Bool :=
  match P.underlying t with
  | some (.struct _) => false
  | some (.array _ _) => false
  | some _ => true
  | none => false
/-- A struct, or an array, of n cells. -/
def aggT (P : Program) (t : TypeId) (n : Nat) : Bool :=
  (match P.underlying t with
  | some (.struct _) => true
  | some (.array _ _) => true
  | _ => false) && (match P.info? t with | some i => Nat.beq i.size n | none => false)
/-- Field i of the struct t lies at o. -/
def fldT (P : Program) (t : TypeId) (i o : Nat) : Bool :=
  match P.underlying t with
  | some (.struct fs) => (match fs[i]? with | some f => Nat.beq f.offset o && (match P.info? f.type with | some i => !Nat.beq i.size 0 | none => false) | none => false)
  | _ => false
/-- Field i of the struct t lies at o and has type ft. -/
def fldT' (P : Program) (t : TypeId) (i o : Nat) (ft : TypeId) : Bool :=
  match P.underlying t with
  | some (.struct fs) => (match fs[i]? with | some f => Nat.beq f.offset o && Nat.beq f.type ft | none => false)
  | _ => false
/-- A slice whose elements take n cells. -/
def sliceT (P : Program) (t : TypeId) (e n : Nat) : Bool :=
  match P.underlying t with
  | some (.slice e') => Nat.beq e' e && (match P.info? e with | some i => Nat.beq i.size n | none => false)
  | _ => false
def arrT (P : Program) (t : TypeId) (len e n : Nat) : Bool :=
  match P.underlying t with
  | some (.array len' e') => Nat.beq len' len && Nat.beq e' e && (match P.info? e with | some i => Nat.beq i.size n | none => false)
  | _ => false

section
variable {P : Program} {w : World} {t : TypeId}
theorem run_isAgg_one (h : oneT P t = true) : (isAgg t).run P w = .ok false w := by
  unfold oneT at h
  cases hu : P.underlying t with
  | none => rw [hu] at h; cases h
  | some d => cases d <;> simp_all [isAgg, run_underlying hu]
theorem run_isAgg_agg {n : Nat} (h : aggT P t n = true) : (isAgg t).run P w = .ok true w ∧ (sizeOf t).run P w = .ok n w := by
  unfold aggT at h
  cases hu : P.underlying t with
  | none => rw [hu] at h; simp at h
  | some d =>
    cases hi : P.info? t with
    | none => rw [hi] at h; simp at h
    | some i =>
      rw [hu, hi] at h
      cases d <;> simp_all [isAgg, run_underlying hu, sizeOf, typeInfo, hi]
theorem run_load_one (h : oneT P t = true) {a : Addr} {v : Value} (hc : w.cell? a = some v) : (loadVar t a).run P w = .ok v w := by
  simp [loadVar, run_isAgg_one h, run_load, hc]
theorem run_load_agg {n : Nat} (h : aggT P t n = true) {b o : Nat} {f : Nat → Value} (hc : ∀ j, j < n → w.cell? ⟨b, o + j, none⟩ = some (f j)) : (loadVar t ⟨b, o, none⟩).run P w = .ok (.agg ((List.range n).map f).toArray) w := by
  have h1 := run_loadCells (P := P) w ⟨b, o, none⟩ n f (fun j hj => by rw [Addr.add_lit]; exact hc j hj)
  simp [loadVar, (run_isAgg_agg (w := w) h).1, (run_isAgg_agg (w := w) h).2, h1]
theorem fldT_spec {i o : Nat} (h : fldT P t i o = true) : ∃ fs f, P.underlying t = some (.struct fs) ∧ fs[i]? = some f ∧ f.offset = o ∧ ∃ inf, P.info? f.type = some inf ∧ inf.size ≠ 0 := by
  unfold fldT at h
  cases hu : P.underlying t with
  | none => rw [hu] at h; cases h
  | some d =>
    rw [hu] at h
    cases d with
    | struct fs =>
      simp only at h
      cases hf : fs[i]? with
      | none => rw [hf] at h; cases h
      | some f =>
        rw [hf] at h
        simp only at h
        cases hi : P.info? f.type with
        | none => rw [hi] at h; simp at h
        | some inf =>
          rw [hi] at h
          simp at h
          exact ⟨fs, f, rfl, hf, h.1, inf, hi, by have := h.2; rw [beq_eq] at this; simpa using this⟩
    | _ => cases h
theorem fldT'_spec {i o : Nat} {ft : TypeId} (h : fldT' P t i o ft = true) : ∃ fs f, P.underlying t = some (.struct fs) ∧ fs[i]? = some f ∧ f.offset = o ∧ f.type = ft := by
  unfold fldT' at h
  cases hu : P.underlying t with
  | none => rw [hu] at h; cases h
  | some d =>
    rw [hu] at h
    cases d with
    | struct fs =>
      simp only at h
      cases hf : fs[i]? with
      | none => rw [hf] at h; cases h
      | some f =>
        rw [hf] at h
        simp at h
        exact ⟨fs, f, rfl, hf, h.1, h.2⟩
    | _ => cases h
theorem sliceT_spec {e n : Nat} (h : sliceT P t e n = true) : P.underlying t = some (.slice e) ∧ ∃ inf, P.info? e = some inf ∧ inf.size = n := by
  unfold sliceT at h
  cases hu : P.underlying t with
  | none => rw [hu] at h; cases h
  | some d =>
    rw [hu] at h
    cases d with
    | slice e' =>
      simp only at h
      cases hi : P.info? e with
      | none => rw [hi] at h; simp at h
      | some inf =>
        rw [hi] at h
        simp at h
        exact ⟨by rw [h.1], inf, rfl, h.2⟩
    | _ => cases h
theorem arrT_spec {len e n : Nat} (h : arrT P t len e n = true) : P.underlying t = some (.array len e) ∧ ∃ inf, P.info? e = some inf ∧ inf.size = n := by
  unfold arrT at h
  cases hu : P.underlying t with
  | none => rw [hu] at h; cases h
  | some d =>
    rw [hu] at h
    cases d with
    | array len' e' =>
      simp only at h
      cases hi : P.info? e with
      | none => rw [hi] at h; simp at h
      | some inf =>
        rw [hi] at h
        simp at h
        exact ⟨by rw [h.1.1, h.1.2], inf, rfl, h.2⟩
    | _ => cases h
theorem run_fieldPlace {i o b off : Nat} (h : fldT P t i o = true) : (Instr.fieldAt t (.pointer (some ⟨b, off, none⟩)) i).run P w = .ok (.pointer (some ⟨b, off + o, none⟩)) w := by
  obtain ⟨fs, f, hu, hf, rfl, inf, hi, hz⟩ := fldT_spec h
  simp [Instr.fieldAt, run_underlying hu, hf, Instr.sureAddr, fieldPlace, sizeOf, typeInfo, hi, hz, Addr.add_lit]
end

section
variable {P : Program} {g : Gh} {w : World}
theorem RepCV.ref_inv {v : Value} {r off : Nat} (h : RepCV P g w v (.ref r off)) : ∃ b, g.β r = some b ∧ v = .pointer (some ⟨b, off, none⟩) := by
  cases h with | ref off h => exact ⟨_, h, rfl⟩
theorem RepCV.el_inv {v : Value} {r i j sz : Nat} (h : RepCV P g w v (.el r i j sz)) : ∃ b, g.β r = some b ∧ v = .pointer (some ⟨b, i * sz + j, none⟩) := by
  cases h with | el i j sz h => exact ⟨_, h, rfl⟩
theorem RepCV.sl_inv {v : Value} {r n sz : Nat} (h : RepCV P g w v (.sl r n sz)) : (v = .slice none 0 0 ∧ n = 0 ∧ g.β r = none) ∨ ∃ b, g.β r = some b ∧ n ≤ g.κ r ∧ g.κ r ≤ maxLen ∧ v = .slice (some ⟨b, 0, none⟩) n (g.κ r) := by
  cases h with
  | slv sz h => exact .inl ⟨rfl, rfl, h⟩
  | sl n sz h h1 h2 => exact .inr ⟨_, h, h1, h2, rfl⟩
theorem RepCV.rp_inv {v : Value} {cs : List CV} (h : RepCV P g w v (.rp cs)) : ∃ (b o : Nat) (vals : Nat → Value), v = .pointer (some ⟨b, o, none⟩) ∧ (∀ j c, cs[j]? = some c → g.Rd b (o + j) ∧ w.cell? ⟨b, o + j, none⟩ = some (vals j)) ∧ ∀ j c, cs[j]? = some c → RepCV P g w (vals j) c := by
  cases h with | rp b o cs vals h hr => exact ⟨b, o, vals, rfl, h, hr⟩
theorem RepCell.list_inv {Rd : Nat → Nat → Prop} {v : Value} {xs : List (List Cell)} (h : RepCell Rd w v (.list xs)) : ∃ (A : Option Addr) (cap sz : Nat) (vals : Nat → Nat → Value), v = .slice A xs.length cap ∧ (A = none → xs = []) ∧ xs.length ≤ cap ∧ cap ≤ maxLen ∧
      (∀ row ∈ xs, row.length = sz) ∧ (∀ i j, i < xs.length → j < sz → ∃ b o, A = some ⟨b, o, none⟩ ∧ Rd b (o + (i * sz + j)) ∧ w.cell? ⟨b, o + (i * sz + j), none⟩ = some (vals i j)) ∧
      (∀ i j row x, xs[i]? = some row → row[j]? = some x → RepCell Rd w (vals i j) x) := by
  cases h with | list A cap xs sz vals h0 h1 h2 hsz hc hr => exact ⟨A, cap, sz, vals, rfl, h0, h1, h2, hsz, hc, hr⟩
/-- A row of a list, as it can be pointed to. -/
theorem RepCell.row {Rd : Nat → Nat → Prop} {v : Value} {xs : List (List Cell)} {i : Nat} {row : List Cell} (h : RepCell Rd w v (.list xs)) (hi : xs[i]? = some row) (hne : 0 < row.length) :
    ∃ (b o cap : Nat) (vals : Nat → Value), v = .slice (some ⟨b, o, none⟩) xs.length cap ∧ (∀ j c, row[j]? = some c → Rd b (o + i * row.length + j) ∧ w.cell? ⟨b, o + i * row.length + j, none⟩ = some (vals j)) ∧ ∀ j c, row[j]? = some c → RepCell Rd w (vals j) c := by
  obtain ⟨A, cap, sz, vals, rfl, h0, h1, h2, hsz, hc, hr⟩ := h.list_inv
  have hl := (List.getElem?_eq_some_iff.1 hi).1
  have e := hsz row (List.mem_of_getElem? hi)
  obtain ⟨b, o, rfl, _, _⟩ := hc i 0 hl (by omega)
  refine ⟨b, o, cap, fun j => vals i j, rfl, fun j c hj => ?_, fun j c hj => hr i j row c hi hj⟩
  have hjl := (List.getElem?_eq_some_iff.1 hj).1
  obtain ⟨b', o', e', h3, h4⟩ := hc i j hl (by omega)
  injection e' with e'
  injection e' with e1 e2
  subst e1 e2
  rw [e]
  exact ⟨by simpa [Nat.add_assoc] using h3, by simpa [Nat.add_assoc] using h4⟩
end

section
variable {P : Program} {T : TypeId} {N : Nat} {w0 : Org} {g : Gh} {s : St} {a : Act} {w : World} {o : Oper}

/-! reading through pointers -/
section
variable {t : TypeId} {x : Operand} {r off i j n sz : Nat}
theorem ope_load_rp1 {cs : List CV} {c : CV} (ho : o.op = .load t x) (hx : s.ev x = .one (.rp cs)) (ht : oneT P t = true) (hc : cs[0]? = some c) : OpE P T N w0 s o (.one c) :=
  ope_val fun g a w hs => by
    have h := hs.ev x; rw [hx] at h
    obtain ⟨b, o', vals, e, h1, h2⟩ := h.one_inv.rp_inv
    have := (h1 0 c hc).2
    rw [Nat.add_zero] at this
    exact ⟨vals 0, by simp [execOp, ho, e, Instr.loadAt, Instr.sureAddr, run_load_one ht this], .one (h2 0 c hc)⟩
theorem ope_load_rpn {cs : List CV} (ho : o.op = .load t x) (hx : s.ev x = .one (.rp cs)) (ht : aggT P t n = true) (hc : n ≤ cs.length) : OpE P T N w0 s o (.agg (cs.take n)) :=
  ope_val fun g a w hs => by
    have h := hs.ev x; rw [hx] at h
    obtain ⟨b, o', vals, e, h1, h2⟩ := h.one_inv.rp_inv
    have hl := run_load_agg (P := P) (w := w) ht (b := b) (o := o') (f := vals) (fun j hj => (h1 j _ (List.getElem?_eq_getElem (by omega))).2)
    refine ⟨_, by simp [execOp, ho, e, Instr.loadAt, Instr.sureAddr, hl]; rfl, .agg _ _ (by simp; omega) fun j v c hv hc' => ?_⟩
    have hj : j < n := by have := (List.getElem?_eq_some_iff.1 hc').1; simp at this; omega
    rw [List.getElem?_take_of_lt hj] at hc'
    simp [hj] at hv
    rw [← hv]
    exact h2 j c hc'
theorem ope_load_ref1 {t' : TypeId} {cs : List CV} {c : CV} (ho : o.op = .load t x) (hx : s.ev x = .one (.ref r off)) (hH : getH s.H r = .blk t' cs) (ht : oneT P t = true) (hc : cs[off]? = some c) : OpE P T N w0 s o (.one c) :=
  ope_val fun g a w hs => by
    have h := hs.ev x; rw [hx] at h
    obtain ⟨b, hb, e⟩ := h.one_inv.ref_inv
    have hh := hs.hH r; rw [hH] at hh
    obtain ⟨b', vals, hb', hbl, hsz, hv⟩ := hh
    obtain rfl : b = b' := by rw [hb] at hb'; injection hb'
    have hlt := (List.getElem?_eq_some_iff.1 hc).1
    have hc2 := hbl.cell off
    rw [Array.getElem?_eq_getElem (by omega)] at hc2
    exact ⟨vals[off]'(by omega), by simp [execOp, ho, e, Instr.loadAt, Instr.sureAddr, run_load_one ht hc2], .one (hv off _ c (Array.getElem?_eq_getElem (by omega)) hc)⟩
theorem ope_load_refn {t' : TypeId} {cs : List CV} (ho : o.op = .load t x) (hx : s.ev x = .one (.ref r off)) (hH : getH s.H r = .blk t' cs) (ht : aggT P t n = true) (hc : off + n ≤ cs.length) : OpE P T N w0 s o (.agg ((cs.drop off).take n)) :=
  ope_val fun g a w hs => by
    have h := hs.ev x; rw [hx] at h
    obtain ⟨b, hb, e⟩ := h.one_inv.ref_inv
    have hh := hs.hH r; rw [hH] at hh
    obtain ⟨b', vals, hb', hbl, hsz, hv⟩ := hh
    obtain rfl : b = b' := by rw [hb] at hb'; injection hb'
    have hl := run_load_agg (P := P) (w := w) ht (b := b) (o := off) (f := fun j => vals.getD (off + j) undef) (fun j hj => by
      rw [hbl.cell (off + j)]; simp [Array.getD, show off + j < vals.size by omega])
    refine ⟨_, by simp only [execOp, ho, e, Instr.loadAt, Instr.sureAddr]; simp [hl]; rfl, .agg _ _ (by simp; omega) fun j v c hv' hc' => ?_⟩
    have hj : j < n := by have := (List.getElem?_eq_some_iff.1 hc').1; simp at this; omega
    rw [List.getElem?_take_of_lt hj, List.getElem?_drop] at hc'
    simp [hj, show off + j < vals.size by omega] at hv'
    rw [← hv']
    exact hv (off + j) _ c (Array.getElem?_eq_getElem (by omega)) hc'
/-- The cells of a row of an array of the call's own. -/
theorem arr_row {e' : TypeId} {rows : List (List Cell)} {row : List Cell} (hs : Sim P T N w0 g s a w) (hH : getH s.H r = .arr e' sz rows) (hi : rows[i]? = some row) {b : Nat} (hb : g.β r = some b) :
    ∃ vals, Blk w b e' vals ∧ row.length = sz ∧ i * sz + sz ≤ vals.size ∧ ∀ (j : Nat) (x : Cell), row[j]? = some x → ∃ u, vals[i * sz + j]? = some u ∧ RepCell g.Rd w u x := by
  have hh := hs.hH r; rw [hH] at hh
  obtain ⟨h0, hh⟩ := hh
  rcases hh with ⟨h1, _⟩ | ⟨b', vals, hb', hbl, hsz, hn, hm, hv⟩
  · rw [hb] at h1; cases h1
  · obtain rfl : b = b' := by rw [hb] at hb'; injection hb'
    have hl := (List.getElem?_eq_some_iff.1 hi).1
    refine ⟨vals, hbl, h0 row (List.mem_of_getElem? hi), ?_, fun j x hj => hv i j row x hi hj⟩
    have : (i + 1) * sz ≤ g.κ r * sz := Nat.mul_le_mul_right _ (by omega)
    rw [Nat.add_mul] at this
    omega
theorem ope_load_el1 {e' : TypeId} {rows : List (List Cell)} {row : List Cell} {c : Cell} (ho : o.op = .load t x) (hx : s.ev x = .one (.el r i j sz)) (hH : getH s.H r = .arr e' sz rows) (ht : oneT P t = true) (hi : rows[i]? = some row) (hj : row[j]? = some c) : OpE P T N w0 s o (.one (.d c)) :=
  ope_val fun g a w hs => by
    have h := hs.ev x; rw [hx] at h
    obtain ⟨b, hb, e⟩ := h.one_inv.el_inv
    obtain ⟨vals, hbl, _, _, hv⟩ := arr_row hs hH hi hb
    obtain ⟨u, hu, hr⟩ := hv j c hj
    have hc2 := hbl.cell (i * sz + j)
    rw [hu] at hc2
    exact ⟨u, by simp [execOp, ho, e, Instr.loadAt, Instr.sureAddr, run_load_one ht hc2], .one (.d hr)⟩
theorem ope_load_eln {e' : TypeId} {rows : List (List Cell)} {row : List Cell} (ho : o.op = .load t x) (hx : s.ev x = .one (.el r i j sz)) (hH : getH s.H r = .arr e' sz rows) (ht : aggT P t n = true) (hi : rows[i]? = some row) (hj : j + n ≤ row.length) : OpE P T N w0 s o (.agg (((row.drop j).take n).map .d)) :=
  ope_val fun g a w hs => by
    have h := hs.ev x; rw [hx] at h
    obtain ⟨b, hb, e⟩ := h.one_inv.el_inv
    obtain ⟨vals, hbl, hrl, hsz, hv⟩ := arr_row hs hH hi hb
    have hl := run_load_agg (P := P) (w := w) ht (b := b) (o := i * sz + j) (f := fun k => vals.getD (i * sz + j + k) undef) (fun k hk => by
      rw [hbl.cell (i * sz + j + k)]; simp [Array.getD, show i * sz + j + k < vals.size by omega])
    refine ⟨_, by simp only [execOp, ho, e, Instr.loadAt, Instr.sureAddr]; simp [hl]; rfl, .agg _ _ (by simp; omega) fun k v c hv' hc' => ?_⟩
    rw [List.getElem?_map] at hc'
    cases hcc : ((row.drop j).take n)[k]? with
    | none => rw [hcc] at hc'; cases hc'
    | some x =>
      rw [hcc] at hc'
      simp at hc'
      subst hc'
      have hk : k < n := by have := (List.getElem?_eq_some_iff.1 hcc).1; simp at this; omega
      rw [List.getElem?_take_of_lt hk, List.getElem?_drop] at hcc
      obtain ⟨u, hu, hr⟩ := hv (j + k) x hcc
      simp [hk, show i * sz + j + k < vals.size by omega] at hv'
      rw [← Nat.add_assoc] at hu
      rw [Array.getElem?_eq_getElem (by omega)] at hu
      injection hu with hu
      rw [← hv', hu]
      exact .d hr
end

/-! addresses -/
section
variable {t : TypeId} {x y : Operand} {r off i j n sz fo f : Nat}
theorem ope_fieldAddr_ref (ho : o.op = .fieldAddr t x f) (hx : s.ev x = .one (.ref r off)) (ht : fldT P t f fo = true) : OpE P T N w0 s o (.one (.ref r (off + fo))) :=
  ope_val fun g a w hs => by
    have h := hs.ev x; rw [hx] at h
    obtain ⟨b, hb, e⟩ := h.one_inv.ref_inv
    exact ⟨.pointer (some ⟨b, off + fo, none⟩), by simp [execOp, ho, e, run_fieldPlace ht], .one (.ref _ hb)⟩
theorem ope_fieldAddr_el (ho : o.op = .fieldAddr t x f) (hx : s.ev x = .one (.el r i j sz)) (ht : fldT P t f fo = true) : OpE P T N w0 s o (.one (.el r i (j + fo) sz)) :=
  ope_val fun g a w hs => by
    have h := hs.ev x; rw [hx] at h
    obtain ⟨b, hb, e⟩ := h.one_inv.el_inv
    exact ⟨.pointer (some ⟨b, i * sz + j + fo, none⟩), by simp [execOp, ho, e, run_fieldPlace ht], .one (by rw [Nat.add_assoc]; exact .el i (j + fo) sz hb)⟩
theorem rp_drop {v : Value} {cs : List CV} {b o' : Nat} {vals : Nat → Value} (k : Nat) (h1 : ∀ j c, cs[j]? = some c → g.Rd b (o' + j) ∧ w.cell? ⟨b, o' + j, none⟩ = some (vals j)) (h2 : ∀ j c, cs[j]? = some c → RepCV P g w (vals j) c) : RepCV P g w (.pointer (some ⟨b, o' + k, none⟩)) (.rp (cs.drop k)) := by
  refine .rp b (o' + k) _ (fun j => vals (k + j)) (fun j c hj => ?_) (fun j c hj => ?_)
  · rw [List.getElem?_drop] at hj
    have := h1 _ c hj
    rw [Nat.add_assoc]
    exact this
  · rw [List.getElem?_drop] at hj
    exact h2 _ c hj
theorem ope_fieldAddr_rp {cs : List CV} (ho : o.op = .fieldAddr t x f) (hx : s.ev x = .one (.rp cs)) (ht : fldT P t f fo = true) : OpE P T N w0 s o (.one (.rp (cs.drop fo))) :=
  ope_val fun g a w hs => by
    have h := hs.ev x; rw [hx] at h
    obtain ⟨b, o', vals, e, h1, h2⟩ := h.one_inv.rp_inv
    exact ⟨.pointer (some ⟨b, o' + fo, none⟩), by simp [execOp, ho, e, run_fieldPlace ht], .one (rp_drop (v := undef) fo h1 h2)⟩
theorem run_indexAt {b o' len cap e sz : Nat} {k : IntKind} {m : Int} (ht : sliceT P t e sz = true) (h0 : 0 ≤ m) (h1 : m < len) : (Instr.indexAt t (.slice (some ⟨b, o', none⟩) len cap) (.int k m)).run P w = .ok (.pointer (some ⟨b, o' + m.toNat * sz, none⟩)) w := by
  obtain ⟨hu, inf, hi, hsz⟩ := sliceT_spec ht
  simp [Instr.indexAt, asIntOf, run_underlying hu, sizeOf, typeInfo, hi, hsz, h0, h1, Addr.add_lit]
theorem ope_indexAddr_d {e : TypeId} {rows : List (List Cell)} {row : List Cell} {k : IntKind} {m : Int} (ho : o.op = .indexAddr t x y) (hx : s.ev x = .one (.d (.list rows))) (hy : s.ev y = .one (.d (.int k m)))
    (ht : sliceT P t e sz = true) (h0 : 0 ≤ m) (hi : rows[m.toNat]? = some row) (hl : row.length = sz) (hz : 0 < sz) : OpE P T N w0 s o (.one (.rp (row.map .d))) :=
  ope_val fun g a w hs => by
    have h1 := hs.ev x; rw [hx] at h1
    have h2 := hs.ev y; rw [hy] at h2
    subst hl
    obtain ⟨b, o', cap, vals, e1, h3, h4⟩ := h1.list_inv.row hi hz
    have hlt := (List.getElem?_eq_some_iff.1 hi).1
    refine ⟨.pointer (some ⟨b, o' + m.toNat * row.length, none⟩), by simp [execOp, ho, e1, h2.int_inv.1, run_indexAt ht h0 (show m < (rows.length : Int) by omega)], .one (.rp _ _ _ vals (fun j c hj => ?_) (fun j c hj => ?_))⟩
    · rw [List.getElem?_map] at hj
      cases hcc : row[j]? with
      | none => rw [hcc] at hj; cases hj
      | some x => exact h3 j x hcc
    · rw [List.getElem?_map] at hj
      cases hcc : row[j]? with
      | none => rw [hcc] at hj; cases hj
      | some x => rw [hcc] at hj; simp at hj; subst hj; exact .d (h4 j x hcc)
theorem ope_indexAddr_sl {e : TypeId} {k : IntKind} {m : Int} (ho : o.op = .indexAddr t x y) (hx : s.ev x = .one (.sl r n sz)) (hy : s.ev y = .one (.d (.int k m)))
    (ht : sliceT P t e sz = true) (h0 : 0 ≤ m) (hi : m < n) : OpE P T N w0 s o (.one (.el r m.toNat 0 sz)) :=
  ope_val fun g a w hs => by
    have h1 := hs.ev x; rw [hx] at h1
    have h2 := hs.ev y; rw [hy] at h2
    rcases h1.one_inv.sl_inv with ⟨e1, e2, _⟩ | ⟨b, hb, h3, h4, e1⟩
    · omega
    · refine ⟨.pointer (some ⟨b, 0 + m.toNat * sz, none⟩), by simp [execOp, ho, e1, h2.int_inv.1, run_indexAt ht h0 hi], .one ?_⟩
      have := RepCV.el (P := P) (g := g) (w := w) (r := r) (b := b) m.toNat 0 sz hb
      simpa using this
theorem ope_indexAddr_arr {e len : Nat} {k : IntKind} {m : Int} (ho : o.op = .indexAddr t x y) (hx : s.ev x = .one (.ref r off)) (hy : s.ev y = .one (.d (.int k m)))
    (ht : arrT P t len e sz = true) (h0 : 0 ≤ m) (hi : m < len) : OpE P T N w0 s o (.one (.ref r (off + m.toNat * sz))) :=
  ope_val fun g a w hs => by
    have h1 := hs.ev x; rw [hx] at h1
    have h2 := hs.ev y; rw [hy] at h2
    obtain ⟨b, hb, e1⟩ := h1.one_inv.ref_inv
    obtain ⟨hu, inf, hinf, hsz⟩ := arrT_spec ht
    refine ⟨_, ?_, .one (.ref _ hb)⟩
    simp [execOp, ho, e1, h2.int_inv.1, Instr.indexAt, asIntOf, run_underlying hu, Instr.sureAddr, sizeOf, typeInfo, hinf, hsz, h0, hi, Addr.add_lit]
end
end
end Go.Proofs.Ytbnmcdnkeipdhaa
