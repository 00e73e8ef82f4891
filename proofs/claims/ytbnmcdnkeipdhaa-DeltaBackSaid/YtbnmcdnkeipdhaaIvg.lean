/- Operations that make memory or store, on ideal states: variables, stores, slices. -/
import Derived.Test.YtbnmcdnkeipdhaaIvf
set_option linter.all false
namespace Go.Proofs.Ytbnmcdnkeipdhaa
open Go.RowKit

theorem Z.cv_has (r : Nat) (zs : List Z) : CV.hasL r (zs.map Z.cv) = false := by
  induction zs with
  | nil => rfl
  | cons z zs ih => simp only [List.map_cons, CV.hasL, ih]; cases z <;> rfl
def CV.unD : CV → Option Cell
  | .d c => some c
  | .nil => some (.list [])
  | _ => none
def unDL : List CV → Option (List Cell)
  | [] => some []
  | c :: l => match c.unD, unDL l with
    | some x, some r => some (x :: r)
    | _, _ => none
section
variable {P : Program} {T : TypeId} {N : Nat} {w0 : Org} {g g' : Gh} {s : St} {a : Act} {w w' : World} {o : Oper} {τ : List TyI}
theorem RepCV.unD {v : Value} {c : CV} {x : Cell} (h : RepCV P g w v c) (hx : c.unD = some x) : RepCell g.Rd w v x := by
  cases c with
  | d c => simp [CV.unD] at hx; subst hx; cases h; assumption
  | nil => simp [CV.unD] at hx; subst hx; cases h; exact .list none 0 [] 0 (fun _ _ => undef) (fun _ => rfl) (Nat.le_refl _) (by unfold maxLen; omega) (by simp) (by simp) (by simp)
  | _ => cases hx
theorem unDL_get {l : List CV} {r : List Cell} (h : unDL l = some r) : l.length = r.length ∧ ∀ (j : Nat) (c : CV) (x : Cell), l[j]? = some c → r[j]? = some x → c.unD = some x := by
  induction l generalizing r with
  | nil => simp [unDL] at h; subst h; simp
  | cons c l ih =>
    simp only [unDL] at h
    cases h1 : c.unD with
    | none => rw [h1] at h; cases h
    | some x =>
      cases h2 : unDL l with
      | none => rw [h1, h2] at h; cases h
      | some r' =>
        rw [h1, h2] at h
        simp at h
        subst h
        obtain ⟨k1, k2⟩ := ih h2
        refine ⟨by simp [k1], fun j c' x' hc hx => ?_⟩
        cases j with
        | zero => simp at hc hx; subst hc hx; exact h1
        | succ j => exact k2 j c' x' (by simpa using hc) (by simpa using hx)

theorem opr_alloc (hτ : tabB P 0 τ = true) {t d : Nat} {zs : List Z} (ho : o.op = .alloc t) (hd : o.dst = some d) (hN : d < N) (hz : (tyAt τ t).zs = some zs) (hfr : s.fresh d = true) :
    OpR P T N w0 s o (fun s' => s' = (s.hput d (.blk t (zs.map Z.cv))).put d (.one (.ref d 0))) := by
  intro g a w hs K Q hK
  obtain ⟨i, z, hi, hz1, hz2, hz3⟩ := zeroB_spec (tab_zs hτ hz)
  have hrun : (execOp a.eval o).run P w = .ok (.value (.pointer (some ⟨w.heap.size, 0, none⟩))) (w.alloc (.cells z.cells t)) := by
    simp [execOp, ho, Instr.alloc, zeroValue, typeInfo, hi, hz1, newVar, newRow]
  have h1 := hs.new_ hfr (t := t) (vals := z.cells) (k := 0) (vh := .blk t (zs.map Z.cv)) rfl (fun hf => ⟨w.heap.size, z.cells, by simp [Gh.new, updO], Blk.new _ _ _, hz2, fun j u c hu hc => hz3 _ _ j u c hu hc⟩)
  unfold Oper.wp
  rw [hrun]
  refine hK (g.new d (some w.heap.size) 0) _ _ _ rfl ?_
  rw [hd]
  exact h1.put hN (.one (.ref 0 (by simp [Gh.new, updO])))

theorem run_storeVar_at {t n b off : Nat} {ty : TypeId} {cur : Array Value} {v : Value} (hi : ∃ inf, P.info? t = some inf ∧ inf.size = n) (hv : v.cells.size = n) (hb : Blk w b ty cur) (hle : off + n ≤ cur.size) (h1 : ∀ u ∈ v.cells.toList, u.oneCell' = true) :
    (storeVar t ⟨b, off, none⟩ v).run P w = .ok () (w.setRow b (cur.toList.take off ++ v.cells.toList ++ cur.toList.drop (off + n)).toArray) := by
  obtain ⟨inf, hi, hs⟩ := hi
  have := run_storeCells_at P b off ty v.cells.toList 0 cur w hb (by simp; omega) h1
  simp only [Nat.add_zero, Array.length_toList, hv] at this
  simp [storeVar, sizeOf, typeInfo, hi, hs, hv, this]
theorem seg_get (cur : List Value) (off : Nat) (vs : List Value) (h : off + vs.length ≤ cur.length) (i : Nat) : (cur.take off ++ vs ++ cur.drop (off + vs.length))[i]? = if off ≤ i ∧ i < off + vs.length then vs[i - off]? else cur[i]? := by
  by_cases h1 : i < off
  · rw [if_neg (by omega), List.append_assoc, List.getElem?_append_left (by simp; omega), List.getElem?_take_of_lt h1]
  · by_cases h2 : i < off + vs.length
    · rw [if_pos (by omega), List.append_assoc, List.getElem?_append_right (by simp; omega), List.getElem?_append_left (by simp; omega)]
      simp [show min off cur.length = off by omega]
    · rw [if_neg (by omega), List.getElem?_append_right (by simp; omega), List.getElem?_drop]
      congr 1
      simp
      omega
theorem opr_store (hτ : tabB P 0 τ = true) {t r off n : Nat} {x y : Operand} {t' : TypeId} {cs vs : List CV} (ho : o.op = .store t x y) (hd : o.dst = none) (hx : s.ev x = .one (.ref r off)) (hH : getH s.H r = .blk t' cs)
    (hn : (tyAt τ t).size = some n) (hy : (s.ev y).cells = some vs) (hl : vs.length = n) (hle : off + n ≤ cs.length) : OpR P T N w0 s o (fun s' => s' = s.hput r (.blk t' (setSeg cs off vs))) := by
  intro g a w hs K Q hK
  have h := hs.ev x; rw [hx] at h
  obtain ⟨b, hb, e⟩ := h.one_inv.ref_inv
  have hh := hs.hH r; rw [hH] at hh
  obtain ⟨b', vals, hb', hbl, hsz, hv⟩ := hh
  obtain rfl : b = b' := by rw [hb] at hb'; injection hb'
  obtain ⟨k1, k2⟩ := (hs.ev y).cells_ hy
  have h1 : ∀ u ∈ (a.eval y).cells.toList, u.oneCell' = true := fun u hu => by
    obtain ⟨j, hj⟩ := List.getElem?_of_mem hu
    have hjl := (List.getElem?_eq_some_iff.1 hj).1
    simp at hjl
    exact (k2 j u _ (by simpa using hj) (List.getElem?_eq_getElem (by omega))).one
  have hst := run_storeVar_at (P := P) (off := off) (tab_size hτ hn) (by omega) hbl (by omega) h1
  have hlen : (a.eval y).cells.toList.length = n := by simp; omega
  obtain ⟨V, hV⟩ : ∃ V, (vals.toList.take off ++ (a.eval y).cells.toList ++ vals.toList.drop (off + n)).toArray = V := ⟨_, rfl⟩
  have hVs : V.size = vals.size := by rw [← hV]; simp; omega
  have hVg : ∀ i : Nat, V[i]? = if off ≤ i ∧ i < off + n then (a.eval y).cells[i - off]? else vals[i]? := fun i => by
    rw [← hV, List.getElem?_toArray, ← hlen, seg_get _ _ _ (by simp; omega)]
    simp
  rw [hV] at hst
  have hrun : (execOp a.eval o).run P w = .ok .skip (w.setRow b V) := by
    simp [execOp, ho, e, Instr.storeAt, Instr.sureAddr, hst]
  have h2 := hs.change (r := r) (b := b) (vals := V) (vh := .blk t' (setSeg cs off vs)) (by unfold live; rw [hH]; rfl) hb hbl rfl (fun hf => by
    refine ⟨b, _, hb, setRow_heap w b vals _ _ _ hbl, by simp [setSeg, hVs]; omega, fun j u c hu hc => ?_⟩
    rw [hVg] at hu
    rw [setSeg_get (by omega)] at hc
    by_cases hin : off ≤ j ∧ j < off + vs.length
    · rw [if_pos hin] at hc
      rw [if_pos (by omega)] at hu
      exact (k2 _ u c hu hc).move hf (fun _ h => h) fun _ _ => ⟨rfl, rfl⟩
    · rw [if_neg hin] at hc
      rw [if_neg (by omega)] at hu
      exact (hv j u c hu hc).move hf (fun _ h => h) fun _ _ => ⟨rfl, rfl⟩)
  unfold Oper.wp
  rw [hrun]
  refine hK g _ _ _ rfl ?_
  rw [hd]
  exact h2
def setSegC (l : List Cell) (off : Nat) (cs : List Cell) : List Cell := l.take off ++ cs ++ l.drop (off + cs.length)
theorem setSegC_get {l : List Cell} {off : Nat} {cs : List Cell} (h : off + cs.length ≤ l.length) (i : Nat) : (setSegC l off cs)[i]? = if off ≤ i ∧ i < off + cs.length then cs[i - off]? else l[i]? := by
  unfold setSegC
  by_cases h1 : i < off
  · rw [if_neg (by omega), List.append_assoc, List.getElem?_append_left (by simp; omega), List.getElem?_take_of_lt h1]
  · by_cases h2 : i < off + cs.length
    · rw [if_pos (by omega), List.append_assoc, List.getElem?_append_right (by simp; omega), List.getElem?_append_left (by simp; omega)]
      simp [show min off l.length = off by omega]
    · rw [if_neg (by omega), List.getElem?_append_right (by simp; omega), List.getElem?_drop]
      congr 1
      simp
      omega
theorem opr_store_el (hτ : tabB P 0 τ = true) {t r i j sz n : Nat} {x y : Operand} {e' : TypeId} {rows : List (List Cell)} {row : List Cell} {vs : List CV} {ds : List Cell} (ho : o.op = .store t x y) (hd : o.dst = none) (hx : s.ev x = .one (.el r i j sz)) (hH : getH s.H r = .arr e' sz rows)
    (hn : (tyAt τ t).size = some n) (hy : (s.ev y).cells = some vs) (hds : unDL vs = some ds) (hl : ds.length = n) (hi : rows[i]? = some row) (hle : j + n ≤ row.length) : OpR P T N w0 s o (fun s' => s' = s.hput r (.arr e' sz (rows.set i (setSegC row j ds)))) := by
  intro g a w hs K Q hK
  have h := hs.ev x; rw [hx] at h
  obtain ⟨b, hb, e⟩ := h.one_inv.el_inv
  obtain ⟨vals, hbl, hrl, hsz, hv0⟩ := arr_row hs hH hi hb
  obtain ⟨k1, k2⟩ := (hs.ev y).cells_ hy
  obtain ⟨u1, u2⟩ := unDL_get hds
  have h1 : ∀ u ∈ (a.eval y).cells.toList, u.oneCell' = true := fun u hu => by
    obtain ⟨j, hj⟩ := List.getElem?_of_mem hu
    have hjl := (List.getElem?_eq_some_iff.1 hj).1
    simp at hjl
    exact (k2 j u _ (by simpa using hj) (List.getElem?_eq_getElem (by omega))).one
  have hst := run_storeVar_at (P := P) (off := i * sz + j) (tab_size hτ hn) (by omega) hbl (by omega) h1
  have hlen : (a.eval y).cells.toList.length = n := by simp; omega
  obtain ⟨V, hV⟩ : ∃ V, (vals.toList.take (i * sz + j) ++ (a.eval y).cells.toList ++ vals.toList.drop (i * sz + j + n)).toArray = V := ⟨_, rfl⟩
  have hVs : V.size = vals.size := by rw [← hV]; simp; omega
  have hVg : ∀ k : Nat, V[k]? = if i * sz + j ≤ k ∧ k < i * sz + j + n then (a.eval y).cells[k - (i * sz + j)]? else vals[k]? := fun k => by
    rw [← hV, List.getElem?_toArray, ← hlen, seg_get _ _ _ (by simp; omega)]
    simp
  rw [hV] at hst
  have hrun : (execOp a.eval o).run P w = .ok .skip (w.setRow b V) := by
    simp [execOp, ho, e, Instr.storeAt, Instr.sureAddr, hst]
  have h2 := hs.change (r := r) (b := b) (vals := V) (vh := .arr e' sz (rows.set i (setSegC row j ds))) (by unfold live; rw [hH]; rfl) hb hbl rfl (fun hf => by
    have hh := hs.hH r; rw [hH] at hh
    obtain ⟨g0, hh⟩ := hh
    rcases hh with ⟨g1, _⟩ | ⟨b2, vals2, hb2, hbl2, g2, g3, g4, g5⟩
    · rw [hb] at g1; cases g1
    obtain rfl : b = b2 := by rw [hb] at hb2; injection hb2
    obtain rfl : vals = vals2 := by
      have := hbl.symm.trans hbl2
      injection this with this
      injection this
    have hil := (List.getElem?_eq_some_iff.1 hi).1
    have hsl : (setSegC row j ds).length = sz := by simp [setSegC]; omega
    refine ⟨fun row' hr' => ?_, .inr ⟨b, _, hb, setRow_heap w b vals _ _ _ hbl, hVs.trans g2, by simpa using g3, g4, fun i' j' row' x' hi' hj' => ?_⟩⟩
    · rcases List.mem_or_eq_of_mem_set hr' with h | h
      · exact g0 _ h
      · rw [h]; exact hsl
    rw [hVg]
    rw [List.getElem?_set] at hi'
    by_cases hii : i = i'
    · subst hii
      rw [if_pos rfl, if_pos hil] at hi'
      injection hi' with hi'
      subst hi'
      rw [setSegC_get (by omega)] at hj'
      by_cases hin : j ≤ j' ∧ j' < j + ds.length
      · rw [if_pos hin] at hj'
        rw [if_pos (by omega)]
        have hj2 : j' - j < (a.eval y).cells.size := by omega
        refine ⟨(a.eval y).cells[j' - j], by rw [show i * sz + j' - (i * sz + j) = j' - j by omega]; simp [hj2], ?_⟩
        have hvs : vs[j' - j]? = some (vs[j' - j]'(by omega)) := List.getElem?_eq_getElem (by omega)
        exact ((k2 (j' - j) _ _ (Array.getElem?_eq_getElem hj2) hvs).unD (u2 _ _ _ hvs hj')).mono hf.rd hf.cell
      · rw [if_neg hin] at hj'
        rw [if_neg (by omega)]
        obtain ⟨u, hu, hr⟩ := g5 i j' row x' hi hj'
        exact ⟨u, hu, hr.mono hf.rd hf.cell⟩
    · rw [if_neg hii] at hi'
      obtain ⟨u, hu, hr⟩ := g5 i' j' row' x' hi' hj'
      have hl' := g0 row' (List.mem_of_getElem? hi')
      have hj'l := (List.getElem?_eq_some_iff.1 hj').1
      rw [if_neg ?_]
      · exact ⟨u, hu, hr.mono hf.rd hf.cell⟩
      · intro ⟨q1, q2⟩
        rcases Nat.lt_or_gt_of_ne hii with hlt | hlt
        · have : (i + 1) * sz ≤ i' * sz := Nat.mul_le_mul_right _ hlt
          rw [Nat.add_mul] at this
          omega
        · have : (i' + 1) * sz ≤ i * sz := Nat.mul_le_mul_right _ hlt
          rw [Nat.add_mul] at this
          omega)
  unfold Oper.wp
  rw [hrun]
  refine hK g _ _ _ rfl ?_
  rw [hd]
  exact h2
end
end Go.Proofs.Ytbnmcdnkeipdhaa
