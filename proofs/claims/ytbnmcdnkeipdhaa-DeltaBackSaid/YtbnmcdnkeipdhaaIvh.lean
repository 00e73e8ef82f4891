/- Slices made and appended to, on ideal states. -/
import Derived.Test.YtbnmcdnkeipdhaaIvg
set_option linter.all false
namespace Go.Proofs.Ytbnmcdnkeipdhaa
open Go.RowKit

def chunks (sz len : Nat) (fl : List Cell) : List (List Cell) := match len with
  | 0 => []
  | n + 1 => fl.take sz :: chunks sz n (fl.drop sz)
theorem chunks_len (sz len : Nat) (fl : List Cell) : (chunks sz len fl).length = len := by
  induction len generalizing fl with
  | zero => rfl
  | succ n ih => simp [chunks, ih]
theorem chunks_get (sz len : Nat) (fl : List Cell) (i : Nat) (hi : i < len) : (chunks sz len fl)[i]? = some ((fl.drop (i * sz)).take sz) := by
  induction len generalizing fl i with
  | zero => omega
  | succ n ih =>
    cases i with
    | zero => simp [chunks]
    | succ i =>
      simp only [chunks, List.getElem?_cons_succ]
      rw [ih _ i (by omega), List.drop_drop]
      congr 3
      rw [Nat.add_mul]; omega
section
variable {P : Program} {T : TypeId} {N : Nat} {w0 : Org} {g g' : Gh} {s : St} {a : Act} {w w' : World} {o : Oper} {τ : List TyI}

theorem opr_buildSliceG (hτ : tabB P 0 τ = true) {t d len e sz by_ : Nat} {zs : List Z} {parts : Array (Nat × Operand)} {cp : List (Nat × List CV)} {r : List CV} {fl : List Cell} (ho : o.op = .buildSlice t len parts) (hd : o.dst = some d) (hN : d < N)
    (ht : tyAt τ t = .sl e sz by_) (hz : (tyAt τ e).zs = some zs) (hp : partsOf s parts.toList = some cp) (hr : cfill ((List.range len).map fun i => (i * sz, sz)) (List.replicate (len * sz) .u) cp = some r) (hfl : unDL r = some fl)
    (h0 : 0 < len * sz) (hm : len * sz ≤ 16777216) (f1 : ∀ x, (getF s.F x).has d = false) (f2 : ∀ r, (getH s.H r).has d = false) (hzl : zs.length = sz) :
    OpR P T N w0 s o (fun s' => s' = (s.hput d (.arr e sz (chunks sz len fl))).put d (.one (.sl d len sz))) := by
  intro g a w hs K Q hK
  obtain ⟨hu, inf, hi, hsz⟩ := sliceT_spec (tab_sl hτ ht)
  obtain ⟨i, z, hi2, hz1, hz2, hz3⟩ := zeroB_spec (tab_zs hτ hz)
  obtain rfl : i = inf := by rw [hi] at hi2; injection hi2 with h; exact h.symm
  obtain ⟨k1, k2⟩ := partsOf_rep hs _ _ hp
  have hzs : z.cells.size = sz := by rw [hz2]; simp [hzl]
  obtain ⟨vals', q1, q2, q3⟩ := fill_rep (P := P) (g := g) (w := w) (place := fun i => some (i * sz, sz)) (pl := (List.range len).map fun i => (i * sz, sz)) (by
      intro i p h
      rw [List.getElem?_map] at h
      by_cases hlt : i < len
      · simp [hlt] at h; rw [h]
      · simp [hlt] at h) _ cp ((Array.range (len * sz)).map (z.cells[· % z.cells.size]!)) _ r k1 k2 (by simp) (fun j u c hu hc => by
      have hlt : j < len * sz := by have := (Array.getElem?_eq_some_iff.1 hu).1; simpa using this
      rw [List.getElem?_replicate, if_pos hlt] at hc
      injection hc with hc
      subst hc
      have hsz0 : 0 < sz := Nat.pos_of_mul_pos_left h0
      have hj : j % z.cells.size < z.cells.size := Nat.mod_lt _ (by omega)
      simp [hlt] at hu
      rw [← hu]
      refine .u ?_
      have hzz : (zs.map Z.cv)[j % z.cells.size]? = some ((zs.map Z.cv)[j % z.cells.size]'(by rw [← hz2]; exact hj)) := List.getElem?_eq_getElem _
      have := (hz3 g w (j % z.cells.size) _ _ (Array.getElem?_eq_getElem hj) hzz).one
      simpa [hj] using this) hr
  obtain ⟨u1, u2⟩ := unDL_get hfl
  have hrl : r.length = len * sz := by
    have : ∀ (cp : List (Nat × List CV)) (cs r : List CV), cfill ((List.range len).map fun i => (i * sz, sz)) cs cp = some r → r.length = cs.length := by
      intro cp
      induction cp with
      | nil => intro cs r h; simp [cfill] at h; rw [h]
      | cons p cp ih =>
        intro cs r h
        simp only [cfill] at h
        cases hq : ((List.range len).map fun i => (i * sz, sz))[p.1]? with
        | none => rw [hq] at h; cases h
        | some x =>
          rw [hq] at h
          dsimp only at h
          cases hb : (Nat.beq p.2.length x.2 && Nat.ble (x.1 + p.2.length) cs.length) with
          | false => rw [hb] at h; cases h
          | true =>
            rw [hb] at h
            rw [Bool.and_eq_true] at hb
            have h2 := Nat.le_of_ble_eq_true hb.2
            rw [ih _ _ h]
            simp [setSeg]; omega
    rw [this _ _ _ hr]; simp
  have hbu := run_buildSlice (P := P) w t e len (parts.map fun (i, x) => (i, a.eval x)) vals' i z hu hi hz1 (by rw [hsz]; omega) (by rw [hsz]; omega) (by rw [hsz]; simpa using q1)
  have hrun : (execOp a.eval o).run P w = .ok (.value (.slice (some ⟨w.heap.size, 0, none⟩) len len)) (w.alloc (.cells vals' e)) := by
    simp only [execOp, ho, Sem.run_bind, hbu, Result.andThen_ok, Sem.run_pure]
  have hsz0 : 0 < sz := Nat.pos_of_mul_pos_left h0
  have hlen2 : len ≤ len * sz := Nat.le_mul_of_pos_right _ hsz0
  have h1 := hs.newG (d := d) f1 f2 (r0 := none) (ob := none) (nb := some w.heap.size) (k := len) (w' := w.alloc (.cells vals' e)) (vh := .arr e sz (chunks sz len fl)) (fun b hb => (by cases hb)) (World.grownBy_alloc w _ none) (fun b hb => (by simp at hb; subst hb; exact ⟨.inr (Nat.le_refl _), by simp⟩)) rfl (fun hf => by
    refine ⟨fun row hrow => ?_, .inr ⟨w.heap.size, vals', by simp [Gh.new, updO], Blk.new _ _ _, by simp [Gh.new, updN]; omega, by simp [Gh.new, updN, chunks_len], by simp [Gh.new, updN]; unfold maxLen; omega, fun i' j row x hi' hj => ?_⟩⟩
    · obtain ⟨i', hi'⟩ := List.getElem?_of_mem hrow
      have hlt := (List.getElem?_eq_some_iff.1 hi').1
      rw [chunks_len] at hlt
      rw [chunks_get _ _ _ _ hlt] at hi'
      injection hi' with hi'
      rw [← hi']
      have : (i' + 1) * sz ≤ len * sz := Nat.mul_le_mul_right _ hlt
      rw [Nat.add_mul] at this
      simp
      omega
    · have hlt := (List.getElem?_eq_some_iff.1 hi').1
      rw [chunks_len] at hlt
      rw [chunks_get _ _ _ _ hlt] at hi'
      injection hi' with hi'
      rw [← hi'] at hj
      have hjl := (List.getElem?_eq_some_iff.1 hj).1
      simp at hjl
      rw [List.getElem?_take_of_lt (by omega), List.getElem?_drop] at hj
      have hlt2 := (List.getElem?_eq_some_iff.1 hj).1
      have hv : vals'[i' * sz + j]? = some (vals'[i' * sz + j]'(by omega)) := Array.getElem?_eq_getElem (by omega)
      have hrr : r[i' * sz + j]? = some (r[i' * sz + j]'(by omega)) := List.getElem?_eq_getElem (by omega)
      exact ⟨_, hv, ((q3 _ _ _ hv hrr).unD (u2 _ _ _ hrr hj)).mono hf.rd hf.cell⟩)
  unfold Oper.wp
  rw [hrun]
  refine hK (g.new d (some w.heap.size) len) _ _ _ rfl ?_
  rw [hd]
  refine h1.put hN (.one ?_)
  have := RepCV.sl (P := P) (g := g.new d (some w.heap.size) len) (w := w.alloc (.cells vals' e)) (r := d) (b := w.heap.size) len sz (by simp [Gh.new, updO]) (by simp [Gh.new, updN]) (by simp [Gh.new, updN]; unfold maxLen; omega)
  simpa [Gh.new, updN] using this

theorem opr_buildSlice (hτ : tabB P 0 τ = true) {t d len e sz by_ : Nat} {zs : List Z} {parts : Array (Nat × Operand)} {cp : List (Nat × List CV)} {r : List CV} {fl : List Cell} (ho : o.op = .buildSlice t len parts) (hd : o.dst = some d) (hN : d < N)
    (ht : tyAt τ t = .sl e sz by_) (hz : (tyAt τ e).zs = some zs) (hp : partsOf s parts.toList = some cp) (hr : cfill ((List.range len).map fun i => (i * sz, sz)) (List.replicate (len * sz) .u) cp = some r) (hfl : unDL r = some fl)
    (h0 : 0 < len * sz) (hm : len * sz ≤ 16777216) (hfr : s.fresh d = true) (hzl : zs.length = sz) :
    OpR P T N w0 s o (fun s' => s' = (s.hput d (.arr e sz (chunks sz len fl))).put d (.one (.sl d len sz))) :=
  opr_buildSliceG hτ ho hd hN ht hz hp hr hfl h0 hm (St.fresh_spec hfr).1 (St.fresh_spec hfr).2.1 hzl

/-- What is appended. -/
inductive Src (s : St) (sz : Nat) : SV → List (List Cell) → Prop where
  | d (rows : List (List Cell)) (h : ∀ row ∈ rows, row.length = sz) : Src s sz (.one (.d (.list rows))) rows
  | sl {r : Nat} {e : TypeId} {rows : List (List Cell)} (h : getH s.H r = .arr e sz rows) : Src s sz (.one (.sl r rows.length sz)) rows
  | nil : Src s sz (.one .nil) []
theorem divmod {i j sz : Nat} (h : j < sz) : (i * sz + j) / sz = i ∧ (i * sz + j) % sz = j := by
  have h0 : 0 < sz := by omega
  rw [Nat.mul_comm]
  exact ⟨by rw [Nat.mul_add_div h0, Nat.div_eq_of_lt h, Nat.add_zero], by rw [Nat.mul_add_mod, Nat.mod_eq_of_lt h]⟩
theorem arr_vals {r sz : Nat} {e : TypeId} {rows : List (List Cell)} (hs : Sim P T N w0 g s a w) (hH : getH s.H r = .arr e sz rows) {v : Value} (hv : RepCV P g w v (.sl r rows.length sz)) :
    (v = .slice none 0 0 ∧ rows = [] ∧ g.β r = none) ∨ ∃ b vals, g.β r = some b ∧ v = .slice (some ⟨b, 0, none⟩) rows.length (g.κ r) ∧ Blk w b e vals ∧ vals.size = g.κ r * sz ∧ rows.length ≤ g.κ r ∧ g.κ r ≤ maxLen ∧
      ∀ (i j : Nat) (row : List Cell) (x : Cell), rows[i]? = some row → row[j]? = some x → ∃ u, vals[i * sz + j]? = some u ∧ RepCell g.Rd w u x := by
  have hh := hs.hH r; rw [hH] at hh
  obtain ⟨_, hh⟩ := hh
  rcases hv.sl_inv with ⟨e1, e2, e3⟩ | ⟨b, hb, h1, h2, e1⟩
  · exact .inl ⟨e1, List.eq_nil_of_length_eq_zero e2, e3⟩
  · rcases hh with ⟨h3, _⟩ | ⟨b', vals, hb', hbl, h3, h4, h5, h6⟩
    · rw [hb] at h3; cases h3
    · obtain rfl : b = b' := by rw [hb] at hb'; injection hb'
      exact .inr ⟨b, vals, hb, e1, hbl, h3, h4, h5, h6⟩
theorem Src.vals {sz : Nat} {sv : SV} {rows : List (List Cell)} (h : Src s sz sv rows) (hz : 0 < sz) (hs : Sim P T N w0 g s a w) {v : Value} (hv : RepSV P g w v sv) :
    ∃ (A : Option Addr) (c : Nat) (news : List Value), v = .slice A rows.length c ∧ Cells (fun _ => False) w A news ∧ news.length = rows.length * sz ∧ (∀ u ∈ news, u.oneCell' = true) ∧
      ∀ (i j : Nat) (row : List Cell) (x : Cell), rows[i]? = some row → row[j]? = some x → j < sz ∧ ∃ u, news[i * sz + j]? = some u ∧ RepCell g.Rd w u x := by
  cases h with
  | nil =>
    generalize hsv : (SV.one CV.nil) = sv at hv
    cases hv <;> cases hsv
    rename_i h
    cases h
    exact ⟨none, 0, [], rfl, Cells.nil _ _ _, by simp, by simp, by simp⟩
  | d rows h =>
    obtain ⟨A, cap, sz', vals, rfl, h0, h1, h2, hsz, hc, hr⟩ := hv.list_inv.list_inv
    have hss : ∀ i j, i < rows.length → j < sz → ∃ b o, A = some ⟨b, o, none⟩ ∧ g.Rd b (o + (i * sz + j)) ∧ w.cell? ⟨b, o + (i * sz + j), none⟩ = some (vals i j) := fun i j hi hj => by
      have e1 := h _ (List.getElem_mem hi)
      have e2 := hsz _ (List.getElem_mem hi)
      rw [e1] at e2
      subst e2
      exact hc i j hi hj
    have hlt : ∀ k, k < rows.length * sz → k / sz < rows.length ∧ k % sz < sz ∧ k / sz * sz + k % sz = k := fun k hk => ⟨(Nat.div_lt_iff_lt_mul hz).2 hk, Nat.mod_lt _ hz, by rw [Nat.mul_comm]; exact Nat.div_add_mod k sz⟩
    refine ⟨A, cap, (List.range (rows.length * sz)).map fun k => vals (k / sz) (k % sz), rfl, fun k u hu => ?_, by simp, fun u hu => ?_, fun i j row x hi hj => ?_⟩
    · rw [List.getElem?_map] at hu
      by_cases hk : k < rows.length * sz
      · simp [hk] at hu
        obtain ⟨l1, l2, l3⟩ := hlt k hk
        obtain ⟨b, o, rfl, _, hcell⟩ := hss _ _ l1 l2
        refine ⟨⟨b, o, none⟩, rfl, fun h => h, ?_⟩
        rw [Addr.add_lit, ← hu, ← hcell, l3]
      · simp [hk] at hu
    · obtain ⟨k, hk, rfl⟩ := List.mem_map.1 hu
      simp at hk
      obtain ⟨l1, l2, l3⟩ := hlt k hk
      have e1 := h _ (List.getElem_mem l1)
      exact (hr (k / sz) (k % sz) _ _ (List.getElem?_eq_getElem l1) (List.getElem?_eq_getElem (by omega))).one
    · have hil := (List.getElem?_eq_some_iff.1 hi).1
      have hjl := (List.getElem?_eq_some_iff.1 hj).1
      have e1 := h _ (List.mem_of_getElem? hi)
      have hj' : j < sz := by omega
      have hk : i * sz + j < rows.length * sz := by
        have : (i + 1) * sz ≤ rows.length * sz := Nat.mul_le_mul_right _ hil
        rw [Nat.add_mul] at this
        omega
      refine ⟨hj', vals i j, ?_, hr i j row x hi hj⟩
      rw [List.getElem?_map, List.getElem?_range hk]
      simp [(divmod (i := i) hj').1, (divmod (i := i) hj').2]
  | @sl r e rows h =>
    have hh := hs.hH r; rw [h] at hh
    obtain ⟨g0, _⟩ := hh
    rcases arr_vals hs h hv.one_inv with ⟨rfl, rfl, _⟩ | ⟨b, vals, hb, rfl, hbl, h1, h2, h3, h4⟩
    · exact ⟨none, 0, [], rfl, Cells.nil _ _ _, by simp, by simp, by simp⟩
    · have hle : rows.length * sz ≤ vals.size := by rw [h1]; exact Nat.mul_le_mul_right _ h2
      refine ⟨some ⟨b, 0, none⟩, _, vals.toList.take (rows.length * sz), rfl, fun k u hu => ?_, by simp; omega, fun u hu => ?_, fun i j row x hi hj => ?_⟩
      · have hk : k < rows.length * sz := by have := (List.getElem?_eq_some_iff.1 hu).1; simp at this; omega
        rw [List.getElem?_take_of_lt hk] at hu
        refine ⟨⟨b, 0, none⟩, rfl, fun h => h, ?_⟩
        rw [Addr.add_lit, Nat.zero_add, hbl.cell k]
        simpa using hu
      · obtain ⟨k, hk⟩ := List.getElem?_of_mem hu
        have hkl : k < rows.length * sz := by have := (List.getElem?_eq_some_iff.1 hk).1; simp at this; omega
        rw [List.getElem?_take_of_lt hkl] at hk
        have l1 : k / sz < rows.length := (Nat.div_lt_iff_lt_mul hz).2 hkl
        have l2 : k % sz < sz := Nat.mod_lt _ hz
        have e1 := g0 _ (List.getElem_mem l1)
        obtain ⟨u', hu', hr⟩ := h4 (k / sz) (k % sz) _ _ (List.getElem?_eq_getElem l1) (List.getElem?_eq_getElem (by omega))
        rw [show k / sz * sz + k % sz = k by rw [Nat.mul_comm]; exact Nat.div_add_mod k sz] at hu'
        have : u = u' := by
          rw [Array.getElem?_toList] at hk
          rw [hk] at hu'
          injection hu'
        rw [this]
        exact hr.one
      · have hil := (List.getElem?_eq_some_iff.1 hi).1
        have hjl := (List.getElem?_eq_some_iff.1 hj).1
        have e1 := g0 _ (List.mem_of_getElem? hi)
        have hk : i * sz + j < rows.length * sz := by
          have : (i + 1) * sz ≤ rows.length * sz := Nat.mul_le_mul_right _ hil
          rw [Nat.add_mul] at this
          omega
        obtain ⟨u', hu', hr⟩ := h4 i j row x hi hj
        refine ⟨by omega, u', ?_, hr⟩
        rw [List.getElem?_take_of_lt hk]
        simpa using hu'

/-- The slice that is appended to. -/
inductive Tgt (s : St) (e : TypeId) (sz : Nat) : SV → Option Nat → List (List Cell) → Prop where
  | nil : Tgt s e sz (.one .nil) none []
  | sl {r : Nat} {rows : List (List Cell)} (h : getH s.H r = .arr e sz rows) : Tgt s e sz (.one (.sl r rows.length sz)) (some r) rows
theorem Tgt.owns {e : TypeId} {sz : Nat} {sv : SV} {r0 : Option Nat} {rows : List (List Cell)} (h : Tgt s e sz sv r0 rows) (hz : 0 < sz) (hs : Sim P T N w0 g s a w) {v : Value} (hv : RepSV P g w v sv) :
    ∃ xs, w.ownsRow w0.heap.size e sz v rows.length xs ∧ (∀ row ∈ rows, row.length = sz) ∧ (∀ b, v.ownBlock = some b → ∃ r, r0 = some r ∧ live s.H r ∧ g.β r = some b) ∧
      ∀ (i j : Nat) (row : List Cell) (x : Cell), rows[i]? = some row → row[j]? = some x → ∃ u, xs[i * sz + j]? = some u ∧ RepCell g.Rd w u x := by
  cases h with
  | nil =>
    generalize hsv : (SV.one CV.nil) = sv at hv
    cases hv <;> cases hsv
    rename_i h
    cases h
    exact ⟨[], World.ownsRow_nil _ _ _ _, (by simp), (fun b hb => by cases hb), (by simp)⟩
  | @sl r rows h =>
    have hh := hs.hH r; rw [h] at hh
    obtain ⟨g0, _⟩ := hh
    rcases arr_vals hs h hv.one_inv with ⟨rfl, rfl, _⟩ | ⟨b, vals, hb, rfl, hbl, h1, h2, h3, h4⟩
    · exact ⟨[], World.ownsRow_nil _ _ _ _, (by simp), (fun b hb => by cases hb), (by simp)⟩
    · have hle : rows.length * sz ≤ vals.size := by rw [h1]; exact Nat.mul_le_mul_right _ h2
      have hl : live s.H r := by unfold live; rw [h]; rfl
      refine ⟨vals.toList.take (rows.length * sz), ⟨by simp; omega, .inr ⟨b, g.κ r, vals, rfl, (hs.gi.bd r b hl hb).1, hbl, h2, h3, h1, rfl⟩⟩, g0, fun b' hb' => ?_, fun i j row x hi hj => ?_⟩
      · simp [Value.ownBlock] at hb'; subst hb'; exact ⟨r, rfl, hl, hb⟩
      · have hil := (List.getElem?_eq_some_iff.1 hi).1
        have hjl := (List.getElem?_eq_some_iff.1 hj).1
        have e1 := g0 _ (List.mem_of_getElem? hi)
        have hk : i * sz + j < rows.length * sz := by
          have : (i + 1) * sz ≤ rows.length * sz := Nat.mul_le_mul_right _ hil
          rw [Nat.add_mul] at this
          omega
        obtain ⟨u', hu', hr⟩ := h4 i j row x hi hj
        refine ⟨u', ?_, hr⟩
        rw [List.getElem?_take_of_lt hk]
        simpa using hu'
theorem own_arr {e : TypeId} {sz n d : Nat} {v : Value} {xs : List Value} {rows : List (List Cell)} {base : Nat} (h : w'.ownsRow base e sz v n xs) (hn : n = rows.length) (hl : ∀ row ∈ rows, row.length = sz)
    (hx : ∀ (i j : Nat) (row : List Cell) (x : Cell), rows[i]? = some row → row[j]? = some x → ∃ u, xs[i * sz + j]? = some u ∧ RepCell g.Rd w' u x) :
    ∃ k, HeapOK P (g.new d v.ownBlock k) w' d (.arr e sz rows) ∧ RepCV P (g.new d v.ownBlock k) w' v (.sl d rows.length sz) ∧ ∀ b, v.ownBlock = some b → b < w'.heap.size := by
  obtain ⟨h1, h2⟩ := h
  subst hn
  rcases h2 with ⟨rfl, h3⟩ | ⟨b, cap, cur, rfl, hb, hg, h3, h4, h5, h6⟩
  · have : rows = [] := List.eq_nil_of_length_eq_zero h3
    subst this
    exact ⟨0, ⟨by simp, .inl ⟨by simp [Gh.new, updO, Value.ownBlock], rfl⟩⟩, .slv _ (by simp [Gh.new, updO, Value.ownBlock]), fun b hb => by cases hb⟩
  · refine ⟨cap, ⟨hl, .inr ⟨b, cur, by simp [Gh.new, updO, Value.ownBlock], hg, by simp [Gh.new, updN, h5], by simp [Gh.new, updN, h3], by simp [Gh.new, updN, h4], fun i j row x hi hj => ?_⟩⟩, ?_, fun b' hb' => ?_⟩
    · obtain ⟨u, hu, hr⟩ := hx i j row x hi hj
      refine ⟨u, ?_, hr⟩
      rw [← h6, List.getElem?_take] at hu
      split at hu
      · simpa using hu
      · cases hu
    · have := RepCV.sl (P := P) (g := g.new d (some b) cap) (w := w') (r := d) (b := b) rows.length sz (by simp [Gh.new, updO]) (by simp [Gh.new, updN, h3]) (by simp [Gh.new, updN, h4])
      simpa [Gh.new, updN, Value.ownBlock] using this
    · simp [Value.ownBlock] at hb'; subst hb'; exact (Array.getElem?_eq_some_iff.1 hg).1
theorem append_core (hτ : tabB P 0 τ = true) {t d e sz by_ D : Nat} {F : List (Nat × SV)} {zs : List Z} {x y : Operand} {r0 : Option Nat} {rows rows' : List (List Cell)} (ho : o.op = .call { callee := .builtin .append, args := #[x, y], argTypes := #[t, t] }) (hd : o.dst = some d) (hN : d < N)
    (ht : tyAt τ t = .sl e sz by_) (hz : (tyAt τ e).zs = some zs) (hzl : zs.length = sz) (h0 : 0 < sz) (hx : Tgt s e sz (s.ev x) r0 rows) (hy : Src s sz (s.ev y) rows') (f1 : ∀ x, (getF F x).has D = false) (f2 : ∀ r, (getH s.H r).has D = false) (hF : ∀ x, getF F x = .u ∨ getF F x = getF s.F x)
    (hbd : (rows.length + rows'.length) * by_ ≤ 140737488355328) (hb0 : 0 < by_) :
    OpR P T N w0 s o (fun s' => s' = (St.mk F ((D, .arr e sz (rows ++ rows')) :: goneH r0 s.H)).put d (.one (.sl D (rows ++ rows').length sz))) := by
  intro g a w hs K Q hK
  obtain ⟨hu, inf, hi, hsz⟩ := sliceT_spec (tab_sl hτ ht)
  have hby : inf.bytes = by_ := by
    have := tab_by hτ ht
    unfold bytesB at this
    rw [hi] at this
    exact Nat.eq_of_beq_eq_true this
  obtain ⟨i, z, hi2, hz1, hz2, hz3⟩ := zeroB_spec (tab_zs hτ hz)
  obtain rfl : i = inf := by rw [hi] at hi2; injection hi2 with h; exact h.symm
  have hzs : z.cells.size = sz := by rw [hz2]; simp [hzl]
  obtain ⟨xs, hown, hrl, hob, hxr⟩ := hx.owns h0 hs (hs.ev x)
  obtain ⟨A, c, news, ey, hC, hnl, hn1, hnr⟩ := hy.vals h0 hs (hs.ev y)
  have hrl' : ∀ row ∈ rows', row.length = sz := by
    generalize hsv : s.ev y = sv at hy
    cases hy with
    | d _ h => exact h
    | @sl r e' rows h => have hh := hs.hH r; rw [h] at hh; exact hh.1
    | nil => simp
  have hle : rows.length + rows'.length ≤ (rows.length + rows'.length) * by_ := Nat.le_mul_of_pos_right _ hb0
  refine wp_append_any w x y t ho w0.heap.size e i z sz by_ hu hi hz1 hsz hby hzs h0 (a.eval x) rows.length xs rfl hown (fun _ => False) A rows'.length c news ey hC hnl hn1 (by unfold maxLen; omega) hbd (by have := hs.gi.sz; omega) fun v' w' hown' hg' hat => ?_
  have hlen : (rows ++ rows').length = rows.length + rows'.length := List.length_append
  have hsz' := hown.lt
  have key : Fut g.Rd g.Rd w w' → ∀ (i j : Nat) (row : List Cell) (x : Cell), (rows ++ rows')[i]? = some row → row[j]? = some x → ∃ u, (xs ++ news)[i * sz + j]? = some u ∧ RepCell g.Rd w' u x := fun hf i j row x hi hj => by
    have hxl : xs.length = rows.length * sz := hown.1
    by_cases hlt : i < rows.length
    · rw [List.getElem?_append_left hlt] at hi
      obtain ⟨u, hu, hr⟩ := hxr i j row x hi hj
      refine ⟨u, ?_, hr.mono hf.rd hf.cell⟩
      rw [List.getElem?_append_left (List.getElem?_eq_some_iff.1 hu).1]
      exact hu
    · rw [List.getElem?_append_right (by omega)] at hi
      obtain ⟨hj', u, hu, hr⟩ := hnr _ j row x hi hj
      refine ⟨u, ?_, hr.mono hf.rd hf.cell⟩
      have e1 : i * sz = rows.length * sz + (i - rows.length) * sz := by rw [← Nat.add_mul]; congr 1; omega
      rw [List.getElem?_append_right (by omega)]
      rw [← hu]
      congr 1
      omega
  have hrl2 : ∀ row ∈ rows ++ rows', row.length = sz := fun row hr => by
    rcases List.mem_append.1 hr with h | h
    · exact hrl _ h
    · exact hrl' _ h
  have hfut : Fut g.Rd g.Rd w w' := ⟨fun _ _ h => h, fun b o' hb => World.cell?_of_block (w := w) (a := ⟨b, o', none⟩) (hg'.block b (hs.gi.rd b o' hb).1 (fun e => by
    obtain ⟨r, _, hl, hr⟩ := hob b e.symm
    exact (hs.gi.rd b o' hb).2.2 r hl hr))⟩
  obtain ⟨k, q1, q2, q3⟩ := own_arr (P := P) (g := g) (d := D) hown' hlen.symm hrl2 (key hfut)
  have hs1 : Sim P T N w0 g ⟨F, s.H⟩ a w := ⟨hs.gi, hs.dn, hs.nt, fun x => by
    rcases hF x with h | h
    · show RepSV P g w _ (getF F x); rw [h]; exact .u _
    · show RepSV P g w _ (getF F x); rw [h]; exact hs.hF x, hs.hH⟩
  have h1 := hs1.newG (d := D) f1 f2 (r0 := r0) (ob := (a.eval x).ownBlock) (nb := v'.ownBlock) (k := k) (vh := .arr e sz (rows ++ rows')) hob hg' (fun b hb => by
    refine ⟨?_, q3 b hb⟩
    rcases hat with e | e
    · exact .inl (by rw [← e]; exact hb)
    · rw [e] at hb; injection hb with hb; exact .inr (by omega)) rfl (fun _ => q1)
  rw [hd]
  exact hK _ _ _ _ rfl (h1.put hN (.one q2))

def killF (r : Nat) : List (Nat × SV) → List (Nat × SV)
  | [] => []
  | p :: l => (p.1, bif p.2.has r then .u else p.2) :: killF r l
theorem killF_get (r : Nat) (F : List (Nat × SV)) (x : Nat) : getF (killF r F) x = if (getF F x).has r = true then .u else getF F x := by
  induction F with
  | nil => rfl
  | cons p F ih =>
    simp only [killF, getF, beq_eq]
    by_cases e : p.1 = x
    · simp only [e, decide_true, cond_true]
      cases p.2.has r <;> rfl
    · simp [e, ih]
theorem opr_append_nil (hτ : tabB P 0 τ = true) {t d e sz by_ : Nat} {zs : List Z} {x y : Operand} {rows' : List (List Cell)} (ho : o.op = .call { callee := .builtin .append, args := #[x, y], argTypes := #[t, t] }) (hd : o.dst = some d) (hN : d < N)
    (ht : tyAt τ t = .sl e sz by_) (hz : (tyAt τ e).zs = some zs) (hzl : zs.length = sz) (h0 : 0 < sz) (hx : s.ev x = .one .nil) (hy : Src s sz (s.ev y) rows') (hfr : s.fresh d = true)
    (hbd : rows'.length * by_ ≤ 140737488355328) (hb0 : 0 < by_) :
    OpR P T N w0 s o (fun s' => s' = (s.hput d (.arr e sz rows')).put d (.one (.sl d rows'.length sz))) := by
  have := append_core (P := P) (T := T) (N := N) (w0 := w0) (D := d) (F := s.F) (r0 := none) (rows := []) hτ ho hd hN ht hz hzl h0 (by rw [hx]; exact .nil) hy (St.fresh_spec hfr).1 (St.fresh_spec hfr).2.1 (fun _ => .inr rfl) (by simpa using hbd) hb0
  simpa [goneH, St.hput] using this
theorem opr_append_sl (hτ : tabB P 0 τ = true) {t d e sz by_ r n : Nat} {zs : List Z} {x y : Operand} {rows rows' : List (List Cell)} (ho : o.op = .call { callee := .builtin .append, args := #[x, y], argTypes := #[t, t] }) (hd : o.dst = some d) (hN : d < N)
    (ht : tyAt τ t = .sl e sz by_) (hz : (tyAt τ e).zs = some zs) (hzl : zs.length = sz) (h0 : 0 < sz) (hx : s.ev x = .one (.sl r n sz)) (hr : getH s.H r = .arr e sz rows) (hn : n = rows.length) (hy : Src s sz (s.ev y) rows') (hfr : allH r s.H = true)
    (hbd : (rows.length + rows'.length) * by_ ≤ 140737488355328) (hb0 : 0 < by_) :
    OpR P T N w0 s o (fun s' => s' = (St.mk (killF r s.F) ((r, .arr e sz (rows ++ rows')) :: s.H)).put d (.one (.sl r (rows ++ rows').length sz))) := by
  subst hn
  have q1 : ∀ x, (getF (killF r s.F) x).has r = false := fun x => by
    rw [killF_get]
    split
    · rfl
    · simp_all
  have q2 : ∀ x, getF (killF r s.F) x = .u ∨ getF (killF r s.F) x = getF s.F x := fun x => by
    rw [killF_get]
    split
    · exact .inl rfl
    · exact .inr rfl
  have h := append_core (P := P) (T := T) (N := N) (w0 := w0) (D := r) (F := killF r s.F) (r0 := some r) (rows := rows) hτ ho hd hN ht hz hzl h0 (by rw [hx]; exact .sl hr) hy q1 (fun q => allH_get hfr q) q2 hbd hb0
  intro g a w hs K Q hK
  refine h g a w hs K Q fun g' s' a' w' e hs' => hK g' _ a' w' rfl ?_
  subst e
  refine ⟨⟨fun q q' b h1 h2 => hs'.gi.inj q q' b ?_ ?_, fun q b h1 => hs'.gi.bd q b ?_, fun b o' hr => ?_, hs'.gi.keep, hs'.gi.tape, hs'.gi.org⟩, hs'.dn, hs'.nt, hs'.hF, fun q => ?_⟩
  all_goals
    have hg : ∀ q, getH ((r, VH.arr e sz (rows ++ rows')) :: goneH (some r) s.H) q = getH ((r, VH.arr e sz (rows ++ rows')) :: s.H) q := fun q => by
      simp only [hget_put, goneH_get]
      by_cases e : r = q <;> simp [e]
  · show live _ q; unfold live; rw [show getH ((St.mk (killF r s.F) ((r, VH.arr e sz (rows ++ rows')) :: goneH (some r) s.H)).put d (.one (.sl r (rows ++ rows').length sz))).H q = _ from hg q]; exact h1
  · show live _ q'; unfold live; rw [show getH ((St.mk (killF r s.F) ((r, VH.arr e sz (rows ++ rows')) :: goneH (some r) s.H)).put d (.one (.sl r (rows ++ rows').length sz))).H q' = _ from hg q']; exact h2
  · show live _ q; unfold live; rw [show getH ((St.mk (killF r s.F) ((r, VH.arr e sz (rows ++ rows')) :: goneH (some r) s.H)).put d (.one (.sl r (rows ++ rows').length sz))).H q = _ from hg q]; exact h1
  · obtain ⟨a1, a2, a3⟩ := hs'.gi.rd b o' hr
    refine ⟨a1, a2, fun q hq => a3 q ?_⟩
    unfold live; rw [show getH ((St.mk (killF r s.F) ((r, VH.arr e sz (rows ++ rows')) :: goneH (some r) s.H)).put d (.one (.sl r (rows ++ rows').length sz))).H q = _ from hg q]; exact hq
  · have := hs'.hH q
    rw [show getH ((St.mk (killF r s.F) ((r, VH.arr e sz (rows ++ rows')) :: goneH (some r) s.H)).put d (.one (.sl r (rows ++ rows').length sz))).H q = _ from hg q] at this
    exact this
end
end Go.Proofs.Ytbnmcdnkeipdhaa
