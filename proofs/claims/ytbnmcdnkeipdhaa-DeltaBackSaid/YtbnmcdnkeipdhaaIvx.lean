/- Parts of lists. -/
import Derived.Test.YtbnmcdnkeipdhaaIvw
import Derived.Laws.Cover3
set_option linter.all false
namespace Go.Proofs.Ytbnmcdnkeipdhaa
open Go.RowKit Go.Shelf
theorem add_at (b o n : Nat) : (⟨b, o, none⟩ : Addr).add n = ⟨b, o + n, none⟩ := by unfold Addr.add; split <;> simp_all
theorem rep_sliced {Rd : Nat → Nat → Prop} {w : World} {A : Option Addr} {len cap sz : Nat} {xs : List (List Cell)} (h : RepCell Rd w (.slice A len cap) (.list xs)) (hsz : ∀ row ∈ xs, row.length = sz) {l u : Nat} (h1 : l ≤ u) (h2 : u ≤ len) : RepCell Rd w (Go.sliced A l u cap sz) (.list ((xs.take u).drop l)) := by
  generalize hv : Value.slice A len cap = v at h
  cases h with
  | list A' cap' _ sz' vals k0 k1 k2 ksz kc kr =>
    injection hv with e1 e2 e3
    subst e1 e2 e3
    have hl : ((xs.take u).drop l).length = u - l := by simp; omega
    unfold Go.sliced
    have hu : u - l = ((xs.take u).drop l).length := hl.symm
    rw [hu]
    by_cases hm : cap = l
    · rw [if_pos hm]
      have : (xs.take u).drop l = [] := by rw [List.eq_nil_iff_length_eq_zero]; omega
      rw [this]
      exact .list A (cap - l) [] 0 (fun _ _ => undef) (fun _ => rfl) (Nat.zero_le _) (by omega) (by simp) (by simp) (by simp)
    · rw [if_neg hm]
      by_cases hx : xs = []
      · subst hx
        simp only [List.take_nil, List.drop_nil, List.length_nil]
        refine .list _ (cap - l) [] 0 (fun _ _ => undef) (fun _ => rfl) (Nat.zero_le _) (by omega) (by simp) (by simp) (by simp)
      · have hz : sz' = sz := by
          cases xs with
          | nil => exact absurd rfl hx
          | cons r xs => rw [← ksz r (by simp), hsz r (by simp)]
        subst hz
        have hget : ∀ (i : Nat), ((xs.take u).drop l)[i]? = if l + i < u then xs[l + i]? else none := fun i => by
          rw [List.getElem?_drop, List.getElem?_take]
        refine .list _ (cap - l) _ sz' (fun i j => vals (l + i) j) (fun hn => ?_) (by omega) (by omega) (fun row hr => ?_) (fun i j hi hj => ?_) (fun i j row x hi hj => ?_)
        · cases A with
          | none => exact absurd (k0 rfl) hx
          | some a => cases hn
        · exact ksz row (List.mem_of_mem_take (List.mem_of_mem_drop hr))
        · rw [hl] at hi
          obtain ⟨b, o, e, q1, q2⟩ := kc (l + i) j (by omega) hj
          subst e
          have ee : o + ((l + i) * sz' + j) = o + l * sz' + (i * sz' + j) := by rw [Nat.add_mul]; omega
          rw [ee] at q1 q2
          exact ⟨b, o + l * sz', by simp [add_at], q1, q2⟩
        · rw [hget] at hi
          split at hi
          · exact kr (l + i) j row x hi hj
          · cases hi
section
variable {P : Program} {T : TypeId} {N : Nat} {w0 : Org} {s : St} {o : Oper} {t : Nat} {x y z : Operand} {sz : Nat}
theorem ope_slice_lh {e : TypeId} {rows : List (List Cell)} {k1 k2 : IntKind} {m n : Int} (ho : o.op = .slice t x (some y) (some z) none) (hx : s.ev x = .one (.d (.list rows))) (hy : s.ev y = .one (.d (.int k1 m))) (hz : s.ev z = .one (.d (.int k2 n))) (ht : sliceT P t e sz = true) (hr : ∀ row ∈ rows, row.length = sz) (h0 : 0 ≤ m) (h1 : m ≤ n) (h2 : n ≤ (rows.length : Int)) : OpE P T N w0 s o (.one (.d (.list ((rows.take n.toNat).drop m.toNat)))) :=
  ope_val fun g a w hs => by
    have q1 := hs.ev x; rw [hx] at q1
    have q2 := hs.ev y; rw [hy] at q2
    have q3 := hs.ev z; rw [hz] at q3
    obtain ⟨hu, inf, hi, hsz⟩ := sliceT_spec ht
    have he : P.elem t = e := by simp [Program.elem, hu]
    have q := q1.one_inv.unD rfl
    generalize hv : a.eval x = v at q
    cases q with
    | list A cap _ sz' vals k0 k1' k2' ksz kc kr =>
      refine ⟨Go.sliced A m.toNat n.toNat cap sz, ?_, .one (.d (rep_sliced (.list A cap rows sz' vals k0 k1' k2' ksz kc kr) hr (by omega) (by omega)))⟩
      have := run_slice_lh (P := P) w t A rows.length cap (by rw [he]; exact hu) k1 k2 m n h0 h1 (by omega)
      simp [execOp, ho, hv, q2.int_inv.1, q3.int_inv.1, run_sliceAt_slice w t _ _ _ _ (by rw [he]; exact hu), this, he, sizeOf, typeInfo, hi, hsz, Result.andThen]
theorem ope_slice_h {e : TypeId} {rows : List (List Cell)} {k2 : IntKind} {n : Int} (ho : o.op = .slice t x none (some z) none) (hx : s.ev x = .one (.d (.list rows))) (hz : s.ev z = .one (.d (.int k2 n))) (ht : sliceT P t e sz = true) (hr : ∀ row ∈ rows, row.length = sz) (h1 : 0 ≤ n) (h2 : n ≤ (rows.length : Int)) : OpE P T N w0 s o (.one (.d (.list (rows.take n.toNat)))) :=
  ope_val fun g a w hs => by
    have q1 := hs.ev x; rw [hx] at q1
    have q3 := hs.ev z; rw [hz] at q3
    obtain ⟨hu, inf, hi, hsz⟩ := sliceT_spec ht
    have he : P.elem t = e := by simp [Program.elem, hu]
    have q := q1.one_inv.unD rfl
    generalize hv : a.eval x = v at q
    cases q with
    | list A cap _ sz' vals k0 k1' k2' ksz kc kr =>
      refine ⟨Go.sliced A 0 n.toNat cap sz, ?_, .one (.d (by have := rep_sliced (.list A cap rows sz' vals k0 k1' k2' ksz kc kr) hr (l := 0) (u := n.toNat) (by omega) (by omega); simpa using this))⟩
      have := run_slice_h (P := P) w t A rows.length cap (by rw [he]; exact hu) k2 n h1 (by omega)
      simp [execOp, ho, hv, q3.int_inv.1, run_sliceAt_slice w t _ _ _ _ (by rw [he]; exact hu), this, he, sizeOf, typeInfo, hi, hsz, Result.andThen]
theorem ope_slice_l {e : TypeId} {rows : List (List Cell)} {k1 : IntKind} {m : Int} (ho : o.op = .slice t x (some y) none none) (hx : s.ev x = .one (.d (.list rows))) (hy : s.ev y = .one (.d (.int k1 m))) (ht : sliceT P t e sz = true) (hr : ∀ row ∈ rows, row.length = sz) (h0 : 0 ≤ m) (h2 : m ≤ (rows.length : Int)) : OpE P T N w0 s o (.one (.d (.list (rows.drop m.toNat)))) :=
  ope_val fun g a w hs => by
    have q1 := hs.ev x; rw [hx] at q1
    have q2 := hs.ev y; rw [hy] at q2
    obtain ⟨hu, inf, hi, hsz⟩ := sliceT_spec ht
    have he : P.elem t = e := by simp [Program.elem, hu]
    have q := q1.one_inv.unD rfl
    generalize hv : a.eval x = v at q
    cases q with
    | list A cap _ sz' vals k0 k1' k2' ksz kc kr =>
      refine ⟨Go.sliced A m.toNat rows.length cap sz, ?_, .one (.d (by have := rep_sliced (.list A cap rows sz' vals k0 k1' k2' ksz kc kr) hr (l := m.toNat) (u := rows.length) (by omega) (by omega); simpa using this))⟩
      have := run_slice_l (P := P) w t A rows.length cap (by rw [he]; exact hu) k1 m h0 h2
      simp [execOp, ho, hv, q2.int_inv.1, run_sliceAt_slice w t _ _ _ _ (by rw [he]; exact hu), this, he, sizeOf, typeInfo, hi, hsz, Result.andThen]
end
/-! a list of length 0, that is not nil -/
section
variable {P : Program} {T : TypeId} {N : Nat} {w0 : Org} {s : St} {o : Oper} {τ : List TyI}
theorem opr_bs0 (hτ : tabB P 0 τ = true) {t d e sz by_ : Nat} {zs : List Z} (ho : o.op = .buildSlice t 0 #[]) (hd : o.dst = some d) (hN : d < N) (ht : tyAt τ t = .sl e sz by_) (hz : (tyAt τ e).zs = some zs) (hfr : s.fresh d = true) :
    OpR P T N w0 s o (fun s' => s' = (s.hput d (.arr e sz [])).put d (.one (.sl d 0 sz))) := by
  intro g a w hs K Q hK
  obtain ⟨f1, f2, _⟩ := St.fresh_spec hfr
  obtain ⟨hu, inf, hi, hsz⟩ := sliceT_spec (tab_sl hτ ht)
  obtain ⟨i, z, hi2, hz1, hz2, hz3⟩ := zeroB_spec (tab_zs hτ hz)
  obtain rfl : i = inf := by rw [hi] at hi2; injection hi2 with h; exact h.symm
  have hbu : (Instr.buildSlice t 0 #[]).run P w = .ok (.slice (some ⟨w.heap.size, 0, none⟩) 0 0) (w.alloc (.cells #[] e)) := by
    simp [Instr.buildSlice, run_underlying hu, sizeOf, typeInfo, zeroValue, hi, hz1, Instr.fill, newRow]
    congr 2
    exact Array.eq_empty_of_size_eq_zero (by simp)
  have hrun : (execOp a.eval o).run P w = .ok (.value (.slice (some ⟨w.heap.size, 0, none⟩) 0 0)) (w.alloc (.cells #[] e)) := by
    simp [execOp, ho, Sem.run_bind, hbu, Result.andThen_ok, Sem.run_pure]
  have h1 := hs.newG (d := d) f1 f2 (r0 := none) (ob := none) (nb := some w.heap.size) (k := 0) (w' := w.alloc (.cells #[] e)) (vh := .arr e sz []) (fun b hb => (by cases hb)) (World.grownBy_alloc w _ none) (fun b hb => (by simp at hb; subst hb; exact ⟨.inr (Nat.le_refl _), by simp⟩)) rfl (fun hf => by
    refine ⟨fun row hrow => (by cases hrow), .inr ⟨w.heap.size, #[], by simp [Gh.new, updO], Blk.new _ _ _, by simp [Gh.new, updN], by simp [Gh.new, updN], by simp [Gh.new, updN], fun i' j row x hi' hj => ?_⟩⟩
    simp at hi')
  unfold Oper.wp
  rw [hrun]
  refine hK (g.new d (some w.heap.size) 0) _ _ _ rfl ?_
  rw [hd]
  refine h1.put hN (.one ?_)
  have := RepCV.sl (P := P) (g := g.new d (some w.heap.size) 0) (w := w.alloc (.cells #[] e)) (r := d) (b := w.heap.size) 0 sz (by simp [Gh.new, updO]) (by simp [Gh.new, updN]) (by simp [Gh.new, updN])
  simpa [Gh.new, updN] using this
end
theorem v_bs0 {α : Type} (f : α → List Cell) {k : Wk} {w0 : Org} {ops : Array Oper} {l : List Oper} {Q : St → Prop} {F : List (Nat × SV)} {H : List (Nat × VH)} {d t ty e sz by_ : Nat} {p : String} {af : Array Edge} {zs : List Z} (hN : Nat.blt d k.N = true) (ht : tyAt k.τ t = .sl e sz by_) (hz : (tyAt k.τ e).zs = some zs) (hfr : (St.mk F H).fresh d = true) (h : rg k w0 ops l Q ⟨(d, .one (.sl d ([] : List α).length sz)) :: F, (d, .arr e sz (([] : List α).map f)) :: H⟩) : rg k w0 ops (⟨some d, .buildSlice t 0 #[], ty, p, af, none⟩ :: l) Q ⟨F, H⟩ :=
  rgI (irg_h rfl (opr_bs0 k.ok rfl rfl (nlt hN) ht hz hfr) (rgO h))
/-! a slice compared with nil -/
theorem opq_eqnil {P : Program} {T : TypeId} {N : Nat} {w0 : Org} {s : St} {o : Oper} {t e sz t' : Nat} {x y : Operand} {rows : List (List Cell)} (ho : o.op = .binOp .eql t x y t') (hx : s.ev x = .one (.d (.list rows))) (hy : s.ev y = .one .nil) (ht : sliceT P t e sz = true) : OpQ P T N w0 s o (ND (fun b : Bool => b = true → rows = []) bv) := by
  intro g a w hs K Q hK
  have q1 := hs.ev x; rw [hx] at q1
  have q2 := hs.ev y; rw [hy] at q2
  obtain ⟨hu, _⟩ := sliceT_spec ht
  have q := q1.one_inv.unD rfl
  have h2 : a.eval y = .slice none 0 0 := by
    have := q2.one_inv
    generalize a.eval y = v at this
    cases this; rfl
  generalize hv : a.eval x = v at q
  cases q with
  | list A cap _ sz' vals k0 k1' k2' ksz kc kr =>
    have e0 : (eqGuard .eql t x y (.slice A rows.length cap) (.slice none 0 0)).run P w = .ok () w := by unfold eqGuard; rfl
    have e2 : (binOp .eql t (.slice A rows.length cap) (.slice none 0 0)).run P w = .ok (.bool A.isNone) w := by simp only [binOp]; simp only [Sem.run_bind, run_equal_slice_nil w t e A rows.length cap hu, Result.andThen_ok, Sem.run_pure]
    unfold Oper.wp
    have hrun : (execOp a.eval o).run P w = .ok (.value (.bool A.isNone)) w := by
      simp only [execOp, ho, hv, h2, Sem.run_bind, e0, e2, Result.andThen_ok, Sem.run_pure]
    rw [hrun]
    exact hK _ _ ⟨g, bv A.isNone, ⟨A.isNone, fun h => k0 (by simpa using h), rfl⟩, Ext.refl hs.gi, .one (.d (.bool _))⟩
theorem v_eqnil {R : Bool → Prop} {k : Wk} {w0 : Org} {ops : Array Oper} {l : List Oper} {Q : St → Prop} {F : List (Nat × SV)} {H : List (Nat × VH)} {d t ty e sz by_ t' : Nat} {p : String} {af : Array Edge} {x y : Operand} {α : Type} {f : α → List Cell} {xs : List α} (hN : Nat.blt d k.N = true) (hx : (St.mk F H).ev x = .one (.d (.list (xs.map f)))) (hy : (St.mk F H).ev y = .one .nil) (ht : tyAt k.τ t = .sl e sz by_) (hP : Hld (∀ b, (b = true → xs = []) → R b)) (h : ∀ b, (b = true → xs = []) → Hld (R b) → rg k w0 ops l Q ⟨(d, bv b) :: F, H⟩) : rg k w0 ops (⟨some d, .binOp .eql t x y t', ty, p, af, none⟩ :: l) Q ⟨F, H⟩ :=
  rgI (irg_q rfl rfl (nlt hN) (opq_eqnil rfl hx hy (tab_sl k.ok ht)) fun v ⟨b, hb, e⟩ => by
    subst e
    have hb' : b = true → xs = [] := fun h => by simpa using hb h
    exact rgO (h b hb' ⟨hP.out b hb'⟩))
/-! parts, typed -/
def part {α : Type} (xs : List α) (m n : Int) : List α := (xs.take n.toNat).drop m.toNat
theorem map_rows {α : Type} {f : α → List Cell} {xs : List α} {sz : Nat} (hf : ∀ x, (f x).length = sz) : ∀ row ∈ xs.map f, row.length = sz := by
  intro row hr
  obtain ⟨x, _, rfl⟩ := List.mem_map.1 hr
  exact hf x
section
variable {k : Wk} {w0 : Org} {ops : Array Oper} {l : List Oper} {Q : St → Prop} {F : List (Nat × SV)} {H : List (Nat × VH)} {d t ty e sz by_ : Nat} {p : String} {af : Array Edge} {x y z : Operand} {α : Type} {f : α → List Cell} {xs : List α} {k1 k2 : IntKind} {m n : Int} {s : St} {gd : Option (Nat × Bool)}
theorem f_slh (hx : s.ev x = .one (.d (.list (xs.map f)))) (hy : s.ev y = .one (.d (.int k1 m))) (hz : s.ev z = .one (.d (.int k2 n))) (ht : tyAt k.τ t = .sl e sz by_) (hf : ∀ x, (f x).length = sz) (hc : 0 ≤ m ∧ m ≤ n ∧ n ≤ (xs.length : Int)) : OpE k.P k.T k.N w0 s ⟨some d, .slice t x (some y) (some z) none, ty, p, af, gd⟩ (.one (.d (.list ((part xs m n).map f)))) := by
  have := ope_slice_lh (P := k.P) (T := k.T) (N := k.N) (w0 := w0) (o := ⟨some d, .slice t x (some y) (some z) none, ty, p, af, gd⟩) rfl hx hy hz (tab_sl k.ok ht) (map_rows hf) hc.1 hc.2.1 (by simpa using hc.2.2)
  simpa [part, List.map_drop, List.map_take] using this
theorem f_sh (hx : s.ev x = .one (.d (.list (xs.map f)))) (hz : s.ev z = .one (.d (.int k2 n))) (ht : tyAt k.τ t = .sl e sz by_) (hf : ∀ x, (f x).length = sz) (hc : 0 ≤ n ∧ n ≤ (xs.length : Int)) : OpE k.P k.T k.N w0 s ⟨some d, .slice t x none (some z) none, ty, p, af, gd⟩ (.one (.d (.list ((xs.take n.toNat).map f)))) := by
  have := ope_slice_h (P := k.P) (T := k.T) (N := k.N) (w0 := w0) (o := ⟨some d, .slice t x none (some z) none, ty, p, af, gd⟩) rfl hx hz (tab_sl k.ok ht) (map_rows hf) hc.1 (by simpa using hc.2)
  simpa [List.map_take] using this
theorem f_sl (hx : s.ev x = .one (.d (.list (xs.map f)))) (hy : s.ev y = .one (.d (.int k1 m))) (ht : tyAt k.τ t = .sl e sz by_) (hf : ∀ x, (f x).length = sz) (hc : 0 ≤ m ∧ m ≤ (xs.length : Int)) : OpE k.P k.T k.N w0 s ⟨some d, .slice t x (some y) none none, ty, p, af, gd⟩ (.one (.d (.list ((xs.drop m.toNat).map f)))) := by
  have := ope_slice_l (P := k.P) (T := k.T) (N := k.N) (w0 := w0) (o := ⟨some d, .slice t x (some y) none none, ty, p, af, gd⟩) rfl hx hy (tab_sl k.ok ht) (map_rows hf) hc.1 (by simpa using hc.2)
  simpa [List.map_drop] using this
theorem v_slh (hN : Nat.blt d k.N = true) (hx : (St.mk F H).ev x = .one (.d (.list (xs.map f)))) (hy : (St.mk F H).ev y = .one (.d (.int k1 m))) (hz : (St.mk F H).ev z = .one (.d (.int k2 n))) (ht : tyAt k.τ t = .sl e sz by_) (hf : ∀ x, (f x).length = sz) (hc : 0 ≤ m ∧ m ≤ n ∧ n ≤ (xs.length : Int)) (h : rg k w0 ops l Q ⟨(d, .one (.d (.list ((part xs m n).map f)))) :: F, H⟩) : rg k w0 ops (⟨some d, .slice t x (some y) (some z) none, ty, p, af, none⟩ :: l) Q ⟨F, H⟩ :=
  rgI (irg_e rfl rfl (nlt hN) (f_slh hx hy hz ht hf hc) (rgO h))
theorem v_sh (hN : Nat.blt d k.N = true) (hx : (St.mk F H).ev x = .one (.d (.list (xs.map f)))) (hz : (St.mk F H).ev z = .one (.d (.int k2 n))) (ht : tyAt k.τ t = .sl e sz by_) (hf : ∀ x, (f x).length = sz) (hc : 0 ≤ n ∧ n ≤ (xs.length : Int)) (h : rg k w0 ops l Q ⟨(d, .one (.d (.list ((xs.take n.toNat).map f)))) :: F, H⟩) : rg k w0 ops (⟨some d, .slice t x none (some z) none, ty, p, af, none⟩ :: l) Q ⟨F, H⟩ :=
  rgI (irg_e rfl rfl (nlt hN) (f_sh hx hz ht hf hc) (rgO h))
theorem v_sl (hN : Nat.blt d k.N = true) (hx : (St.mk F H).ev x = .one (.d (.list (xs.map f)))) (hy : (St.mk F H).ev y = .one (.d (.int k1 m))) (ht : tyAt k.τ t = .sl e sz by_) (hf : ∀ x, (f x).length = sz) (hc : 0 ≤ m ∧ m ≤ (xs.length : Int)) (h : rg k w0 ops l Q ⟨(d, .one (.d (.list ((xs.drop m.toNat).map f)))) :: F, H⟩) : rg k w0 ops (⟨some d, .slice t x (some y) none none, ty, p, af, none⟩ :: l) Q ⟨F, H⟩ :=
  rgI (irg_e rfl rfl (nlt hN) (f_sl hx hy ht hf hc) (rgO h))
end
end Go.Proofs.Ytbnmcdnkeipdhaa
