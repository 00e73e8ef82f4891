/- slices.Insert of this program. -/
import Derived.Test.YtoflahjlnbligaaCi0
import Derived.Test.YtoflahjlnbligaaEc
import Derived.Test.YtoflahjlnbligaaLb4
import Derived.Shelf.Spec.SlicesInsertGrow
import Derived.Shelf.Spec.SlicesInsert
set_option linter.all false
set_option maxRecDepth 100000
set_option maxHeartbeats 4000000
namespace Go.Proofs.Ytoflahjlnbligaa
open Go.RowKit Go.Shelf
def rhoI : Ren := ⟨fun x => bif Nat.beq x 21 then 86 else bif Nat.beq x 27 then 104 else bif Nat.beq x 28 then 105 else bif Nat.beq x 35 then 110 else 111, fun x => bif Nat.beq x 0 then 0 else bif Nat.beq x 3 then 3 else bif Nat.beq x 4 then 4 else 22, fun x => x⟩
theorem laysI : Lays2.n21 Try.prog rhoI where
  mixed := by kernel_rfl
  f21 := by kernel_rfl
  f27 := by kernel_rfl
  f28 := by kernel_rfl
  f35 := by kernel_rfl
  f39 := by kernel_rfl
  t0 := by kernel_rfl
  a0 := fun w => by rfl
  z0 := fun w => by rfl
  v0 := fun w => by rfl
  t3 := by kernel_rfl
  a3 := fun w => by rfl
  z3 := fun w => by rfl
  v3 := fun w => by rfl
  t4 := by kernel_rfl
  a4 := fun w => by rfl
  z4 := fun w => by rfl
  v4 := fun w => by rfl
  t22 := by kernel_rfl
  a22 := fun w => by rfl
  z22 := fun w => by rfl
  v22 := fun w => by rfl
  i3 := by kernel_rfl
def InsC (P : Program) (f : FuncId) (ti : TypeId) : Prop := Enters P f ∧ (∀ (b n c vb vc : Nat) (cs : List Value) (z : Value) (w : World), 0 < n → n + 1 ≤ c → c ≤ 9223372036854775807 → vb ≠ b → cs.length = n →
    (∀ j v, cs[j]? = some v → w.cell? ⟨b, j, none⟩ = some v) → (∀ j, j < n + 1 → (w.cell? ⟨b, j, none⟩).isSome = true) → (∀ j, w.frozen? ⟨b, j, none⟩ = false) → w.cell? ⟨vb, 0, none⟩ = some z → (∀ v ∈ cs, v.oneCell' = true) → z.oneCell' = true →
    ∀ (tA tB : TypeId) (kA kB : Nat), w.shape? vb = some (tA, kA) → w.shape? b = some (tB, kB) → kB ≠ 0 → (∀ j, w.frozen? ⟨vb, j, none⟩ = false) →
    Calls P f #[.slice (some ⟨b, 0, none⟩) n c, .int .i64 0, .slice (some ⟨vb, 0, none⟩) 1 vc] w fun e w' => e = .returned (.slice (some ⟨b, 0, none⟩) (n + 1) c) ∧ w' = (w.drew.setCells b 1 cs).setCells b 0 [z]) ∧
  (∀ (b n c vb vc : Nat) (cs : List Value) (z : Value) (w : World), 0 < n → n ≤ c → c < n + 1 → (n + 1) * 8 ≤ 140737488355328 → cs.length = n →
    (∀ j v, cs[j]? = some v → w.cell? ⟨b, j, none⟩ = some v) → w.cell? ⟨vb, 0, none⟩ = some z → (∀ v ∈ cs, v.oneCell' = true) → z.oneCell' = true →
    Calls P f #[.slice (some ⟨b, 0, none⟩) n c, .int .i64 0, .slice (some ⟨vb, 0, none⟩) 1 vc] w fun e w' => e = .returned (.slice (some ⟨w.heap.size, 0, none⟩) (n + 1) (grownCap w (n + 1) c ti)) ∧
      ∃ vals : Array Value, vals.size = grownCap w (n + 1) c ti ∧ w' = (((w.alloc (.cells vals ti)).drew.setCells w.heap.size 0 [z]).drew).setCells w.heap.size 1 cs)
theorem ins_c : InsC Try.prog 86 3 := by
  refine ⟨enters_of Try.func86 rfl rfl, fun b n c vb vc cs z w h0 hr hc hvb hcl hcs hsp hfz hz h1 h1z tA tB kA kB hA hB hkB hfv => ?_, fun b n c vb vc cs z w h0 hc hr hbig hcl hcs hz h1 h1z => ?_⟩
  · have := Any2.slices_Insert_int_shift laysI b 0 n c 0 vb 0 1 vc cs [z] w h0 Nat.one_pos hr hc hvb hcl rfl (fun j v hj => by rw [Nat.zero_add]; exact hcs j v hj) (fun j hj => by rw [Nat.zero_add]; exact hsp j hj) (fun j hj => hfz _) (fun j v hj => by
      obtain rfl : j = 0 := by have := (List.getElem?_eq_some_iff.1 hj).1; simp at this; exact this
      simp at hj; subst hj; exact hz) h1 (fun v hv => by simp at hv; subst hv; exact h1z) tA tB kA kB hA hB hkB (hfv _) (hfv _)
    simp only [Nat.zero_add, List.drop_zero] at this
    exact this
  · have := Any2.slices_Insert_int_grow laysI b 0 n c 0 vb 0 1 vc cs [z] w h0 Nat.one_pos hc hr hbig hcl rfl (fun j v hj => by rw [Nat.zero_add]; exact hcs j v hj) (fun j v hj => by
      obtain rfl : j = 0 := by have := (List.getElem?_eq_some_iff.1 hj).1; simp at this; exact this
      simp at hj; subst hj; exact hz) h1 (fun v hv => by simp at hv; subst hv; exact h1z)
    refine Calls.mono this fun e w' ⟨e1, e2⟩ => ⟨e1, _, ?_, e2⟩
    have := grownCap_ge w (n + 1) c 3
    have e9 : rhoI.t 3 = 3 := rfl
    rw [e9]
    simp [Builtin.zeroCells, Value.cells]
    omega
theorem setCells_blk (b : Nat) : ∀ (vs : List Value) (o : Nat) (w : World) (t : TypeId) (vals : Array Value), Blk w b t vals → ∃ vals', Blk (w.setCells b o vs) b t vals' ∧ vals'.size = vals.size ∧ (∀ k, k < o → vals'[k]? = vals[k]?) ∧ (∀ k, k < vs.length → o + k < vals.size → vals'[o + k]? = vs[k]?) ∧ (∀ k, o + vs.length ≤ k → vals'[k]? = vals[k]?) ∧ Keep (fun k => k = b) w (w.setCells b o vs) ∧ (w.setCells b o vs).heap.size = w.heap.size
  | [], o, w, t, vals, h => ⟨vals, h, rfl, fun _ _ => rfl, fun k hk => by simp at hk, fun _ _ => rfl, .refl _ _, rfl⟩
  | v :: r, o, w, t, vals, h => by
    have hb : Blk (w.setCell ⟨b, o, none⟩ v) b t (vals.setIfInBounds o v) := by
      unfold Blk at h ⊢
      simp only [World.setCell]
      rw [Array.getElem?_modify, if_pos rfl, h]
      rfl
    obtain ⟨vals', h1, h2, h3, h4, h5, h6, h7⟩ := setCells_blk b r (o + 1) _ t _ hb
    refine ⟨vals', h1, by simpa using h2, fun k hk => ?_, fun k hk hs => ?_, fun k hk => ?_, ⟨h6.os, h6.tape, h6.output, ?_, fun k hk => ?_⟩, ?_⟩
    · rw [h3 k (by omega), Array.getElem?_setIfInBounds_ne (by omega)]
    · cases k with
      | zero =>
        rw [Nat.add_zero, h3 o (by omega)]
        simp at hs
        simp [hs]
      | succ k =>
        have := h4 k (by simpa using hk) (by simp; omega)
        rw [show o + (k + 1) = o + 1 + k by omega, this]
        simp
    · simp only [List.length_cons] at hk
      rw [h5 k (by omega), Array.getElem?_setIfInBounds_ne (by omega)]
    · rw [World.setCells, h7]; simp [World.setCell]
    · rw [World.setCells, h6.block k hk]
      simp only [World.setCell]
      rw [Array.getElem?_modify, if_neg (fun e => hk e.symm)]
    · rw [World.setCells, h7]; simp [World.setCell]
section
variable {P : Program} {T : TypeId} {N : Nat} {w0 : Org} {g g' : Gh} {s : St} {a : Act} {w w' : World} {o : Oper} {τ : List TyI}
theorem opr_ins {f : FuncId} {x y : Operand} {ts : Array TypeId} {r r2 n d e e2 : Nat} {z : Int} {zs : List Int} (hc : InsC P f e) (ho : o.op = .call { callee := .value (.func f), args := #[x, .const (.int .i64 0), y], argTypes := ts }) (hd : o.dst = some d) (hN : d < N) (hx : s.ev x = .one (.sl r n 1)) (hy : s.ev y = .one (.sl r2 1 1)) (hr : getH s.H r = .arr e 1 (zs.map irow)) (hr2 : getH s.H r2 = .arr e2 1 ([z].map irow)) (hne : r2 ≠ r) (hn : n = zs.length) (hfr : allH r s.H = true) (hz : 0 < zs.length ∧ zs.length ≤ 1000000000) :
    OpR P T N w0 s o (fun s' => s' = ⟨(d, .one (.sl r (n + 1) 1)) :: killF r s.F, (r, .arr e 1 ((z :: zs).map irow)) :: s.H⟩) := by
  intro g a w hs K Q hK
  subst hn
  have hev := hs.ev x; rw [hx] at hev
  have hev2 := hs.ev y; rw [hy] at hev2
  have hl : live s.H r := by unfold live; rw [hr]; rfl
  have hl2 : live s.H r2 := by unfold live; rw [hr2]; rfl
  have hh := hs.hH r; rw [hr] at hh
  have hh2 := hs.hH r2; rw [hr2] at hh2
  have hrun : (execOp a.eval o).run P w = .ok (.enter f #[a.eval x, .int .i64 0, a.eval y]) w := by
    simp only [execOp, ho, Sem.run_bind, resolve, Act.eval, Deferred.ofValue, Sem.run_pure, Result.andThen_ok, invoke]
    have := hc.1 (#[] ++ #[x, .const (.int .i64 0), y].map a.eval ++ #[]) w
    simpa [Act.eval] using this
  unfold Oper.wp
  rw [hrun, Oper.upon_enter]
  obtain ⟨_, hh⟩ := hh
  obtain ⟨_, hh2⟩ := hh2
  rcases hev.one_inv.sl_inv with ⟨e1, e2', hb⟩ | ⟨b, hb, h1, h2, e1⟩
  · omega
  rcases hev2.one_inv.sl_inv with ⟨e3, e4, hb2⟩ | ⟨vb, hb2, h3, h4, e3⟩
  · omega
  rw [e1, e3]
  rcases hh with ⟨q1, _⟩ | ⟨b', vals, hb', hbl, k1, k2, k3, k4⟩
  · rw [hb] at q1; cases q1
  obtain rfl : b = b' := by rw [hb] at hb'; injection hb'
  rcases hh2 with ⟨q1, _⟩ | ⟨b', vals2, hb', hbl2, m1, m2, m3, m4⟩
  · rw [hb2] at q1; cases q1
  obtain rfl : vb = b' := by rw [hb2] at hb'; injection hb'
  have hvb : vb ≠ b := fun e => hne (hs.gi.inj r2 r b hl2 hl (by rw [hb2, e]) hb)
  simp only [List.length_map, Nat.mul_one] at k1 k2
  have cellI : ∀ (vs : Array Value) (l : List Int), (∀ (i j : Nat) (row : List Cell) (x : Cell), (l.map irow)[i]? = some row → row[j]? = some x → ∃ u, vs[i * 1 + j]? = some u ∧ RepCell g.Rd w u x) → ∀ i q, l[i]? = some q → vs[i]? = some (Value.int .i64 q) ∧ (Lit.int .i64 q).wf = true := fun vs l h i q hq => by
    obtain ⟨u, hu, hrp⟩ := h i 0 (irow q) _ (by rw [List.getElem?_map, hq]; rfl) rfl
    simp only [Nat.mul_one, Nat.add_zero] at hu
    cases hrp with
    | int k m hw => exact ⟨hu, hw⟩
  have cz := cellI vals zs k4
  have cz2 := cellI vals2 [z] m4 0 z rfl
  have all1 : ∀ v ∈ zs.map (Value.int .i64), v.oneCell' = true := fun v hv => by obtain ⟨q, _, rfl⟩ := List.mem_map.1 hv; rfl
  have hcs : ∀ j v, (zs.map (Value.int .i64))[j]? = some v → w.cell? ⟨b, j, none⟩ = some v := fun j v hj => by
    rw [List.getElem?_map] at hj
    cases hq : zs[j]? with
    | none => rw [hq] at hj; cases hj
    | some q =>
      rw [hq] at hj
      simp at hj
      subst hj
      rw [hbl.cell, (cz j q hq).1]
  have hzc : w.cell? ⟨vb, 0, none⟩ = some (.int .i64 z) := by rw [hbl2.cell, cz2.1]
  -- what the new row is, of whatever block that holds it
  have fin : ∀ (Rd : Nat → Nat → Prop) (w' : World) (vals' : Array Value), (vals'[0]? = some (.int .i64 z)) → (∀ k, k < zs.length → vals'[1 + k]? = (zs.map (Value.int .i64))[k]?) →
      ∀ (i j : Nat) (row : List Cell) (x : Cell), ((z :: zs).map irow)[i]? = some row → row[j]? = some x → ∃ u, vals'[i * 1 + j]? = some u ∧ RepCell Rd w' u x := fun Rd w' vals' f0 f1 i j row x hi hj => by
    have hj0 : ∀ q : Int, row = irow q → j = 0 ∧ x = .int .i64 q := fun q e => by
      subst e
      have : j = 0 := by have := (List.getElem?_eq_some_iff.1 hj).1; simp [irow] at this; exact this
      subst this
      simp [irow] at hj
      exact ⟨rfl, hj.symm⟩
    cases i with
    | zero =>
      simp at hi
      obtain ⟨rfl, rfl⟩ := hj0 z hi.symm
      exact ⟨_, by simpa using f0, .int _ _ cz2.2⟩
    | succ i =>
      rw [List.map_cons, List.getElem?_cons_succ, List.getElem?_map] at hi
      cases hq : zs[i]? with
      | none => rw [hq] at hi; cases hi
      | some q =>
        rw [hq] at hi
        simp at hi
        obtain ⟨rfl, rfl⟩ := hj0 q hi.symm
        have hil := (List.getElem?_eq_some_iff.1 hq).1
        refine ⟨.int .i64 q, ?_, .int _ _ (cz i q hq).2⟩
        have := f1 i hil
        rw [List.getElem?_map, hq] at this
        rw [Nat.mul_one, Nat.add_zero, Nat.add_comm]
        exact this
  have hsk : Sim P T N w0 g ⟨killF r s.F, s.H⟩ a w := hs.less (fun y => by
    show getF (killF r s.F) y = getF s.F y ∨ getF (killF r s.F) y = .u
    rw [killF_get]
    split
    · exact .inr rfl
    · exact .inl rfl) fun _ => .inl rfl
  have hkill : ∀ y, (getF (killF r s.F) y).has r = false := fun y => by
    rw [killF_get]
    split
    · rfl
    · exact Bool.eq_false_iff.2 (by assumption)
  have hlen : (zs.map (Value.int .i64)).length = zs.length := List.length_map _
  have hrows : ∀ row ∈ (z :: zs).map irow, row.length = 1 := fun row hrow => by obtain ⟨q, _, rfl⟩ := List.mem_map.1 hrow; rfl
  by_cases hroom : zs.length + 1 ≤ g.κ r
  · refine (hc.2.1 b zs.length (g.κ r) vb (g.κ r2) (zs.map (Value.int .i64)) (.int .i64 z) w hz.1 hroom (by unfold maxLen at h2; omega) hvb hlen hcs (fun j hj => by rw [hbl.cell, Array.getElem?_eq_getElem (by omega)]; rfl) (fun j => hbl.frozen j) hzc all1 rfl e2 e vals2.size vals.size (by unfold World.shape?; rw [show w.heap[vb]? = _ from hbl2]) (by unfold World.shape?; rw [show w.heap[b]? = _ from hbl]) (by omega) (fun j => hbl2.frozen j)).mono fun e' w' ⟨q1, q2⟩ => ?_
    subst q1
    obtain ⟨va, a1, a2, a3, a4, a5, a6, a7⟩ := setCells_blk b (zs.map (Value.int .i64)) 1 w.drew e vals hbl
    obtain ⟨vb', b1, b2, b3, b4, b5, b6, b7⟩ := setCells_blk b [Value.int .i64 z] 0 _ e va a1
    rw [← q2] at b1 b6 b7
    have hk : Keep (fun k => k = b) w w' := by
      have h9 := a6.trans b6
      exact ⟨h9.os, h9.tape, h9.output, h9.size, h9.block⟩
    have hsz : w'.heap.size = w.heap.size := by rw [b7, a7]; rfl
    have hs2 := hsk.turn (vh := .arr e 1 ((z :: zs).map irow)) hl hb hk hsz fun hf => by
      refine ⟨hrows, .inr ⟨b, vb', hb, b1, by rw [b2, a2, k1, Nat.mul_one], by rw [List.length_map]; exact hroom, h2, fin g.Rd w' vb' ?_ fun k hk' => ?_⟩⟩
      · exact b4 0 (by simp) (by rw [a2]; omega)
      · rw [b5 (1 + k) (by simp)]
        exact a4 k (by rw [hlen]; exact hk') (by omega)
    refine hK g _ _ _ rfl ?_
    rw [hd]
    exact hs2.put hN (.one (.sl _ 1 hb hroom h2))
  · refine (hc.2.2 b zs.length (g.κ r) vb (g.κ r2) (zs.map (Value.int .i64)) (.int .i64 z) w hz.1 h1 (by omega) (by omega) hlen hcs hzc all1 rfl).mono fun e' w' ⟨q1, va, hva, q2⟩ => ?_
    subst q1
    have hge := grownCap_ge w (zs.length + 1) (g.κ r) e
    have hcm := grownCap_le_maxLen w (zs.length + 1) (g.κ r) e (by unfold maxLen; omega)
    generalize grownCap w (zs.length + 1) (g.κ r) e = G at *
    have n0 : Blk (w.alloc (.cells va e)).drew w.heap.size e va := heap_alloc_new w _
    obtain ⟨v1, a1, a2, a3, a4, a5, a6, a7⟩ := setCells_blk w.heap.size [Value.int .i64 z] 0 _ e va n0
    obtain ⟨v2, b1, b2, b3, b4, b5, b6, b7⟩ := setCells_blk w.heap.size (zs.map (Value.int .i64)) 1 (((w.alloc (.cells va e)).drew.setCells w.heap.size 0 [Value.int .i64 z]).drew) e v1 a1
    rw [← q2] at b1 b6 b7
    have hsz : w'.heap.size = w.heap.size + 1 := by rw [b7]; show ((w.alloc (.cells va e)).drew.setCells _ _ _).heap.size = _; rw [a7]; simp
    have hg : w.grownBy w' none := by
      refine ⟨?_, ?_, ?_, by omega, fun k hk _ => ?_⟩
      · rw [b6.os]; show ((w.alloc (.cells va e)).drew.setCells _ _ _).os = _; rw [a6.os]; rfl
      · rw [b6.tape]; show ((w.alloc (.cells va e)).drew.setCells _ _ _).tape = _; rw [a6.tape]; rfl
      · rw [b6.output]; show ((w.alloc (.cells va e)).drew.setCells _ _ _).output = _; rw [a6.output]; rfl
      · rw [b6.block k (by omega)]; show ((w.alloc (.cells va e)).drew.setCells _ _ _).heap[k]? = _; rw [a6.block k (by omega)]; exact heap_alloc_old w _ hk
    have hs2 := hsk.newG (d := r) hkill (fun q => allH_get hfr q) (r0 := some r) (ob := none) (nb := some w.heap.size) (k := G) (vh := .arr e 1 ((z :: zs).map irow)) (fun b hb => by cases hb) hg (fun b hb => by injection hb with hb; subst hb; exact ⟨.inr (Nat.le_refl _), by omega⟩) rfl fun hf => by
      refine ⟨hrows, .inr ⟨w.heap.size, v2, by simp [Gh.new, updO], b1, by rw [b2, a2, hva]; simp [Gh.new, updO, updN], by rw [List.length_map]; simpa [Gh.new, updO, updN] using hge, by simpa [Gh.new, updO, updN] using hcm, fin _ w' v2 ?_ fun k hk' => ?_⟩⟩
      · rw [b3 0 (by omega)]
        exact a4 0 (by simp) (by omega)
      · exact b4 k (by rw [hlen]; exact hk') (by omega)
    refine hK (g.new r (some w.heap.size) G) _ _ _ rfl ?_
    rw [hd]
    have hke : (g.new r (some w.heap.size) G).κ r = G := by simp [Gh.new, updO, updN]
    have q3 : RepCV P (g.new r (some w.heap.size) G) w' (.slice (some ⟨w.heap.size, 0, none⟩) (zs.length + 1) G) (.sl r (zs.length + 1) 1) := by
      have := RepCV.sl (P := P) (g := g.new r (some w.heap.size) G) (w := w') (r := r) (b := w.heap.size) (zs.length + 1) 1 (by simp [Gh.new, updO]) (by rw [hke]; exact hge) (by rw [hke]; exact hcm)
      rwa [hke] at this
    refine (hs2.put hN (.one q3)).alike (fun _ => .inl rfl) fun q => ?_
    show getH ((r, _) :: s.H) q = getH ((r, _) :: goneH (some r) s.H) q
    simp only [hget_put, goneH_get]
    by_cases e9 : r = q <;> simp [e9]
end
section
variable {k : Wk} {w0 : Org} {ops : Array Oper} {l : List Oper} {Q : St → Prop} {F F' : List (Nat × SV)} {H : List (Nat × VH)} {d t : Nat} {p : String} {af : Array Edge}
theorem v_ins {f : FuncId} {x y : Operand} {ts : Array TypeId} {r r2 n e e2 : Nat} {z : Int} {zs : List Int} (hN : Nat.blt d k.N = true) (hc : InsC k.P f e) (hx : (St.mk F H).ev x = .one (.sl r n 1)) (hy : (St.mk F H).ev y = .one (.sl r2 1 1)) (hr : getH H r = .arr e 1 (zs.map irow)) (hr2 : getH H r2 = .arr e2 1 ([z].map irow)) (hne : Nat.beq r2 r = false) (hn : n = zs.length) (hfr : allH r H = true) (hF : killK r F (fun a => some a) = some F') (hz : 0 < zs.length ∧ zs.length ≤ 1000000000)
    (h : rg k w0 ops l Q ⟨(d, .one (.sl r (z :: zs).length 1)) :: F', (r, .arr e 1 ((z :: zs).map irow)) :: H⟩) :
    rg k w0 ops (⟨some d, .call { callee := .value (.func f), args := #[x, .const (.int .i64 0), y], argTypes := ts }, t, p, af, none⟩ :: l) Q ⟨F, H⟩ := by
  rw [killK_eq] at hF
  injection hF with hF
  subst hF
  subst hn
  exact rgI (irg_h rfl (opr_ins hc rfl rfl (nlt hN) hx hy hr hr2 (fun e => by rw [e] at hne; simp at hne) rfl hfr hz) (rgO h))
end
end Go.Proofs.Ytoflahjlnbligaa
