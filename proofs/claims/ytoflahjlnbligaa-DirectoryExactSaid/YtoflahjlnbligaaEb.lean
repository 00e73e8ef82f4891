/- slices.DeleteFunc of this program. -/
import Derived.Test.YtoflahjlnbligaaCi0
import Derived.Test.YtoflahjlnbligaaEa
import Derived.Shelf.SlicesE.DeleteFunc
set_option linter.all false
set_option maxRecDepth 100000
set_option maxHeartbeats 4000000
namespace Go.Proofs.Ytoflahjlnbligaa
open Go.RowKit Go.Shelf
def rhoD : Ren := ⟨fun x => bif Nat.beq x 6 then 101 else 78, fun x => bif Nat.beq x 0 then 0 else bif Nat.beq x 3 then 3 else bif Nat.beq x 4 then 4 else bif Nat.beq x 22 then 22 else bif Nat.beq x 23 then 3 else 78, fun x => x⟩
theorem laysD : SlLaysH.n10 Try.prog rhoD where
  mixed := by kernel_rfl
  f6 := ⟨"slices.IndexFunc[[]int,int]", by decide, by kernel_rfl⟩
  f10 := ⟨"slices.DeleteFunc[[]int,int]", by decide, by kernel_rfl⟩
  t0 := by kernel_rfl
  a0 := fun w => by rfl
  z0 := fun w => by rfl
  v0 := fun w => by rfl
  t3 := by kernel_rfl
  a3 := fun w => by rfl
  z3 := fun w => by rfl
  v3 := fun w => by rfl
  t4 := by kernel_rfl
  a4 := fun w => by rfl
  z4 := fun w => by rfl
  v4 := fun w => by rfl
  t22 := by kernel_rfl
  a22 := fun w => by rfl
  z22 := fun w => by rfl
  v22 := fun w => by rfl
  a23 := fun w => by rfl
  z23 := fun w => by rfl
  t25 := by kernel_rfl
  a25 := fun w => by rfl
  z25 := fun w => by rfl
  v25 := fun w => by rfl
theorem grp1_gives (p x : Int) (B off : Nat) (W : World) (hc : W.cell? ⟨B, off, none⟩ = some (.int .i64 p)) :
    FnGives Try.prog 79 #[.pointer (some ⟨B, off, none⟩)] #[.int .i64 x] (.bool (decide (x = p))) W := by
  show Calls Try.prog 79 #[.int .i64 x, .pointer (some ⟨B, off, none⟩)] W _
  go_enter Try.func79, Try.ntmps79
  go_wp2
  all_goals (go_ret; exact ⟨by simp_all; rw [Bool.eq_iff_iff]; simp, 0, rfl⟩)
def DelC (P : Program) (f g : FuncId) : Prop := Enters P f ∧ (∀ (blk cap B off : Nat) (p : Int) (zs : List Int) (w : World), w.cell? ⟨B, off, none⟩ = some (.int .i64 p) → B < w.heap.size → B ≠ blk → Go.Sort.Holds (Value.int .i64) w blk 0 zs.toArray → zs.length ≤ 9223372036854775807 → zs.length ≤ cap →
    Calls P f #[.slice (some ⟨blk, 0, none⟩) zs.length cap, .func (.func g) #[] #[.pointer (some ⟨B, off, none⟩)]] w fun e w' => e = .returned (.slice (some ⟨blk, 0, none⟩) (zs.filter fun x => !decide (x = p)).length cap) ∧ ∃ q, w' = Go.Sort.putRow (Value.int .i64) (Go.Sort.ahead w q) blk 0 ((zs.filter fun x => !decide (x = p)) ++ List.replicate (zs.length - (zs.filter fun x => !decide (x = p)).length) 0).toArray) ∧
  ∀ (fv : Value) (w : World), Calls P f #[.slice none 0 0, fv] w fun e w' => e = .returned (.slice none 0 0) ∧ w' = w
theorem del_c : DelC Try.prog 78 79 := by
  refine ⟨enters_of Try.func78 rfl rfl, fun blk cap B off p zs w hc hB hne hH hsz hcap => ?_, fun fv w => ?_⟩
  · have eg : ∀ args w, (callFunc 79 args).run Try.prog w = .ok (.enter 79 args) w := enters_of Try.func79 (by kernel_rfl) rfl
    have := AnyE.slices_DeleteFunc laysD (Value.int .i64) (fun _ => rfl) (fun x => decide (x = p)) 79 #[.pointer (some ⟨B, off, none⟩)] eg 0 (fun w => by rfl) blk 0 cap zs.toArray w
      (fun W x hb => grp1_gives p x B off W ((hb.cell (p := ⟨B, off, none⟩) hB).trans hc))
      (fun n os dk x _ => grp1_gives p x B off _ (by
        unfold sortWorld
        rw [Go.Sort.cell?_grow _ _ _ (by show B < (Go.Sort.putRow _ _ _ _ _).heap.size; rw [Go.Sort.size_putRow]; exact hB), Go.Sort.cell?_putRow_other _ _ blk 0 _ _ (Or.inl hne)]
        exact hc)) hH (by simpa using hsz) (by simpa using hcap)
    simp only [List.size_toArray] at this
    exact this
  · have L6 : SlLaysH.n6 Try.prog rhoD := { laysD with }
    have L := laysD
    have e6 : ∀ args w, (callFunc (rhoD.f 6) args).run Try.prog w = .ok (.enter (rhoD.f 6) args) w := L.f6.enters rfl
    have mixed := L.mixed; have t0 := L.t0; have a0 := L.a0; have z0 := L.z0; have v0 := L.v0; have t3 := L.t3; have a3 := L.a3; have z3 := L.z3; have v3 := L.v3; have t4 := L.t4; have a4 := L.a4; have z4 := L.z4; have v4 := L.v4; have t22 := L.t22; have a22 := L.a22; have z22 := L.z22; have v22 := L.v22; have a23 := L.a23; have z23 := L.z23; have t25 := L.t25; have a25 := L.a25; have z25 := L.z25; have v25 := L.v25
    obtain ⟨_, _, FG⟩ := L.f10
    have hIF := AnyE.slices_IndexFunc_empty L6 none 0 fv w
    show Calls Try.prog (rhoD.f 10) _ _ _
    go_enter FG, SlBodyH.n10_ntmps rhoD
    go_wp2_with (go_at_fn (rhoD.f 6); refine hIF.mono ?_; rintro e w' ⟨rfl, rfl⟩)
    go_ret
    exact ⟨rfl, rfl⟩
section
variable {P : Program} {T : TypeId} {N : Nat} {w0 : Org} {g g' : Gh} {s : St} {a : Act} {w w' : World} {o : Oper} {τ : List TyI}
theorem h_bd (h : Sim P T N w0 g s a w) {r b : Nat} (hl : live s.H r) (hb : g.β r = some b) : b < w.heap.size := (h.gi.bd r b hl hb).2.1
theorem h_inj (h : Sim P T N w0 g s a w) {r r' b : Nat} (hl : live s.H r) (hl' : live s.H r') (hb : g.β r = some b) (hb' : g.β r' = some b) : r = r' := h.gi.inj r r' b hl hl' hb hb'
theorem opr_del {f gf : FuncId} {x y : Operand} {ts : Array TypeId} {r R n d e t : Nat} {p : Int} {zs : List Int} (hc : DelC P f gf) (ho : o.op = .call { callee := .value (.func f), args := #[x, y], argTypes := ts }) (hd : o.dst = some d) (hN : d < N) (hx : s.ev x = .one (.sl r n 1)) (hy : s.ev y = .one (.clo gf [.ref R 0])) (hr : getH s.H r = .arr e 1 (zs.map irow)) (hR : getH s.H R = .blk t [.d (.int .i64 p)]) (hn : n = zs.length) (hz : zs.length ≤ 1000000000) :
    OpR P T N w0 s o (fun s' => s' = (s.hput r (.arr e 1 ((zs.filter fun x => !decide (x = p)).map irow))).put d (.one (.sl r (zs.filter fun x => !decide (x = p)).length 1))) := by
  intro g a w hs K Q hK
  subst hn
  have hev := hs.ev x; rw [hx] at hev
  have hlr : live s.H r := by unfold live; rw [hr]; rfl
  have hh := hs.hH r; rw [hr] at hh
  have hlR : live s.H R := by unfold live; rw [hR]; rfl
  have hhR := hs.hH R; rw [hR] at hhR
  obtain ⟨B, vB, hB, hBl, hBs, hBc⟩ := hhR
  have hv0 : vB[0]? = some (.int .i64 p) := by
    have h0 : 0 < vB.size := by rw [hBs]; exact Nat.zero_lt_one
    have := hBc 0 vB[0] _ (by simp [h0]) rfl
    rw [Array.getElem?_eq_getElem h0]
    generalize vB[0] = u at this ⊢
    cases this with
    | d h => cases h with
      | int k m hw => rfl
  have hBcell : w.cell? ⟨B, 0, none⟩ = some (.int .i64 p) := by rw [hBl.cell, hv0]
  have hBd := (h_bd hs hlR hB)
  have hRr : R ≠ r := fun e => by rw [e, hr] at hR; cases hR
  have hev2 := hs.ev y; rw [hy] at hev2
  have hfn : a.eval y = .func (.func gf) #[] #[.pointer (some ⟨B, 0, none⟩)] := by
    have h1 := hev2.one_inv
    generalize a.eval y = u at h1 ⊢
    cases h1 with
    | clo f vs cs hsz h =>
      have h0 : 0 < vs.size := by rw [hsz]; exact Nat.zero_lt_one
      have h2 := h 0 vs[0] _ (by simp [h0]) rfl
      obtain ⟨b, hb, e⟩ := h2.ref_inv
      rw [hB] at hb
      obtain rfl : B = b := by injection hb
      congr 1
      refine Array.ext (by simpa using hsz) fun i h3 h4 => ?_
      obtain rfl : i = 0 := by simp at h4; omega
      simpa using e
  have hrun : (execOp a.eval o).run P w = .ok (.enter f #[a.eval x, a.eval y]) w := by
    simp only [execOp, ho, Sem.run_bind, resolve, Act.eval, Deferred.ofValue, Sem.run_pure, Result.andThen_ok, invoke]
    have := hc.1 (#[] ++ #[x, y].map a.eval ++ #[]) w
    simpa [Act.eval] using this
  unfold Oper.wp
  rw [hrun, Oper.upon_enter, hfn]
  obtain ⟨g0, hh2⟩ := hh
  rcases hev.one_inv.sl_inv with ⟨e1, e2, hb⟩ | ⟨b, hb, h1, h2, e1⟩
  · have hz0 : zs = [] := List.eq_nil_of_length_eq_zero (by simpa using e2)
    subst hz0
    rw [e1]
    refine (hc.2.2 _ w).mono fun e' w' ⟨q1, q2⟩ => ?_
    subst q1; subst q2
    refine hK g _ _ _ rfl ?_
    rw [hd]
    have hs1 : Sim P T N w0 g (s.hput r (.arr e 1 ([] : List (List Cell)))) a w' := hs.less (fun _ => .inl rfl) fun q => by
      left
      show getH ((r, VH.arr e 1 []) :: s.H) q = _
      simp only [getH, beq_eq]
      by_cases e9 : r = q
      · subst e9; simp [hr]
      · simp [e9]
    exact hs1.put hN (.one (.slv 1 hb))
  · rw [e1]
    rcases hh2 with ⟨h3, _⟩ | ⟨b', vals, hb', hbl, h3, h4, h5, h6⟩
    · rw [hb] at h3; cases h3
    obtain rfl : b = b' := by rw [hb] at hb'; injection hb'
    simp only [List.length_map, Nat.mul_one] at h3 h4
    have hcell : ∀ i (h : i < zs.length), ∃ hw : (Lit.int .i64 zs[i]).wf = true, vals[i]? = some (.int .i64 zs[i]) := fun i hi => by
      have hi' : (zs.map irow)[i]? = some (irow zs[i]) := by simp [hi]
      obtain ⟨u, hu, hrp⟩ := h6 i 0 _ _ hi' rfl
      simp only [Nat.mul_one, Nat.add_zero] at hu
      cases hrp with
      | int k m hw => exact ⟨hw, hu⟩
    have hholds : Go.Sort.Holds (Value.int .i64) w b 0 zs.toArray := fun j hj => by
      simp only [List.size_toArray] at hj
      obtain ⟨_, hu⟩ := hcell j hj
      refine ⟨?_, by rw [Nat.zero_add]; exact hbl.frozen j⟩
      rw [Nat.zero_add, hbl.cell, hu]
      simp [hj]
    have hle := List.length_filter_le (fun x => !decide (x = p)) zs
    refine (hc.2.1 b (g.κ r) B 0 p zs w hBcell hBd (fun e => hRr (h_inj hs hlR hlr hB (by rw [e]; exact hb))) hholds (by omega) h4).mono fun e' w' ⟨q1, q, q2⟩ => ?_
    subst q1
    generalize hD : ((zs.filter fun x => !decide (x = p)) ++ List.replicate (zs.length - (zs.filter fun x => !decide (x = p)).length) 0).toArray = D at q2
    have hDs : D.size = zs.length := by rw [← hD]; simp; omega
    have hbw : w'.heap[b]? = some (.cells (Go.Sort.putCells (Value.int .i64) 0 D vals) e (0, 0)) := by
      rw [q2]
      simp only [Go.Sort.putRow, Go.Sort.mapBlock, Go.Sort.ahead]
      rw [Array.getElem?_modify, if_pos rfl, show w.heap[b]? = some (.cells vals e (0, 0)) from hbl]
      rfl
    have hk : Keep (fun k => k = b) w w' := by
      refine ⟨by rw [q2]; rfl, by rw [q2]; rfl, by rw [q2]; rfl, by rw [q2]; simp [Go.Sort.putRow, Go.Sort.mapBlock, Go.Sort.ahead], fun k hk => ?_⟩
      rw [q2]
      simp only [Go.Sort.putRow, Go.Sort.mapBlock, Go.Sort.ahead]
      rw [Array.getElem?_modify, if_neg (fun e => hk e.symm)]
    have hsz : w'.heap.size = w.heap.size := by rw [q2]; simp [Go.Sort.putRow, Go.Sort.mapBlock, Go.Sort.ahead]
    have hs2 := hs.turn (vh := .arr e 1 ((zs.filter fun x => !decide (x = p)).map irow)) hlr hb hk hsz fun hf => by
      refine ⟨fun row hrow => by obtain ⟨z, _, rfl⟩ := List.mem_map.1 hrow; rfl, .inr ⟨b, _, hb, hbw, by simp [Go.Sort.putCells, h3], by rw [List.length_map]; omega, h5, fun i j row y hi hj => ?_⟩⟩
      rw [List.getElem?_map] at hi
      cases hci : (zs.filter fun x => !decide (x = p))[i]? with
      | none => rw [hci] at hi; cases hi
      | some z =>
        rw [hci] at hi
        simp at hi
        subst hi
        have hj0 : j = 0 := by
          have := (List.getElem?_eq_some_iff.1 hj).1
          simp [irow] at this; exact this
        subst hj0
        simp [irow] at hj
        subst hj
        have hil := (List.getElem?_eq_some_iff.1 hci).1
        have hzm : z ∈ zs := (List.mem_filter.1 (List.mem_of_getElem? hci)).1
        obtain ⟨k, hk1, hk2⟩ := List.getElem_of_mem hzm
        obtain ⟨hw, _⟩ := hcell k hk1
        rw [hk2] at hw
        refine ⟨.int .i64 z, ?_, .int _ _ hw⟩
        have hDi : D[i]! = z := by
          rw [← hD]
          simp [Array.getElem!_eq_getD, List.getElem?_append_left hil, hci]
        simp only [Nat.mul_one, Nat.add_zero, Go.Sort.putCells, Array.getElem?_mapIdx]
        have hiv : i < vals.size := by omega
        rw [Array.getElem?_eq_getElem hiv]
        simp only [hDs, Nat.zero_le, Nat.zero_add, Nat.sub_zero, true_and, show i < zs.length by omega, if_true, hDi, Option.map_some]
    refine hK g _ _ _ rfl ?_
    rw [hd]
    refine hs2.put hN (.one ?_)
    exact RepCV.sl (g := g) _ 1 hb (by omega) h2
end
section
variable {k : Wk} {w0 : Org} {ops : Array Oper} {l : List Oper} {Q : St → Prop} {F : List (Nat × SV)} {H : List (Nat × VH)} {d t : Nat} {p : String} {af : Array Edge}
theorem v_del {f gf : FuncId} {x y : Operand} {ts : Array TypeId} {r R n e t' : Nat} {q : Int} {zs : List Int} (hN : Nat.blt d k.N = true) (hc : DelC k.P f gf) (hx : (St.mk F H).ev x = .one (.sl r n 1)) (hy : (St.mk F H).ev y = .one (.clo gf [.ref R 0])) (hr : getH H r = .arr e 1 (zs.map irow)) (hR : getH H R = .blk t' [.d (.int .i64 q)]) (hn : n = zs.length) (hz : zs.length ≤ 1000000000)
    (h : rg k w0 ops l Q ⟨(d, .one (.sl r (zs.filter fun x => !decide (x = q)).length 1)) :: F, (r, .arr e 1 ((zs.filter fun x => !decide (x = q)).map irow)) :: H⟩) :
    rg k w0 ops (⟨some d, .call { callee := .value (.func f), args := #[x, y], argTypes := ts }, t, p, af, none⟩ :: l) Q ⟨F, H⟩ :=
  rgI (irg_h rfl (opr_del hc rfl rfl (nlt hN) hx hy hr hR hn hz) (rgO h))
end
end Go.Proofs.Ytoflahjlnbligaa
