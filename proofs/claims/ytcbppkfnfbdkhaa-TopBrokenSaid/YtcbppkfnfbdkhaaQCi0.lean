/- slices.Compact of this program. -/
import Derived.Test.YtcbppkfnfbdkhaaLb3
import Derived.Shelf.Slices.CompactI
set_option linter.all false
set_option maxRecDepth 100000
set_option maxHeartbeats 4000000
namespace Go.Proofs.Ytcbppkfnfbdkhaa
open Go.RowKit Go.Shelf
def rhoC : Ren := ⟨fun _ => 129, fun x => bif Nat.beq x 0 then 0 else bif Nat.beq x 3 then 3 else bif Nat.beq x 4 then 4 else 22, fun x => x⟩
theorem laysC : Lays2.n20 Try.prog rhoC where
  mixed := by kernel_rfl
  f20 := by kernel_rfl
  t0 := by kernel_rfl
  a0 := fun w => by rfl
  z0 := fun w => by rfl
  v0 := fun w => by rfl
  t3 := by kernel_rfl
  a3 := fun w => by rfl
  z3 := fun w => by rfl
  v3 := fun w => by rfl
  t4 := by kernel_rfl
  a4 := fun w => by rfl
  z4 := fun w => by rfl
  v4 := fun w => by rfl
  t22 := by kernel_rfl
  a22 := fun w => by rfl
  z22 := fun w => by rfl
  v22 := fun w => by rfl
  i3 := by kernel_rfl
def CptC (P : Program) (f : FuncId) : Prop := Enters P f ∧ (∀ (blk cap : Nat) (zs : List Int) (w : World), Go.Sort.Holds (Value.int .i64) w blk 0 zs.toArray → zs.length ≤ 9223372036854775807 → zs.length ≤ cap →
    Calls P f #[.slice (some ⟨blk, 0, none⟩) zs.length cap] w fun e w' => e = .returned (.slice (some ⟨blk, 0, none⟩) (Lib.compact zs).length cap) ∧ ∃ q, w' = Go.Sort.putRow (Value.int .i64) (Go.Sort.ahead w q) blk 0 (Lib.compact zs ++ List.replicate (zs.length - (Lib.compact zs).length) 0).toArray) ∧
  ∀ (a : Option Addr) (cap : Nat) (w : World), Calls P f #[.slice a 0 cap] w fun e w' => e = .returned (.slice a 0 cap) ∧ w' = w
theorem cpt_c : CptC Try.prog 129 :=
  ⟨enters_of Try.func129 rfl rfl, fun blk cap zs w h1 h2 h3 => Any.slices_Compact_int laysC blk 0 cap zs w h1 h2 h3, fun a cap w => Any.slices_Compact_int_empty laysC a cap w⟩
theorem compact_mem {zs : List Int} {x : Int} (h : x ∈ Lib.compact zs) : x ∈ zs := by
  unfold Lib.compact Lib.compactUpTo at h
  obtain ⟨j, hj, rfl⟩ := List.mem_map.1 h
  have := List.mem_range.1 (List.mem_filter.1 hj).1
  simp [this]
theorem compact_le (zs : List Int) : (Lib.compact zs).length ≤ zs.length := by
  unfold Lib.compact Lib.compactUpTo
  rw [List.length_map]
  exact Nat.le_trans (List.length_filter_le _ _) (by simp)
section
variable {P : Program} {T : TypeId} {N : Nat} {w0 : Org} {g g' : Gh} {s : St} {a : Act} {w w' : World} {o : Oper} {τ : List TyI}
theorem Sim.turn (h : Sim P T N w0 g s a w) {r b : Nat} {vh : VH} (hl : live s.H r) (hb : g.β r = some b) (hk : Keep (fun k => k = b) w w') (hsz : w'.heap.size = w.heap.size) (hvh : Fut g.Rd g.Rd w w' → HeapOK P g w' r vh) : Sim P T N w0 g (s.hput r vh) a w' := by
  obtain ⟨b1, b2, b3⟩ := h.gi.bd r b hl hb
  have blk : ∀ k, k ≠ b → w'.heap[k]? = w.heap[k]? := fun k e => hk.block k e
  have hH : ∀ q, getH (s.hput r vh).H q = if r = q then vh else getH s.H q := fun q => hget_put _ _ _ _
  have lv : ∀ q, live (s.hput r vh).H q → live s.H q := fun q hq => by
    unfold live at hq ⊢
    rw [hH] at hq
    by_cases e : r = q
    · subst e; exact hl
    · rwa [if_neg e] at hq
  have hf : Fut g.Rd g.Rd w w' := ⟨fun _ _ h => h, fun b' o hb' => hk.cell (p := ⟨b', o, none⟩) fun e => (h.gi.rd b' o hb').2.2 r hl (by rw [hb]; exact congrArg some e.symm)⟩
  refine ⟨⟨fun r r' b h1 h2 h3 h4 => h.gi.inj r r' b (lv _ h1) (lv _ h2) h3 h4, fun q b' h1 h2 => by rw [hsz]; exact h.gi.bd q b' (lv _ h1) h2, fun b' o hr => ?_, ?_, fun tb htb => ?_, h.gi.org, h.gi.exs (fun _ _ h => h) fun c hc => ⟨blk c fun e => hc.2.2.2.2 r hl (by rw [hb, e]), hc.2.2.1, hc.2.2.2.1, fun q hq => hc.2.2.2.2 q (lv _ hq)⟩⟩, h.dn, h.nt, fun x => (h.hF x).move hf (fun _ h => h) fun _ _ => ⟨rfl, rfl⟩, fun q => ?_⟩
  · obtain ⟨a1, a2, a3⟩ := h.gi.rd b' o hr
    exact ⟨by rw [hsz]; exact a1, a2, fun q hq => a3 q (lv _ hq)⟩
  · exact h.gi.keep.trans (hk.mono fun k e => .inr (by rw [e]; exact b1))
  · obtain ⟨a1, a2⟩ := h.gi.tape tb htb
    exact ⟨by rw [hsz]; exact a1, a2.keep hf (blk tb fun e => b3 (by rw [← e]; exact htb))⟩
  · show HeapOK P g w' q (getH (s.hput r vh).H q)
    rw [hH]
    by_cases e : r = q
    · subst e; rw [if_pos rfl]; exact hvh hf
    · rw [if_neg e]
      refine (h.hH q).move hf (fun _ h => h) (fun _ _ => ⟨rfl, rfl⟩) (fun b' hl' hb' => blk b' fun e' => e ?_) fun _ _ h => h
      subst e'
      exact h.gi.inj r q _ hl hl' hb hb'
theorem opr_cpt {f : FuncId} {x : Operand} {ts : Array TypeId} {r n d e : Nat} {zs : List Int} (hc : CptC P f) (ho : o.op = .call { callee := .value (.func f), args := #[x], argTypes := ts }) (hd : o.dst = some d) (hN : d < N) (hx : s.ev x = .one (.sl r n 1)) (hr : getH s.H r = .arr e 1 (zs.map irow)) (hn : n = zs.length) (hz : zs.length ≤ 1000000000) :
    OpR P T N w0 s o (fun s' => s' = (s.hput r (.arr e 1 ((Lib.compact zs).map irow))).put d (.one (.sl r (Lib.compact zs).length 1))) := by
  intro g a w hs K Q hK
  subst hn
  have hev := hs.ev x; rw [hx] at hev
  have hlr : live s.H r := by unfold live; rw [hr]; rfl
  have hh := hs.hH r; rw [hr] at hh
  have hrun : (execOp a.eval o).run P w = .ok (.enter f #[a.eval x]) w := by
    simp only [execOp, ho, Sem.run_bind, resolve, Act.eval, Deferred.ofValue, Sem.run_pure, Result.andThen_ok, invoke]
    have := hc.1 (#[] ++ #[x].map a.eval ++ #[]) w
    simpa [Act.eval] using this
  unfold Oper.wp
  rw [hrun, Oper.upon_enter]
  obtain ⟨g0, hh2⟩ := hh
  rcases hev.one_inv.sl_inv with ⟨e1, e2, hb⟩ | ⟨b, hb, h1, h2, e1⟩
  · have hz0 : zs = [] := List.eq_nil_of_length_eq_zero (by simpa using e2)
    subst hz0
    rw [e1]
    refine (hc.2.2 none 0 w).mono fun e' w' ⟨q1, q2⟩ => ?_
    subst q1; subst q2
    refine hK g _ _ _ rfl ?_
    rw [hd]
    have hs1 : Sim P T N w0 g (s.hput r (.arr e 1 ([] : List (List Cell)))) a w' := hs.less (fun _ => .inl rfl) fun q => by
      left
      show getH ((r, VH.arr e 1 []) :: s.H) q = _
      simp only [getH, beq_eq]
      by_cases e9 : r = q
      · subst e9; simp [hr]
      · simp [e9]
    exact hs1.put hN (.one (.slv 1 hb))
  · rw [e1]
    rcases hh2 with ⟨h3, _⟩ | ⟨b', vals, hb', hbl, h3, h4, h5, h6⟩
    · rw [hb] at h3; cases h3
    obtain rfl : b = b' := by rw [hb] at hb'; injection hb'
    simp only [List.length_map, Nat.mul_one] at h3 h4
    have hcell : ∀ i (h : i < zs.length), ∃ hw : (Lit.int .i64 zs[i]).wf = true, vals[i]? = some (.int .i64 zs[i]) := fun i hi => by
      have hi' : (zs.map irow)[i]? = some (irow zs[i]) := by simp [hi]
      obtain ⟨u, hu, hrp⟩ := h6 i 0 _ _ hi' rfl
      simp only [Nat.mul_one, Nat.add_zero] at hu
      cases hrp with
      | int k m hw => exact ⟨hw, hu⟩
    have hholds : Go.Sort.Holds (Value.int .i64) w b 0 zs.toArray := fun j hj => by
      simp only [List.size_toArray] at hj
      obtain ⟨_, hu⟩ := hcell j hj
      refine ⟨?_, by rw [Nat.zero_add]; exact hbl.frozen j⟩
      rw [Nat.zero_add, hbl.cell, hu]
      simp [hj]
    have hle := compact_le zs
    refine (hc.2.1 b (g.κ r) zs w hholds (by omega) h4).mono fun e' w' ⟨q1, q, q2⟩ => ?_
    subst q1
    generalize hD : (Lib.compact zs ++ List.replicate (zs.length - (Lib.compact zs).length) 0).toArray = D at q2
    have hDs : D.size = zs.length := by rw [← hD]; simp; omega
    have hbw : w'.heap[b]? = some (.cells (Go.Sort.putCells (Value.int .i64) 0 D vals) e (0, 0)) := by
      rw [q2]
      simp only [Go.Sort.putRow, Go.Sort.mapBlock, Go.Sort.ahead]
      rw [Array.getElem?_modify, if_pos rfl, show w.heap[b]? = some (.cells vals e (0, 0)) from hbl]
      rfl
    have hk : Keep (fun k => k = b) w w' := by
      refine ⟨by rw [q2]; rfl, by rw [q2]; rfl, by rw [q2]; rfl, by rw [q2]; simp [Go.Sort.putRow, Go.Sort.mapBlock, Go.Sort.ahead], fun k hk => ?_⟩
      rw [q2]
      simp only [Go.Sort.putRow, Go.Sort.mapBlock, Go.Sort.ahead]
      rw [Array.getElem?_modify, if_neg (fun e => hk e.symm)]
    have hsz : w'.heap.size = w.heap.size := by rw [q2]; simp [Go.Sort.putRow, Go.Sort.mapBlock, Go.Sort.ahead]
    have hs2 := hs.turn (vh := .arr e 1 ((Lib.compact zs).map irow)) hlr hb hk hsz fun hf => by
      refine ⟨fun row hrow => by obtain ⟨z, _, rfl⟩ := List.mem_map.1 hrow; rfl, .inr ⟨b, _, hb, hbw, by simp [Go.Sort.putCells, h3], by rw [List.length_map]; omega, h5, fun i j row y hi hj => ?_⟩⟩
      rw [List.getElem?_map] at hi
      cases hci : (Lib.compact zs)[i]? with
      | none => rw [hci] at hi; cases hi
      | some z =>
        rw [hci] at hi
        simp at hi
        subst hi
        have hj0 : j = 0 := by
          have := (List.getElem?_eq_some_iff.1 hj).1
          simp [irow] at this; exact this
        subst hj0
        simp [irow] at hj
        subst hj
        have hil := (List.getElem?_eq_some_iff.1 hci).1
        have hzm : z ∈ zs := compact_mem (List.mem_of_getElem? hci)
        obtain ⟨k, hk1, hk2⟩ := List.getElem_of_mem hzm
        obtain ⟨hw, _⟩ := hcell k hk1
        rw [hk2] at hw
        refine ⟨.int .i64 z, ?_, .int _ _ hw⟩
        have hDi : D[i]! = z := by
          rw [← hD]
          simp [Array.getElem!_eq_getD, List.getElem?_append_left hil, hci]
        simp only [Nat.mul_one, Nat.add_zero, Go.Sort.putCells, Array.getElem?_mapIdx]
        have hiv : i < vals.size := by omega
        rw [Array.getElem?_eq_getElem hiv]
        simp only [hDs, Nat.zero_le, Nat.zero_add, Nat.sub_zero, true_and, show i < zs.length by omega, if_true, hDi, Option.map_some]
    refine hK g _ _ _ rfl ?_
    rw [hd]
    refine hs2.put hN (.one ?_)
    exact RepCV.sl (g := g) _ 1 hb (by omega) h2
end
section
variable {k : Wk} {w0 : Org} {ops : Array Oper} {l : List Oper} {Q : St → Prop} {F : List (Nat × SV)} {H : List (Nat × VH)} {d t : Nat} {p : String} {af : Array Edge}
theorem v_cpt {f : FuncId} {x : Operand} {ts : Array TypeId} {r n e : Nat} {zs : List Int} (hN : Nat.blt d k.N = true) (hc : CptC k.P f) (hx : (St.mk F H).ev x = .one (.sl r n 1)) (hr : getH H r = .arr e 1 (zs.map irow)) (hn : n = zs.length) (hz : zs.length ≤ 1000000000)
    (h : rg k w0 ops l Q ⟨(d, .one (.sl r (Lib.compact zs).length 1)) :: F, (r, .arr e 1 ((Lib.compact zs).map irow)) :: H⟩) :
    rg k w0 ops (⟨some d, .call { callee := .value (.func f), args := #[x], argTypes := ts }, t, p, af, none⟩ :: l) Q ⟨F, H⟩ :=
  rgI (irg_h rfl (opr_cpt hc rfl rfl (nlt hN) hx hr hn hz) (rgO h))
end
end Go.Proofs.Ytcbppkfnfbdkhaa
