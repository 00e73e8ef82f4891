/- slices.Insert of rules, as the world has it. -/
import Derived.Test.YtcbppkfnfbdkhaaKc
import Derived.WalkKit
import Derived.Lib.Walk
import Derived.Lib.SliceRun
import Derived.Lib.AppendZerosOnto
import Derived.Lib.Overlaps
import Derived.Laws.Externs
import Derived.Laws.IdiomCopy
import Derived.Shelf.RegionOpenPlain
import Derived.Laws.NewBlocks
set_option linter.all false
set_option maxRecDepth 100000
set_option maxHeartbeats 4000000
namespace Go.Proofs.Ytcbppkfnfbdkhaa
open Go.RowKit Go.Shelf Go.Lib
section
variable {P : Program}
theorem oper_cpy (w : World) {o : Oper} {a : Act} {K : Act → World → Prop} {Q : Exit → Act → World → Prop} {d s : Operand} {t t2 : TypeId} (ho : o.op = .call { callee := .builtin .copy, args := #[d, s], argTypes := #[t, t2] })
    {v u v' : Value} {w' : World} (hd : a.eval d = v) (hs : a.eval s = u) (hr : (Builtin.copy_ #[t, t2] o.type #[v, u]).run P w = .ok v' w') (h : K (a.put o.dst v') w') : o.wp P a w K Q := by
  unfold Oper.wp execOp
  simp only [ho, resolve, invoke, builtin, Sem.run_bind, Sem.run_pure, Result.andThen_ok, List.map_toArray, List.map_cons, List.map_nil, hd, hs, hr]
  exact h
theorem oper_app (w : World) {o : Oper} {a : Act} {K : Act → World → Prop} {Q : Exit → Act → World → Prop} {d s : Operand} {t t2 : TypeId} (ho : o.op = .call { callee := .builtin .append, args := #[d, s], argTypes := #[t, t2] })
    {v u v' : Value} {w' : World} (hd : a.eval d = v) (hs : a.eval s = u) (hr : (Builtin.append_ #[t, t2] o.type #[v, u]).run P w = .ok v' w') (h : K (a.put o.dst v') w') : o.wp P a w K Q := by
  unfold Oper.wp execOp
  simp only [ho, resolve, invoke, builtin, Sem.run_bind, Sem.run_pure, Result.andThen_ok, List.map_toArray, List.map_cons, List.map_nil, hd, hs, hr]
  exact h
theorem list_cpy (w : World) {ops : Array Oper} {rest : List Oper} {o : Oper} {a : Act} {Q : Exit → Act → World → Prop} (hgd : o.guard = none) {d s : Operand} {t t2 : TypeId} (ho : o.op = .call { callee := .builtin .copy, args := #[d, s], argTypes := #[t, t2] })
    {v u v' : Value} {w' : World} (hd : a.eval d = v) (hs : a.eval s = u) (hr : (Builtin.copy_ #[t, t2] o.type #[v, u]).run P w = .ok v' w') (h : wpList P ops Q rest (a.put o.dst v') w') : wpList P ops Q (o :: rest) a w :=
  wpList_plain hgd fun _ hK => oper_cpy w ho hd hs hr (hK _ _ h)
theorem list_app (w : World) {ops : Array Oper} {rest : List Oper} {o : Oper} {a : Act} {Q : Exit → Act → World → Prop} (hgd : o.guard = none) {d s : Operand} {t t2 : TypeId} (ho : o.op = .call { callee := .builtin .append, args := #[d, s], argTypes := #[t, t2] })
    {v u v' : Value} {w' : World} (hd : a.eval d = v) (hs : a.eval s = u) (hr : (Builtin.append_ #[t, t2] o.type #[v, u]).run P w = .ok v' w') (h : wpList P ops Q rest (a.put o.dst v') w') : wpList P ops Q (o :: rest) a w :=
  wpList_plain hgd fun _ hK => oper_app w ho hd hs hr (hK _ _ h)
theorem draw_cpy {ops : Array Oper} {o : Oper} {a : Act} {w : World} {K : Act → World → Prop} {Q : Exit → Act → World → Prop} {E : Prop} (hg : o.guard = none) {d s : Operand} {t t2 : TypeId} (ho : o.op = .call { callee := .builtin .copy, args := #[d, s], argTypes := #[t, t2] })
    {v u v' : Value} {w' : World} (hd : a.eval d = v) (hs : a.eval s = u) (hr : (Builtin.copy_ #[t, t2] o.type #[v, u]).run P w = .ok v' w') (hK : K (a.put o.dst v') w') :
    if Region.wanted o (yielded ops a.tmps) = true then Oper.wp P o a w K Q else E := by
  rw [if_pos (by simp [Region.wanted, hg])]
  exact oper_cpy w ho hd hs hr hK
theorem cpy_run (w : World) {t e : TypeId} {i : TypeInfo} (hu : P.underlying t = some (.slice e)) (hi : P.info? e = some i) (ty : TypeId) (b o dLen dCap : Nat) (ad : Addr) (sLen sCap : Nat) (cs : List Value) (hcs : cs.length = Nat.min sLen dLen * i.size)
    (hsrc : ∀ j v, cs[j]? = some v → w.cell? (ad.add j) = some v) (hc : ∀ j, j < cs.length → (w.cell? ⟨b, o + j, none⟩).isSome = true) (hf : ∀ j, w.frozen? ⟨b, j, none⟩ = false) (h1 : ∀ v ∈ cs, v.oneCell' = true) :
    (Builtin.copy_ #[t, t] ty #[.slice (some ⟨b, o, none⟩) dLen dCap, .slice (some ad) sLen sCap]).run P w = .ok (goInt (Nat.min sLen dLen)) (w.setCells b o cs) := by
  have hst := run_storeCells_cells (P := P) b o cs 0 w (by simpa using hc) (fun j _ => hf _) h1
  exact run_copy_g w _ t t ty e i hu hi _ _ dLen dCap sLen sCap cs hcs (fun j v hj => ⟨ad, rfl, id, hsrc j v hj⟩) (by simpa using hst)
theorem setCells_some (b : Nat) (vs : List Value) (o : Nat) (w : World) (h : ∀ j, j < vs.length → (w.cell? ⟨b, o + j, none⟩).isSome = true) (k : Nat) (hk : (w.cell? ⟨b, k, none⟩).isSome = true) : ((w.setCells b o vs).cell? ⟨b, k, none⟩).isSome = true := by
  by_cases hin : o ≤ k ∧ k < o + vs.length
  · have := World.cell?_setCells_in b vs o w h (k - o) (by omega)
    rw [show o + (k - o) = k by omega] at this
    rw [this]; rfl
  · rw [World.cell?_setCells_out b vs o w ⟨b, k, none⟩ (fun _ _ => by show k < o ∨ o + vs.length ≤ k; omega)]
    exact hk
end
theorem infoR : ∃ (i : TypeInfo) (z : Value), Try.prog.info? 56 = some i ∧ i.size = 7 ∧ i.zero = some z ∧ z.cells.size = 7 ∧ i.bytes ≤ 200 := by
  have h : (Try.prog.info? 56).map (fun i => (i.size, i.zero.map fun z => z.cells.size, Nat.ble i.bytes 200)) = some (7, some 7, true) := by kernel_rfl
  cases hi : Try.prog.info? 56 with
  | none => rw [hi] at h; cases h
  | some i =>
    rw [hi] at h
    simp only [Option.map_some, Option.some.injEq, Prod.mk.injEq] at h
    cases hz : i.zero with
    | none => rw [hz] at h; cases h.2.1
    | some z =>
      rw [hz] at h
      exact ⟨i, z, rfl, h.1, hz, by simpa using h.2.1, Nat.le_of_ble_eq_true h.2.2⟩
theorem insR_room (b n c i vb vc : Nat) (cs vs : List Value) (w : World) (hi : i < n) (hroom : n + 1 ≤ c) (hc63 : c ≤ 9223372036854775807) (hvb : vb ≠ b) (hcl : cs.length = n * 7) (hvl : vs.length = 7)
    (hcs : ∀ j v, cs[j]? = some v → w.cell? ⟨b, j, none⟩ = some v) (hsp : ∀ j, j < (n + 1) * 7 → (w.cell? ⟨b, j, none⟩).isSome = true) (hfz : ∀ j, w.frozen? ⟨b, j, none⟩ = false)
    (hvs : ∀ j v, vs[j]? = some v → w.cell? ⟨vb, j, none⟩ = some v) (h1c : ∀ v ∈ cs, v.oneCell' = true) (h1v : ∀ v ∈ vs, v.oneCell' = true)
    (tA tB : TypeId) (kA kB : Nat) (hsa : w.shape? vb = some (tA, kA)) (hsb : w.shape? b = some (tB, kB)) (hkB : kB ≠ 0) (hfv : ∀ j, w.frozen? ⟨vb, j, none⟩ = false) :
    Calls Try.prog 51 #[.slice (some ⟨b, 0, none⟩) n c, .int .i64 i, .slice (some ⟨vb, 0, none⟩) 1 vc] w fun e w' =>
      e = .returned (.slice (some ⟨b, 0, none⟩) (n + 1) c) ∧ w' = (w.drew.setCells b ((i + 1) * 7) (cs.drop (i * 7))).setCells b (i * 7) vs := by
  have hz2 : ¬ ((i : Int) = (n : Int)) := by omega
  have hov : ∀ lb cb, (callFunc 103 #[.slice (some ⟨vb, 0, none⟩) 1 vc, .slice (some ⟨b, (i + 1) * 7, none⟩) lb cb]).run Try.prog w = .ok (.value (.bool false)) w := fun lb cb => by
    rw [run_callFunc_extern Try.func103 (by kernel_rfl) (by kernel_rfl) (by kernel_rfl) (e := Extern.SlicesOverlaps.overlaps #[28, 28] #[4]) (by kernel_rfl),
      Lib.run_overlaps_apart w 28 4 56 (by kernel_rfl) 7 (fun w => by rfl) ⟨vb, 0, none⟩ ⟨b, (i + 1) * 7, none⟩ 1 vc lb cb hvb tA tB kA kB hsa hsb hkB (hfv _) (hfv _)]
    rfl
  have hw1 : IntKind.i64.wrap ((i : Int) + 1) = (i : Int) + 1 := by rw [IntKind.wrap_i64]; omega
  have hw2 : IntKind.i64.wrap ((n : Int) + 1) = (n : Int) + 1 := by rw [IntKind.wrap_i64]; omega
  have hin : i ≤ n := by omega
  obtain ⟨i0, z0, hi0, hsz, _⟩ := infoR
  have hu28 : Try.prog.underlying 28 = some (.slice 56) := by kernel_rfl
  have hdl : (cs.drop (i * 7)).length = (n - i) * 7 := by rw [List.length_drop, hcl]; omega
  have hcp1 : ∀ ty dc sc, (Builtin.copy_ #[28, 28] ty #[.slice (some ⟨b, (i + 1) * 7, none⟩) (n - i) dc, .slice (some ⟨b, i * 7, none⟩) (n + 1 - i) sc]).run Try.prog w.drew = .ok (goInt (Nat.min (n + 1 - i) (n - i))) (w.drew.setCells b ((i + 1) * 7) (cs.drop (i * 7))) := fun ty dc sc =>
    cpy_run w.drew hu28 hi0 ty b _ _ dc ⟨b, i * 7, none⟩ _ sc (cs.drop (i * 7)) (by rw [hdl, hsz, show Nat.min (n + 1 - i) (n - i) = n - i from Nat.min_eq_right (by omega)])
      (fun j v hj => by rw [Addr.add_lit]; exact hcs (i * 7 + j) v (by rwa [List.getElem?_drop] at hj))
      (fun j hj => hsp _ (by rw [hdl] at hj; omega)) hfz (fun v hv => h1c v (List.mem_of_mem_drop hv))
  obtain ⟨W1, hW1⟩ : ∃ W1, W1 = w.drew.setCells b ((i + 1) * 7) (cs.drop (i * 7)) := ⟨_, rfl⟩
  have hsp1 : ∀ k, k < (n + 1) * 7 → (W1.cell? ⟨b, k, none⟩).isSome = true := fun k hk => by
    rw [hW1]
    exact setCells_some b (cs.drop (i * 7)) ((i + 1) * 7) w.drew (fun j hj => hsp _ (by rw [hdl] at hj; omega)) _ (hsp k hk)
  have hcp2 : ∀ (W : World), (∀ x, W.cell? x = W1.cell? x) → (∀ x, W.frozen? x = W1.frozen? x) → ∀ ty dc, (Builtin.copy_ #[28, 28] ty #[.slice (some ⟨b, i * 7, none⟩) (n + 1 - i) dc, .slice (some ⟨vb, 0, none⟩) 1 vc]).run Try.prog W = .ok (goInt (Nat.min 1 (n + 1 - i))) (W.setCells b (i * 7) vs) := fun W hWc hWf ty dc =>
    cpy_run W hu28 hi0 ty b _ _ dc ⟨vb, 0, none⟩ 1 vc vs (by rw [hvl, hsz, show Nat.min 1 (n + 1 - i) = 1 from Nat.min_eq_left (by omega)])
      (fun j v hj => by
        rw [Addr.add_lit, hWc, hW1, World.cell?_setCells_out b _ _ _ _ (fun h _ => absurd h hvb), Nat.zero_add]
        exact hvs j v hj)
      (fun j hj => by rw [hWc]; exact hsp1 _ (by omega)) (fun j => by rw [hWf, hW1, World.frozen?_setCells]; exact hfz _) h1v
  rw [← hW1] at hcp1
  have mixed : Try.prog.follows .mixedOrders = true := by kernel_rfl
  have hb1 : (0 : Int) ≤ (i : Int) + 1 := by omega
  have hb2 : ¬ (c = i + 1) := by omega
  have hb3 : (i : Int) ≤ (n : Int) + 1 := by omega
  have hb4 : ¬ (c = i) := by omega
  go_enter Try.func51, Try.ntmps51
  go_wp2_with (simp only [hov])
  go_region_law_o (refine draw_cpy rfl rfl (by simp [Act.eval, Act.put]) (by simp [Act.eval, Act.put]) (hcp1 _ _ _) ?_)
  go_wp2_with (at_builtin; refine list_cpy _ rfl rfl rfl rfl (hcp2 _ (fun _ => by first | rfl | (rw [hW1]; done) | (rw [hW1]; rfl)) (fun _ => by first | rfl | (rw [hW1]; done) | (rw [hW1]; rfl)) _ _) ?_)
  go_ret
  exact ⟨rfl, by first | rfl | rw [hW1]⟩
theorem insR_grow (b n c i vb vc : Nat) (cs vs : List Value) (w : World) (hi : i < n) (hnc : n ≤ c) (hroom : c < n + 1) (hn9 : n ≤ 1000000000) (hcl : cs.length = n * 7) (hvl : vs.length = 7)
    (hcs : ∀ j v, cs[j]? = some v → w.cell? ⟨b, j, none⟩ = some v)
    (hvs : ∀ j v, vs[j]? = some v → w.cell? ⟨vb, j, none⟩ = some v) (h1c : ∀ v ∈ cs, v.oneCell' = true) (h1v : ∀ v ∈ vs, v.oneCell' = true) :
    Calls Try.prog 51 #[.slice (some ⟨b, 0, none⟩) n c, .int .i64 i, .slice (some ⟨vb, 0, none⟩) 1 vc] w fun e w' =>
      ∃ (ROW : Array Value) (G : Nat), n + 1 ≤ G ∧ G ≤ maxLen ∧ ROW.size = G * 7 ∧ ROW.toList.take (i * 7) = cs.take (i * 7) ∧ e = .returned (.slice (some ⟨w.heap.size, 0, none⟩) (n + 1) G) ∧
      w' = (((w.alloc (.cells ROW 56)).drew.setCells w.heap.size (i * 7) vs).drew).setCells w.heap.size ((i + 1) * 7) (cs.drop (i * 7)) := by
  obtain ⟨i0, z0, hi0, hsz, hz0, hzs, hzb⟩ := infoR
  have hu28 : Try.prog.underlying 28 = some (.slice 56) := by kernel_rfl
  have hu3 : Try.prog.underlying 3 = some (.int .i64) := by kernel_rfl
  have mixed : Try.prog.follows .mixedOrders = true := by kernel_rfl
  have hz2 : ¬ ((i : Int) = (n : Int)) := by omega
  have hz3 : (c : Int) < (n : Int) + 1 := by omega
  have hbw : b < w.heap.size := block_lt_of_cell (hcs 0 _ (List.getElem?_eq_getElem (by omega)))
  have hvw : vb < w.heap.size := block_lt_of_cell (hvs 0 _ (List.getElem?_eq_getElem (by omega)))
  have hkk : (n : Int) + 1 - (i : Int) = ((n + 1 - i : Nat) : Int) := by omega
  have hik : i + (n + 1 - i) = n + 1 := by omega
  have hold : (Builtin.firstCells i0.size i (.slice (some ⟨b, 0, none⟩) i c)).run Try.prog w.drew = .ok (cs.take (i * 7)).toArray w.drew := by
    rw [hsz]
    exact run_firstCells_some w.drew 7 i ⟨b, 0, none⟩ i c (cs.take (i * 7)) (by rw [List.length_take]; omega) (fun j v hj => by
      rw [Addr.add_lit, Nat.zero_add]
      rw [List.getElem?_take] at hj
      split at hj
      · exact hcs j v hj
      · cases hj)
  have hby : (n + 1) * i0.bytes ≤ 140737488355328 := Nat.le_trans (Nat.mul_le_mul (show n + 1 ≤ 1000000001 by omega) hzb) (by decide)
  have hby2 : (n + 1 - i) * i0.bytes ≤ 281474976710656 := Nat.le_trans (Nat.mul_le_mul (show n + 1 - i ≤ 1000000001 by omega) hzb) (by decide)
  have hrz : ∀ ty, (Builtin.append_ #[28, 3] ty #[.slice (some ⟨b, 0, none⟩) i c, .int .i64 ((n : Int) + 1 - (i : Int))]).run Try.prog w =
      .ok (.slice (some ⟨w.heap.size, 0, none⟩) (n + 1) (grownCap w (n + 1) c 56)) (w.drew.alloc (.cells ((cs.take (i * 7)).toArray ++ Builtin.zeroCells z0.cells (n + 1 - i) ++ Builtin.zeroCells z0.cells (grownCap w (n + 1) c 56 - (n + 1))) 56)) := fun ty => by
    have h := Lib.run_append_grow_zeros w 28 3 ty 56 i0 z0 .i64 .i64 hu28 hu3 hi0 hz0 (some ⟨b, 0, none⟩) i c (cs.take (i * 7)) hold (n + 1 - i) (by omega) (by omega) (by omega) (by omega) hby2 (by rw [hik]; exact growslice_fits hroom hby)
    rw [hik] at h
    rw [hkk]
    exact h
  obtain ⟨G, hG⟩ : ∃ G, G = grownCap w (n + 1) c 56 := ⟨_, rfl⟩
  obtain ⟨ROW, hROW⟩ : ∃ ROW : Array Value, ROW = (cs.take (i * 7)).toArray ++ Builtin.zeroCells z0.cells (n + 1 - i) ++ Builtin.zeroCells z0.cells (G - (n + 1)) := ⟨_, rfl⟩
  rw [← hG] at hrz
  rw [← hROW] at hrz
  have hGn : n + 1 ≤ G := by rw [hG]; exact grownCap_ge w _ _ _
  have hG63' : G ≤ maxLen := by rw [hG]; exact grownCap_le_maxLen w (n + 1) c _ (by unfold maxLen; omega)
  have hG63 : G ≤ 9223372036854775807 := by unfold maxLen at hG63'; omega
  have zl : ∀ k, (Builtin.zeroCells z0.cells k).size = k * 7 := fun k => by simp [Builtin.zeroCells, hzs]
  have hRs : ROW.size = G * 7 := by
    rw [hROW, Array.size_append, Array.size_append, zl, zl]
    simp only [List.size_toArray, List.length_take]
    omega
  have hRt : ROW.toList.take (i * 7) = cs.take (i * 7) := by
    rw [hROW]
    simp only [Array.toList_append, List.append_assoc]
    rw [List.take_append_of_le_length (by simp only [List.length_take]; omega), List.take_of_length_le (by simp only [List.length_take]; omega)]
  obtain ⟨W1, hW1⟩ : ∃ W1, W1 = w.drew.alloc (.cells ROW 56) := ⟨_, rfl⟩
  rw [← hW1] at hrz
  have hN : ∀ j, j < (n + 1) * 7 → (W1.cell? ⟨w.heap.size, j, none⟩).isSome = true := fun j hj => by
    rw [hW1, World.cell?_alloc_at (w := w.drew) ROW _ w.heap.size j rfl, Array.getElem?_eq_getElem (by omega)]; rfl
  have hNf : ∀ j, W1.frozen? ⟨w.heap.size, j, none⟩ = false := fun j => by rw [hW1]; exact World.frozen?_alloc_at (w := w.drew) ROW _ w.heap.size j rfl
  have hOb : ∀ j v, w.cell? ⟨b, j, none⟩ = some v → W1.cell? ⟨b, j, none⟩ = some v := fun j v h => by rw [hW1, World.cell?_alloc_past (w := w.drew) _ b j hbw]; exact h
  have hOv : ∀ j v, w.cell? ⟨vb, j, none⟩ = some v → W1.cell? ⟨vb, j, none⟩ = some v := fun j v h => by rw [hW1, World.cell?_alloc_past (w := w.drew) _ vb j hvw]; exact h
  have hdl : (cs.drop (i * 7)).length = (n - i) * 7 := by rw [List.length_drop, hcl]; omega
  have hbN : b ≠ w.heap.size := by omega
  have hcpA : ∀ (W : World), (∀ x, W.cell? x = W1.cell? x) → (∀ x, W.frozen? x = W1.frozen? x) → ∀ ty dc, (Builtin.copy_ #[28, 28] ty #[.slice (some ⟨w.heap.size, i * 7, none⟩) (n + 1 - i) dc, .slice (some ⟨vb, 0, none⟩) 1 vc]).run Try.prog W = .ok (goInt (Nat.min 1 (n + 1 - i))) (W.setCells w.heap.size (i * 7) vs) := fun W hWc hWf ty dc =>
    cpy_run W hu28 hi0 ty w.heap.size _ _ dc ⟨vb, 0, none⟩ 1 vc vs (by rw [hvl, hsz, show Nat.min 1 (n + 1 - i) = 1 from Nat.min_eq_left (by omega)])
      (fun j v hj => by rw [Addr.add_lit, hWc, Nat.zero_add]; exact hOv _ v (hvs j v hj))
      (fun j hj => by rw [hWc]; exact hN _ (by omega)) (fun j => by rw [hWf]; exact hNf _) h1v
  have hcpB : ∀ (W : World), (∀ x, W.cell? x = (W1.setCells w.heap.size (i * 7) vs).cell? x) → (∀ x, W.frozen? x = (W1.setCells w.heap.size (i * 7) vs).frozen? x) → ∀ ty dc sc, (Builtin.copy_ #[28, 28] ty #[.slice (some ⟨w.heap.size, (i + 1) * 7, none⟩) (n - i) dc, .slice (some ⟨b, i * 7, none⟩) (n - i) sc]).run Try.prog W = .ok (goInt (Nat.min (n - i) (n - i))) (W.setCells w.heap.size ((i + 1) * 7) (cs.drop (i * 7))) := fun W hWc hWf ty dc sc =>
    cpy_run W hu28 hi0 ty w.heap.size _ _ dc ⟨b, i * 7, none⟩ _ sc (cs.drop (i * 7)) (by rw [hdl, hsz, show Nat.min (n - i) (n - i) = n - i from Nat.min_self _])
      (fun j v hj => by
        rw [Addr.add_lit, hWc, World.cell?_setCells_out _ _ _ _ _ (fun h _ => absurd h hbN)]
        exact hOb _ v (hcs (i * 7 + j) v (by rwa [List.getElem?_drop] at hj)))
      (fun j hj => by rw [hWc]; exact setCells_some w.heap.size vs (i * 7) W1 (fun t ht => hN _ (by omega)) _ (hN _ (by rw [hdl] at hj; omega)))
      (fun j => by rw [hWf, World.frozen?_setCells]; exact hNf _) (fun v hv => h1c v (List.mem_of_mem_drop hv))
  subst hW1
  have hE1 : ∀ x, ((w.alloc (.cells ROW 56)).drew).cell? x = (w.drew.alloc (.cells ROW 56)).cell? x := fun x => rfl
  have hE2 : ∀ x, ((w.alloc (.cells ROW 56)).drew).frozen? x = (w.drew.alloc (.cells ROW 56)).frozen? x := fun x => rfl
  have hF1 : ∀ x, (((w.alloc (.cells ROW 56)).drew.setCells w.heap.size (i * 7) vs).drew).cell? x = ((w.drew.alloc (.cells ROW 56)).setCells w.heap.size (i * 7) vs).cell? x := fun x => rfl
  have hF2 : ∀ x, (((w.alloc (.cells ROW 56)).drew.setCells w.heap.size (i * 7) vs).drew).frozen? x = ((w.drew.alloc (.cells ROW 56)).setCells w.heap.size (i * 7) vs).frozen? x := fun x => rfl
  have hw1 : IntKind.i64.wrap ((i : Int) + 1) = (i : Int) + 1 := by rw [IntKind.wrap_i64]; omega
  have hw2 : IntKind.i64.wrap ((n : Int) + 1) = (n : Int) + 1 := by rw [IntKind.wrap_i64]; omega
  have hw3 : IntKind.i64.wrap ((n : Int) + 1 - (i : Int)) = (n : Int) + 1 - (i : Int) := by rw [IntKind.wrap_i64]; omega
  have hb1 : (0 : Int) ≤ (i : Int) + 1 := by omega
  have hb2 : ¬ (G = i + 1) := by omega
  have hb3 : (i : Int) ≤ (n : Int) + 1 := by omega
  have hb4 : ¬ (G = i) := by omega
  have hb5 : ¬ (c = i) := by omega
  have hin : i ≤ n := by omega
  have hb6 : (i : Int) ≤ (n : Int) := by omega
  clear hkk hik hold hROW hG zl hby hby2
  go_enter Try.func51, Try.ntmps51
  go_wp2_with (first
    | (at_builtin; refine list_app _ rfl rfl rfl rfl (hrz _) ?_)
    | (at_builtin; refine list_cpy _ rfl rfl rfl rfl (hcpA _ hE1 hE2 _ _) ?_)
    | (at_builtin; refine list_cpy _ rfl rfl rfl rfl (hcpB _ (fun _ => rfl) (fun _ => rfl) _ _ _) ?_))
  go_region_law_o (refine draw_cpy (v := .slice (some ⟨w.heap.size, (i + 1) * 7, none⟩) (n - i) (G - (i + 1))) (u := .slice (some ⟨b, i * 7, none⟩) (n - i) (c - i)) rfl rfl (by simp [Act.eval, Act.put]) (by simp [Act.eval, Act.put]) (hcpB _ hF1 hF2 3 (G - (i + 1)) (c - i)) ?_)
  go_wp2
  go_ret
  exact ⟨ROW, G, hGn, hG63', hRs, hRt, rfl, rfl⟩
end Go.Proofs.Ytcbppkfnfbdkhaa
