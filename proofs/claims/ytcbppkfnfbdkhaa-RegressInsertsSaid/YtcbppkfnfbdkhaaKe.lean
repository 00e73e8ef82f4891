/- slices.Insert of rules: all roads. -/
import Derived.Test.YtcbppkfnfbdkhaaKd
set_option linter.all false
set_option maxRecDepth 100000
set_option maxHeartbeats 4000000
namespace Go.Proofs.Ytcbppkfnfbdkhaa
open Go.RowKit Go.Shelf Go.Lib
theorem setCells_blkR (b : Nat) : ∀ (vs : List Value) (o : Nat) (w : World) (t : TypeId) (vals : Array Value), Blk w b t vals → ∃ vals', Blk (w.setCells b o vs) b t vals' ∧ vals'.size = vals.size ∧ (∀ k, k < o → vals'[k]? = vals[k]?) ∧ (∀ k, k < vs.length → o + k < vals.size → vals'[o + k]? = vs[k]?) ∧ (∀ k, o + vs.length ≤ k → vals'[k]? = vals[k]?) ∧ Keep (fun k => k = b) w (w.setCells b o vs) ∧ (w.setCells b o vs).heap.size = w.heap.size
  | [], o, w, t, vals, h => ⟨vals, h, rfl, fun _ _ => rfl, fun k hk => by simp at hk, fun _ _ => rfl, .refl _ _, rfl⟩
  | v :: r, o, w, t, vals, h => by
    have hb : Blk (w.setCell ⟨b, o, none⟩ v) b t (vals.setIfInBounds o v) := by
      unfold Blk at h ⊢
      simp only [World.setCell]
      rw [Array.getElem?_modify, if_pos rfl, h]
      rfl
    obtain ⟨vals', h1, h2, h3, h4, h5, h6, h7⟩ := setCells_blkR b r (o + 1) _ t _ hb
    refine ⟨vals', h1, by simpa using h2, fun k hk => ?_, fun k hk hs => ?_, fun k hk => ?_, ⟨h6.os, h6.tape, h6.output, ?_, fun k hk => ?_⟩, ?_⟩
    · rw [h3 k (by omega), Array.getElem?_setIfInBounds_ne (by omega)]
    · cases k with
      | zero =>
        rw [Nat.add_zero, h3 o (by omega)]
        simp at hs
        simp [hs]
      | succ k =>
        have := h4 k (by simpa using hk) (by simp; omega)
        rw [show o + (k + 1) = o + 1 + k by omega, this]
        simp
    · simp only [List.length_cons] at hk
      rw [h5 k (by omega), Array.getElem?_setIfInBounds_ne (by omega)]
    · rw [World.setCells, h7]; simp [World.setCell]
    · rw [World.setCells, h6.block k hk]
      simp only [World.setCell]
      rw [Array.getElem?_modify, if_neg (fun e => hk e.symm)]
    · rw [World.setCells, h7]; simp [World.setCell]
theorem take_parts {V : Array Value} {A B C : List Value} (hA : ∀ k, k < A.length → V[k]? = A[k]?) (hB : ∀ k, k < B.length → V[A.length + k]? = B[k]?) (hC : ∀ k, k < C.length → V[A.length + B.length + k]? = C[k]?) : V.toList.take (A.length + B.length + C.length) = A ++ (B ++ C) := by
  apply List.ext_getElem?
  intro k
  rw [List.getElem?_take]
  split
  · rename_i h
    rw [Array.getElem?_toList]
    by_cases h1 : k < A.length
    · rw [hA k h1, List.getElem?_append_left h1]
    · rw [List.getElem?_append_right (by omega)]
      by_cases h2 : k < A.length + B.length
      · rw [List.getElem?_append_left (by omega), ← hB (k - A.length) (by omega), show A.length + (k - A.length) = k by omega]
      · rw [List.getElem?_append_right (by omega), ← hC (k - A.length - B.length) (by omega), show A.length + B.length + (k - A.length - B.length) = k by omega]
  · rename_i h
    rw [List.getElem?_eq_none (by simp; omega)]
theorem insR_c (base n i vb vc : Nat) (v : Value) (xs vs : List Value) (w : World) (hown : w.ownsRow base 56 7 v n xs) (hi : i ≤ n) (hn9 : n ≤ 1000000000) (hbase : base ≤ w.heap.size) (hvl : vs.length = 7)
    (h1c : ∀ u ∈ xs, u.oneCell' = true) (hvb : v.ownBlock ≠ some vb) (hvs : ∀ j u, vs[j]? = some u → w.cell? ⟨vb, j, none⟩ = some u) (h1v : ∀ u ∈ vs, u.oneCell' = true)
    (tA : TypeId) (kA : Nat) (hsa : w.shape? vb = some (tA, kA)) (hfv : ∀ j, w.frozen? ⟨vb, j, none⟩ = false) :
    Calls Try.prog 51 #[v, .int .i64 i, .slice (some ⟨vb, 0, none⟩) 1 vc] w fun e w' => ∃ v', e = .returned v' ∧ w'.ownsRow base 56 7 v' (n + 1) (xs.take (i * 7) ++ (vs ++ xs.drop (i * 7))) ∧
      w.grownBy w' v.ownBlock ∧ (v'.ownBlock = v.ownBlock ∨ v'.ownBlock = some w.heap.size) := by
  obtain ⟨i0, z0, hi0, hsz, hz0, hzs, hzb⟩ := infoR
  have hu28 : Try.prog.underlying 28 = some (.slice 56) := by kernel_rfl
  have hxl := hown.1
  by_cases he : i = n
  · subst he
    have hby : (i + 1) * i0.bytes ≤ 140737488355328 := Nat.le_trans (Nat.mul_le_mul (show i + 1 ≤ 1000000001 by omega) hzb) (by decide)
    obtain ⟨v', w', hrun, h2, h3, h5⟩ := run_append_any (P := Try.prog) w base 28 28 56 i0 z0 7 i0.bytes hu28 hi0 hz0 hsz rfl hzs (by omega) v i xs hown (fun _ => False) (some ⟨vb, 0, none⟩) 1 vc vs
      (fun j u hj => ⟨_, rfl, id, by rw [Addr.add_lit, Nat.zero_add]; exact hvs j u hj⟩) (by omega) h1v (by unfold maxLen; omega) hby hbase
    rw [List.take_of_length_le (by omega), List.drop_eq_nil_of_le (by omega), List.append_nil]
    rcases hown.2 with ⟨rfl, rfl⟩ | ⟨g, cap, cur, rfl, hbg, hbl, hnc, hcm, hcs, htk⟩
    · clear hown
      go_enter Try.func51, Try.ntmps51
      go_wp2_with (at_builtin; refine list_app _ rfl rfl rfl rfl hrun ?_)
      go_ret
      exact ⟨v', rfl, h2, h3, h5⟩
    · clear hown
      have hcm' : cap ≤ 9223372036854775807 := by unfold maxLen at hcm; omega
      have hb6 : (i : Int) ≤ (i : Int) := by omega
      go_enter Try.func51, Try.ntmps51
      go_wp2_with (at_builtin; refine list_app _ rfl rfl rfl rfl hrun ?_)
      all_goals
        go_ret
        exact ⟨v', rfl, h2, h3, h5⟩
  · rcases hown.2 with ⟨rfl, rfl⟩ | ⟨g, cap, cur, rfl, hbg, hbl, hnc, hcm, hcs, htk⟩
    · omega
    · have hblk : Blk w g 56 cur := hbl
      have hcell : ∀ j u, xs[j]? = some u → w.cell? ⟨g, j, none⟩ = some u := fun j u hj => by
        rw [hblk.cell]
        rw [← htk, List.getElem?_take] at hj
        split at hj
        · rwa [Array.getElem?_toList] at hj
        · cases hj
      have hvg : vb ≠ g := fun e => hvb (by rw [e]; rfl)
      have hgs : g < w.heap.size := by
        by_cases hh : g < w.heap.size
        · exact hh
        · rw [Array.getElem?_eq_none (by omega)] at hbl; cases hbl
      have htl : (xs.take (i * 7)).length = i * 7 := by rw [List.length_take]; omega
      have hdl : (xs.drop (i * 7)).length = (n - i) * 7 := by rw [List.length_drop]; omega
      by_cases hroom : n + 1 ≤ cap
      · refine (insR_room g n cap i vb vc xs vs w (by omega) hroom (by unfold maxLen at hcm; omega) hvg hxl hvl hcell (fun j hj => by rw [hblk.cell, Array.getElem?_eq_getElem (by omega)]; rfl) (fun j => hblk.frozen j) hvs h1c h1v tA 56 kA cur.size hsa (by unfold World.shape?; rw [show w.heap[g]? = _ from hblk]) (by omega) hfv).mono fun e w' ⟨q1, q2⟩ => ?_
        obtain ⟨va, a1, a2, a3, a4, a5, a6, a7⟩ := setCells_blkR g (xs.drop (i * 7)) ((i + 1) * 7) w.drew _ cur hblk
        obtain ⟨vz, b1, b2, b3, b4, b5, b6, b7⟩ := setCells_blkR g vs (i * 7) _ _ va a1
        rw [← q2] at b1 b6 b7
        have hk : Keep (fun k => k = g) w w' := by
          have h9 := a6.trans b6
          exact ⟨h9.os, h9.tape, h9.output, h9.size, h9.block⟩
        refine ⟨_, q1, ⟨by simp only [List.length_append, htl, hdl, hvl]; omega, .inr ⟨g, cap, vz, rfl, hbg, b1, hroom, hcm, by omega, ?_⟩⟩, ⟨hk.os, hk.tape, hk.output, by rw [b7, a7]; exact Nat.le_refl _, fun k hk1 hk2 => hk.block k fun e => hk2 (by rw [e]; rfl)⟩, .inl rfl⟩
        have key := take_parts (V := vz) (A := xs.take (i * 7)) (B := vs) (C := xs.drop (i * 7)) (fun k hk => by
            rw [htl] at hk
            rw [b3 k hk, a3 k (by omega), ← htk, List.take_take, List.getElem?_take, if_pos (by omega), Array.getElem?_toList])
          (fun k hk => by rw [htl]; exact b4 k hk (by omega))
          (fun k hk => by
            rw [htl, hvl, b5 _ (by omega), show i * 7 + 7 + k = (i + 1) * 7 + k by omega]
            exact a4 k hk (by rw [hdl] at hk; show (i + 1) * 7 + k < cur.size; omega))
        rw [htl, hvl, hdl, show i * 7 + 7 + (n - i) * 7 = (n + 1) * 7 by omega] at key
        exact key
      · refine (insR_grow g n cap i vb vc xs vs w (by omega) hnc (by omega) hn9 hxl hvl hcell hvs h1c h1v).mono fun e w' ⟨ROW, G, g1, g2, g3, g4, q1, q2⟩ => ?_
        have n0 : Blk (w.alloc (.cells ROW 56)).drew w.heap.size 56 ROW := heap_alloc_new w _
        obtain ⟨va, a1, a2, a3, a4, a5, a6, a7⟩ := setCells_blkR w.heap.size vs (i * 7) _ _ ROW n0
        obtain ⟨vz, b1, b2, b3, b4, b5, b6, b7⟩ := setCells_blkR w.heap.size (xs.drop (i * 7)) ((i + 1) * 7) (((w.alloc (.cells ROW 56)).drew.setCells w.heap.size (i * 7) vs).drew) _ va a1
        rw [← q2] at b1 b6 b7
        have hsz' : w'.heap.size = w.heap.size + 1 := by rw [b7]; show ((w.alloc (.cells ROW _)).drew.setCells _ _ _).heap.size = _; rw [a7]; simp
        refine ⟨_, q1, ⟨by simp only [List.length_append, htl, hdl, hvl]; omega, .inr ⟨w.heap.size, G, vz, rfl, hbase, b1, g1, g2, by rw [b2, a2, g3], ?_⟩⟩, ⟨?_, ?_, ?_, by omega, fun k hk _ => ?_⟩, .inr rfl⟩
        · have key := take_parts (V := vz) (A := xs.take (i * 7)) (B := vs) (C := xs.drop (i * 7)) (fun k hk => by
              rw [htl] at hk
              rw [b3 k (by omega), a3 k hk, ← g4, List.getElem?_take, if_pos hk, Array.getElem?_toList])
            (fun k hk => by rw [htl, b3 _ (by omega)]; exact a4 k hk (by omega))
            (fun k hk => by
              rw [htl, hvl, show i * 7 + 7 + k = (i + 1) * 7 + k by omega]
              exact b4 k hk (by rw [hdl] at hk; omega))
          rw [htl, hvl, hdl, show i * 7 + 7 + (n - i) * 7 = (n + 1) * 7 by omega] at key
          exact key
        · rw [b6.os]; show ((w.alloc (.cells ROW _)).drew.setCells _ _ _).os = _; rw [a6.os]; rfl
        · rw [b6.tape]; show ((w.alloc (.cells ROW _)).drew.setCells _ _ _).tape = _; rw [a6.tape]; rfl
        · rw [b6.output]; show ((w.alloc (.cells ROW _)).drew.setCells _ _ _).output = _; rw [a6.output]; rfl
        · rw [b6.block k (by omega)]; show ((w.alloc (.cells ROW _)).drew.setCells _ _ _).heap[k]? = _; rw [a6.block k (by omega)]; exact heap_alloc_old w _ hk
end Go.Proofs.Ytcbppkfnfbdkhaa
