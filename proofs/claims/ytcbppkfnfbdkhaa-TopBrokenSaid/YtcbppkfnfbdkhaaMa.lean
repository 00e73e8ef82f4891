/- slices.Sort of this program. -/
import Derived.Test.YtcbppkfnfbdkhaaLb3
import Derived.Shelf.Sort.Plain
import Derived.Shelf.Slices.In.SortNone
import Derived.Sort.OwnSortedInts
set_option linter.all false
set_option maxRecDepth 100000
set_option maxHeartbeats 4000000
namespace Go.Proofs.Ytcbppkfnfbdkhaa
open Go.RowKit Go.Shelf
def rhoS : Ren := ⟨fun x => bif Nat.beq x 125 then 167 else bif Nat.beq x 128 then 200 else bif Nat.beq x 129 then 201 else bif Nat.beq x 189 then 128 else bif Nat.beq x 215 then 176 else bif Nat.beq x 216 then 197 else bif Nat.beq x 257 then 166 else bif Nat.beq x 294 then 191 else bif Nat.beq x 295 then 192 else bif Nat.beq x 296 then 193 else bif Nat.beq x 297 then 194 else bif Nat.beq x 298 then 195 else bif Nat.beq x 299 then 196 else bif Nat.beq x 300 then 198 else bif Nat.beq x 301 then 199 else bif Nat.beq x 328 then 209 else bif Nat.beq x 329 then 210 else bif Nat.beq x 330 then 211 else bif Nat.beq x 331 then 212 else bif Nat.beq x 332 then 213 else 214, fun x => bif Nat.beq x 0 then 0 else bif Nat.beq x 3 then 3 else bif Nat.beq x 4 then 4 else bif Nat.beq x 5 then 5 else bif Nat.beq x 9 then 9 else bif Nat.beq x 28 then 22 else bif Nat.beq x 46 then 239 else bif Nat.beq x 51 then 256 else bif Nat.beq x 53 then 40 else bif Nat.beq x 131 then 138 else bif Nat.beq x 182 then 262 else bif Nat.beq x 183 then 263 else bif Nat.beq x 218 then 279 else bif Nat.beq x 222 then 283 else bif Nat.beq x 228 then 285 else 59, fun x => x⟩
theorem laysS : Lays.n189 Try.prog rhoS where
  mixed := by kernel_rfl
  f125 := by kernel_rfl
  f128 := by kernel_rfl
  f129 := by kernel_rfl
  f189 := by kernel_rfl
  f215 := by kernel_rfl
  f216 := by kernel_rfl
  f257 := by kernel_rfl
  f294 := by kernel_rfl
  f295 := by kernel_rfl
  f296 := by kernel_rfl
  f297 := by kernel_rfl
  f298 := by kernel_rfl
  f299 := by kernel_rfl
  f300 := by kernel_rfl
  f301 := by kernel_rfl
  f328 := by kernel_rfl
  f329 := by kernel_rfl
  f330 := by kernel_rfl
  f331 := by kernel_rfl
  f332 := by kernel_rfl
  f343 := by kernel_rfl
  t0 := by kernel_rfl
  a0 := fun w => by rfl
  z0 := fun w => by rfl
  v0 := fun w => by rfl
  t3 := by kernel_rfl
  a3 := fun w => by rfl
  z3 := fun w => by rfl
  v3 := fun w => by rfl
  t4 := by kernel_rfl
  a4 := fun w => by rfl
  z4 := fun w => by rfl
  v4 := fun w => by rfl
  t5 := by kernel_rfl
  a5 := fun w => by rfl
  z5 := fun w => by rfl
  v5 := fun w => by rfl
  t9 := by kernel_rfl
  a9 := fun w => by rfl
  z9 := fun w => by rfl
  v9 := fun w => by rfl
  t28 := by kernel_rfl
  a28 := fun w => by rfl
  z28 := fun w => by rfl
  v28 := fun w => by rfl
  t46 := by kernel_rfl
  a46 := fun w => by rfl
  z46 := fun w => by rfl
  v46 := fun w => by rfl
  t51 := by kernel_rfl
  a51 := fun w => by rfl
  z51 := fun w => by rfl
  v51 := fun w => by rfl
  t53 := by kernel_rfl
  a53 := fun w => by rfl
  z53 := fun w => by rfl
  v53 := fun w => by rfl
  t131 := by kernel_rfl
  a131 := fun w => by rfl
  z131 := fun w => by rfl
  v131 := fun w => by rfl
  t182 := by kernel_rfl
  a182 := fun w => by rfl
  z182 := fun w => by rfl
  v182 := fun w => by rfl
  t183 := by kernel_rfl
  a183 := fun w => by rfl
  z183 := fun w => by rfl
  v183 := fun w => by rfl
  t218 := by kernel_rfl
  a218 := fun w => by rfl
  z218 := fun w => by rfl
  v218 := fun w => by rfl
  t222 := by kernel_rfl
  a222 := fun w => by rfl
  z222 := fun w => by rfl
  v222 := fun w => by rfl
  t228 := by kernel_rfl
  a228 := fun w => by rfl
  z228 := fun w => by rfl
  v228 := fun w => by rfl
  t229 := by kernel_rfl
  a229 := fun w => by rfl
  z229 := fun w => by rfl
  v229 := fun w => by rfl
def SrtC (P : Program) (f : FuncId) : Prop := Enters P f ∧ (∀ (blk cap : Nat) (zs : List Int) (w : World), Go.Sort.Holds (Value.int .i64) w blk 0 zs.toArray → blk < w.heap.size → zs.length < 4611686018427387904 →
    Calls P f #[.slice (some ⟨blk, 0, none⟩) zs.length cap] w fun e w' => e = .returned (.tuple #[]) ∧ ∃ n os, w' = Go.Sort.grow (Go.Sort.putRow (Value.int .i64) (Go.Sort.ahead w n) blk 0 (zs.mergeSort fun x y => decide (x ≤ y)).toArray) os) ∧
  ∀ (a : Option Addr) (cap : Nat) (w : World), Calls P f #[.slice a 0 cap] w fun e w' => e = .returned (.tuple #[]) ∧ w' = w
theorem srt_c : SrtC Try.prog 128 :=
  ⟨enters_of Try.func128 rfl rfl, fun blk cap zs w h1 h2 h3 => Any.slices_Sort_int laysS blk 0 cap zs w h1 h2 h3, fun a cap w => Any.slices_Sort_int_none laysS a cap w⟩
def srt (zs : List Int) : List Int := zs.mergeSort fun x y => decide (x ≤ y)
theorem sort_len (zs : List Int) : (srt zs).length = zs.length := List.length_mergeSort _
theorem srt_mem {zs : List Int} {x : Int} : x ∈ srt zs ↔ x ∈ zs := List.mem_mergeSort
theorem srt_ord (zs : List Int) : (srt zs).Pairwise (· ≤ ·) := by
  have := List.pairwise_mergeSort (le := fun x y : Int => decide (x ≤ y)) (fun a b c h1 h2 => by simp at *; omega) (fun a b => by simp; omega) zs
  exact this.imp fun h => by simpa using h
theorem GI.turn {T : TypeId} {w0 : Org} {g : Gh} {w w' : World} {vh vh' : VH} {b : Nat} (h : GI T w0 g [(0, vh)] w) (hl : vh.live = true) (hb : g.β 0 = some b) (hk : Keep (fun k => k = b ∨ w.heap.size ≤ k) w w') : GI T w0 g [(0, vh')] w' := by
  have lv : ∀ q, live [(0, vh')] q → live [(0, vh)] q := fun q hq => by
    unfold live at *
    by_cases e : q = 0
    · subst e; exact hl
    · have e2 : ∀ x : VH, getH [(0, x)] q = getH [] q := fun x => by
        simp only [getH, beq_eq]
        rw [decide_eq_false (fun h : (0 : Nat) = q => e h.symm)]; rfl
      rw [e2] at hq ⊢
      exact hq
  have hl0 : live [(0, vh)] 0 := by unfold live; exact hl
  obtain ⟨b1, b2, b3⟩ := h.bd 0 b hl0 hb
  have blk : ∀ k, k < w.heap.size → k ≠ b → w'.heap[k]? = w.heap[k]? := fun k hks e => hk.block k (by omega)
  have hsz := hk.size
  have hsz0 := h.keep.size
  have hf : Fut g.Rd g.Rd w w' := ⟨fun _ _ h => h, fun b' o hb' => hk.cell (p := ⟨b', o, none⟩) fun e => e.elim (fun e => (h.rd b' o hb').2.2 0 hl0 (by rw [hb]; exact congrArg some e.symm)) fun e => by have := (h.rd b' o hb').1; simp at e; omega⟩
  refine ⟨fun r r' b h1 h2 h3 h4 => h.inj r r' b (lv _ h1) (lv _ h2) h3 h4, fun q b' h1 h2 => ?_, fun b' o hr => ?_, ?_, fun tb htb => ?_, h.org, h.exs (fun _ _ h => h) fun c hc => ⟨blk c hc.2.1 fun e => hc.2.2.2.2 0 hl0 (by rw [hb, e]), hc.2.2.1, hc.2.2.2.1, fun q hq => hc.2.2.2.2 q (lv _ hq)⟩⟩
  · obtain ⟨c1, c2, c3⟩ := h.bd q b' (lv _ h1) h2
    exact ⟨c1, by omega, c3⟩
  · obtain ⟨a1, a2, a3⟩ := h.rd b' o hr
    exact ⟨by omega, a2, fun q hq => a3 q (lv _ hq)⟩
  · exact h.keep.trans (hk.mono fun k e => e.elim (fun e => .inr (by rw [e]; exact b1)) fun e => .inr (.inl (Nat.le_trans hsz0 e)))
  · obtain ⟨a1, a2⟩ := h.tape tb htb
    exact ⟨by omega, a2.keep hf (blk tb a1 fun e => b3 (by rw [← e]; exact htb))⟩
theorem sort_icm (xs : List Int) : ICm (xs.length ≤ 1000000000) 128 [] 3 1 (List.length xs) (List.map irow xs) (.tup []) (List.map irow (srt xs)) := fun hz => by
  refine ⟨srt_c.1, fun w0 g w u vals hw0 hgi hu hh hvs hrep => ?_⟩
  have hv0 : vals = #[] := Array.eq_empty_of_size_eq_zero (by simpa using hvs)
  subst hv0
  have htup : ∀ (g : Gh) (w : World), RepSV Try.prog g w (.tuple #[]) (.tup []) := fun g w => .tup #[] [] rfl (fun j v c hv => by simp at hv)
  rcases hu.sl_inv with ⟨e1, e2, hb⟩ | ⟨b, hb, h1, h2, e1⟩
  · have hz0 : xs = [] := List.eq_nil_of_length_eq_zero (by simpa using e2)
    subst hz0
    rw [e1]
    refine (srt_c.2.2 none 0 w).mono fun e' w' ⟨q1, q2⟩ => ?_
    subst q1; subst q2
    exact ⟨_, .tup [], .arr 3 1 (List.map irow (srt [])), g, ⟨rfl, rfl⟩, rfl, rfl, htup _ _, rfl, by simpa [srt] using hgi, e1 ▸ hu, by simpa [srt] using hh⟩
  · rw [e1]
    obtain ⟨g0, hh2⟩ := hh
    rcases hh2 with ⟨h3, _⟩ | ⟨b', vals, hb', hbl, h3, h4, h5, h6⟩
    · rw [hb] at h3; cases h3
    obtain rfl : b = b' := by rw [hb] at hb'; injection hb'
    simp only [List.length_map, Nat.mul_one] at h3 h4
    have hcell : ∀ i (h : i < xs.length), ∃ hw : (Lit.int .i64 xs[i]).wf = true, vals[i]? = some (.int .i64 xs[i]) := fun i hi => by
      have hi' : (xs.map irow)[i]? = some (irow xs[i]) := by simp [hi]
      obtain ⟨u, hu, hrp⟩ := h6 i 0 _ _ hi' rfl
      simp only [Nat.mul_one, Nat.add_zero] at hu
      cases hrp with
      | int k m hw => exact ⟨hw, hu⟩
    have hholds : Go.Sort.Holds (Value.int .i64) w b 0 xs.toArray := fun j hj => by
      simp only [List.size_toArray] at hj
      obtain ⟨_, hu⟩ := hcell j hj
      refine ⟨?_, by rw [Nat.zero_add]; exact hbl.frozen j⟩
      rw [Nat.zero_add, hbl.cell, hu]
      simp [hj]
    have hbs : b < w.heap.size := hbl.lt
    refine (srt_c.2.1 b (g.κ 0) xs w hholds hbs (by omega)).mono fun e' w' ⟨q1, n, os, q2⟩ => ?_
    subst q1
    have hbw : w'.heap[b]? = some (.cells (Go.Sort.putCells (Value.int .i64) 0 (srt xs).toArray vals) 3 (0, 0)) := by
      rw [q2]; exact heap_sortedI _ hbl
    have hg' := grownBy_sortedI (w := w) (g := b) (n := n) (os := os) (srt xs).toArray
    have hk : Keep (fun k => k = b ∨ w.heap.size ≤ k) w w' := by
      refine ⟨by rw [q2]; rfl, by rw [q2]; rfl, by rw [q2]; rfl, by rw [q2]; exact hg'.size, fun k hk => ?_⟩
      rw [q2]; exact hg'.block k (by omega) (fun e => hk (.inl (by injection e)))
    have hlen := sort_len xs
    refine ⟨_, .tup [], .arr 3 1 (List.map irow (srt xs)), g, ⟨rfl, rfl⟩, rfl, rfl, htup _ _, rfl, hgi.turn rfl hb hk, ?_, ?_⟩
    · exact RepCV.sl (g := g) _ 1 hb h1 h2
    · refine ⟨fun row hrow => by obtain ⟨z, _, rfl⟩ := List.mem_map.1 hrow; rfl, .inr ⟨b, _, hb, hbw, by simp [Go.Sort.putCells, h3], by rw [List.length_map]; omega, h5, fun i j row y hi hj => ?_⟩⟩
      rw [List.getElem?_map] at hi
      cases hci : (srt xs)[i]? with
      | none => rw [hci] at hi; cases hi
      | some z =>
        rw [hci] at hi
        simp at hi
        subst hi
        have hj0 : j = 0 := by
          have := (List.getElem?_eq_some_iff.1 hj).1
          simp [irow] at this; exact this
        subst hj0
        simp [irow] at hj
        subst hj
        have hil := (List.getElem?_eq_some_iff.1 hci).1
        have hzm : z ∈ xs := srt_mem.1 (List.mem_of_getElem? hci)
        obtain ⟨k, hk1, hk2⟩ := List.getElem_of_mem hzm
        obtain ⟨hw, _⟩ := hcell k hk1
        rw [hk2] at hw
        refine ⟨.int .i64 z, ?_, .int _ _ hw⟩
        have ht := take_putCellsI vals (srt xs) (by omega)
        have : ((Go.Sort.putCells (Value.int .i64) 0 (srt xs).toArray vals).toList.take (srt xs).length)[i]? = some (.int .i64 z) := by rw [ht, List.getElem?_map, hci]; rfl
        rw [List.getElem?_take, if_pos hil, Array.getElem?_toList] at this
        simpa using this
end Go.Proofs.Ytcbppkfnfbdkhaa
