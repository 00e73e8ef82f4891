/- plain, walked. -/
import Derived.Test.YtbnmcdnkeipdhaaFl
import Derived.RangeFuncBox
import Derived.RangeFuncLeaves
import Derived.Shelf.Abstract
import Derived.WalkKit
import Derived.OwnWalkIn
import Derived.TacticsInMore
import Derived.LoopNIn
import Derived.LoopIn
import Derived.Maps.AppendAt
set_option linter.all false
set_option maxRecDepth 100000
set_option maxHeartbeats 4000000
namespace Go.Proofs.Ytbnmcdnkeipdhaa
open Go.RowKit Go.Shelf
attribute [local go_sem] Oper.semAt_some
theorem Try.infoU : (Try.prog.info? 5).map (fun i => (i.zero, i.size, i.bytes)) = some (some (.int .u8 0), 1, 1) := by kernel_rfl
def pcB (l : List Int) (k : Nat) : List Int := (((pcN l.length k : Nat) : Int) - 1) % 256 :: (l.drop (128 * k)).take 128
def outB (l : List Int) (pre : List Nat) : List Int := pre.flatMap (pcB l)
theorem outB_snoc (l : List Int) (pre : List Nat) (k : Nat) : outB l (pre ++ [k]) = outB l pre ++ pcB l k := by simp [outB]
theorem pcB_len (l : List Int) (k : Nat) : (pcB l k).length = pcN l.length k + 1 := by simp [pcB, pcN]
theorem outB_le (l : List Int) (pre : List Nat) : (outB l pre).length ≤ pre.length * 129 := by
  induction pre with
  | nil => simp [outB]
  | cons a pre ih =>
    have : outB l (a :: pre) = pcB l a ++ outB l pre := by simp [outB]
    rw [this, List.length_append, pcB_len, List.length_cons]
    have : pcN l.length a ≤ 128 := Nat.min_le_left ..
    omega
theorem own_cells {W : World} {base : Nat} {e : TypeId} {size : Nat} {v : Value} {k : Nat} {xs : List Value} (h : W.ownsRow base e size v k xs) : ∀ (j : Nat) (o : Obj), v.ownBlock = some j → W.heap[j]? = some o → o.isCells = true := fun j o ej hj => by
  rcases h.2 with ⟨rfl, _⟩ | ⟨g, cap, cur, rfl, _, hgb, _⟩
  · simp [Value.ownBlock] at ej
  · obtain rfl : g = j := by simpa [Value.ownBlock] using ej
    rw [hgb] at hj; cases hj; rfl
theorem plain_some (F : Fence) (n : Nat) (hF1 : F.fn 79) (hF2 : F.fn 88) (hF3 : F.fn 94) (hro : F.round = none) (hn : 3 ≤ n) (b off cap : Nat) (l : List Int) (hlc : l.length ≤ cap) (hlen : l.length ≤ 10000000) (w : World) (hb : b < w.heap.size) (hc : ∀ (i : Nat) (hi : i < l.length), w.cell? ⟨b, off + i, none⟩ = some (.int .u8 l[i])) :
    CallsIn F n Try.prog 79 #[.slice (some ⟨b, off, none⟩) l.length cap] w fun e W' => ∃ v, e = .returned v ∧ W'.ownsRow w.heap.size 5 1 v (outB l (upto ((l.length + 127) / 128))).length ((outB l (upto ((l.length + 127) / 128))).map (Value.int .u8)) ∧ Below w.heap.size w W' := by
  have h1 : 1 ≤ n := by omega
  obtain ⟨i0, hi, hz0, hz1, hz2⟩ := info_parts Try.infoU
  refine callsIn_of_wp_marks Try.func79 rfl hF1 ?_ hro
  simp only [Try.ntmps79, List.size_toArray, List.length_cons, List.length_nil, Nat.reduceAdd, Nat.reduceSub, Array.replicate_succ, Array.replicate_zero, List.push_toArray, List.append_toArray, List.nil_append, List.cons_append]
  gi_wp2_with (gi_at_call 88; refine (chunk_in F (n - 1) hF2 hro _ _ _ _).mono ?_; rintro e w' ⟨rfl, rfl⟩)
  have bO := Boxed.new w 23 (.slice none 0 0)
  have bS := Boxed.new (w.alloc (.cells #[.slice none 0 0] 23)) 23 (.slice (some ⟨b, off, none⟩) l.length cap)
  have bN := Boxed.new ((w.alloc (.cells #[.slice none 0 0] 23)).alloc (.cells #[.slice (some ⟨b, off, none⟩) l.length cap] 23)) 3 (.int .i64 128)
  rw [World.size_alloc] at bS
  rw [World.size_alloc, World.size_alloc] at bN
  have hB0 : Below w.heap.size w (((w.alloc (.cells #[.slice none 0 0] 23)).alloc (.cells #[.slice (some ⟨b, off, none⟩) l.length cap] 23)).alloc (.cells #[.int .i64 128] 3)) := (((Below.refl _ w).alloc (Nat.le_refl _) _).alloc (by simp) _).alloc (by simp; omega) _
  refine wpIn_rangeFunc_ownG hro h1 (gf := 94) (lb := #[.pointer (some ⟨w.heap.size + 1, 0, none⟩), .pointer (some ⟨w.heap.size + 1 + 1, 0, none⟩)]) rfl hF3 (enters_of Try.func94 (by kernel_rfl) rfl)
    (chunk_stops F (n - 1) hF3 hro (by omega) (w.heap.size + 1) (w.heap.size + 1 + 1) w.heap.size b off l.length cap l.length hlc (by omega) (Nat.le_refl _) _ (bS.alloc _) bN) KpC.trans (kpC_b (by simp <;> omega) (by simp <;> omega) (by simp <;> omega)) (Below.refl _ _) (fun _ => rfl)
    (fun pre W => (∃ v, Boxed W w.heap.size 23 v ∧ W.ownsRow w.heap.size 5 1 v (outB l pre).length ((outB l pre).map (Value.int .u8)) ∧ True) ∧ Below w.heap.size w W)
    (fun _ _ _ => False)
    (OwnFrom.and (Own.from (holdsRow_own w.heap.size w.heap.size 23 5 1 (fun pre => (outB l pre).length) (fun pre => (outB l pre).map (Value.int .u8)) (fun pre v => True)) _) (ownFrom_below (Nat.le_refl _) (by simp; omega)))
    (fun _ _ _ _ _ hs _ _ => hs)
    ⟨⟨_, (bO.alloc _).alloc _, World.ownsRow_nil _ _ _ _, trivial⟩, hB0⟩
    (fun k => { tmps := #[.slice (some ⟨b, off, none⟩) l.length cap, undef, .slice none 0 0, .pointer (some ⟨w.heap.size, 0, none⟩), pcV b off l.length k, .slice (some ⟨b, off, none⟩) l.length cap, .func (.func 94) #[] #[.pointer (some ⟨w.heap.size + 1, 0, none⟩), .pointer (some ⟨w.heap.size + 1 + 1, 0, none⟩)], pcV b off l.length k, undef, undef, undef, undef, undef, undef, undef, undef, undef, undef], defers := [] }) ?assign ?body ?done ?stop
  case assign =>
    intro l' x W K hK
    gi_wp2
    exact hK
  case body =>
    rintro l' pre k W ⟨⟨v, hv, hrow, _⟩, hB⟩ hlt
    have hc0 := hc
    have hc := hv.cell
    have hle := outB_le l pre
    dsimp only [pcV]
    have hp : pcN l.length k ≤ 128 := Nat.min_le_left ..
    have hw64 : wrap64 (((pcN l.length k : Nat) : Int) - 1) = ((pcN l.length k : Nat) : Int) - 1 := by unfold wrap64; omega
    have hpart : ((l.drop (128 * k)).take 128).length = pcN l.length k := by simp [pcN]
    have hcw : ∀ (j : Nat) (u : Value), (((l.drop (128 * k)).take 128).map (Value.int .u8))[j]? = some u → W.cell? ⟨b, off + 128 * k + j, none⟩ = some u := fun j u hj => by
      rw [List.getElem?_map, List.getElem?_take] at hj
      by_cases h128 : j < 128
      · rw [if_pos h128, List.getElem?_drop] at hj
        cases hz : l[128 * k + j]? with
        | none => rw [hz] at hj; cases hj
        | some z =>
          rw [hz] at hj
          simp at hj
          subst hj
          obtain ⟨hlt2, rfl⟩ := List.getElem?_eq_some_iff.1 hz
          have := hc0 _ hlt2
          rw [← Nat.add_assoc] at this
          exact (hB.cell (p := ⟨b, off + 128 * k + j, none⟩) hb).trans this
      · rw [if_neg h128] at hj; cases hj
    have hBs := hB.size
    have kk1 : ∀ v1 w1, w1.ownsRow w.heap.size 5 1 v1 ((outB l pre).length + 1) ((outB l pre).map (Value.int .u8) ++ [.int .u8 ((((pcN l.length k : Nat) : Int) - 1) % 256)]) → (W.alloc (.cells #[.int .u8 ((((pcN l.length k : Nat) : Int) - 1) % 256)] 5)).grownBy w1 v.ownBlock → (∀ (j : Nat) (u : Value), (((l.drop (128 * k)).take 128).map (Value.int .u8))[j]? = some u → w1.cell? (Addr.add ⟨b, off + 128 * k, none⟩ j) = some u) ∧ Boxed w1 w.heap.size 23 v ∧ w.heap.size ≤ w1.heap.size := fun v1 w1 hown1 hgrow1 => by
      refine ⟨fun j u hj => ?_, (hv.alloc (.cells #[.int .u8 ((((pcN l.length k : Nat) : Int) - 1) % 256)] 5)).kept hgrow1 (hv.not_row (by decide) hrow), ?_⟩
      · rw [Addr.add_lit]
        refine World.grownBy.cell hgrow1 (((((Below.refl W.heap.size W).alloc (Nat.le_refl _) (.cells #[.int .u8 ((((pcN l.length k : Nat) : Int) - 1) % 256)] 5)).cell (p := ⟨b, off + 128 * k + j, none⟩) (by simp; omega))).trans (hcw j u hj)) (fun e => ?_)
        have := (hrow.lt _ e.symm).1
        simp at this; omega
      · have := hgrow1.size; simp at this; omega
    have kk2 : ∀ v1 w1 v2 w2, w1.ownsRow w.heap.size 5 1 v1 ((outB l pre).length + 1) ((outB l pre).map (Value.int .u8) ++ [.int .u8 ((((pcN l.length k : Nat) : Int) - 1) % 256)]) → (W.alloc (.cells #[.int .u8 ((((pcN l.length k : Nat) : Int) - 1) % 256)] 5)).grownBy w1 v.ownBlock → w2.ownsRow w.heap.size 5 1 v2 ((outB l pre).length + 1 + pcN l.length k) ((outB l pre).map (Value.int .u8) ++ [.int .u8 ((((pcN l.length k : Nat) : Int) - 1) % 256)] ++ ((l.drop (128 * k)).take 128).map (Value.int .u8)) → w1.grownBy w2 v1.ownBlock → (∃ g' cap', v2 = .slice (some ⟨g', 0, none⟩) ((outB l pre).length + 1 + pcN l.length k) cap') ∧ Boxed w2 w.heap.size 23 v ∧
        (KeepsFrom (((w.alloc (.cells #[.slice none 0 0] 23)).alloc (.cells #[.slice (some ⟨b, off, none⟩) l.length cap] 23)).alloc (.cells #[.int .i64 128] 3)).heap.size W (w2.setCell ⟨w.heap.size, 0, none⟩ v2) ∧ KpC w.heap.size (w.heap.size + 1) (w.heap.size + 1 + 1) (.slice (some ⟨b, off, none⟩) l.length cap) W (w2.setCell ⟨w.heap.size, 0, none⟩ v2) ∧ (∃ v, Boxed (w2.setCell ⟨w.heap.size, 0, none⟩ v2) w.heap.size 23 v ∧ (w2.setCell ⟨w.heap.size, 0, none⟩ v2).ownsRow w.heap.size 5 1 v (outB l (pre ++ [k])).length ((outB l (pre ++ [k])).map (Value.int .u8)) ∧ True) ∧ Below w.heap.size w (w2.setCell ⟨w.heap.size, 0, none⟩ v2)) := fun v1 w1 v2 w2 hown1 hgrow1 hown2 hgrow2 => by
      obtain ⟨_, hb1, hs1⟩ := kk1 v1 w1 hown1 hgrow1
      have hb2 := hb1.kept hgrow2 (hb1.not_row (by decide) hown1)
      have hbel : Below w.heap.size W (w2.setCell ⟨w.heap.size, 0, none⟩ v2) := ((((Below.refl w.heap.size W).alloc hBs (.cells #[.int .u8 ((((pcN l.length k : Nat) : Int) - 1) % 256)] 5)).grown hgrow1 (by simp; omega) fun j e => (hrow.lt j e).1).grown hgrow2 hs1 fun j e => (hown1.lt j e).1).setCell (p := ⟨w.heap.size, 0, none⟩) (Nat.le_refl _) _
      refine ⟨?_, hb2, ?_, ⟨hbel, fun q => ?_, fun q => ?_⟩, ⟨v2, hb2.set v2, ?_, trivial⟩, hB.trans hbel⟩
      · rcases hown2.2 with ⟨_, hz⟩ | ⟨g', cap', _, rfl, _⟩
        · omega
        · exact ⟨g', cap', rfl⟩
      · exact ((((KeepsOthers.alloc W (.cells #[.int .u8 ((((pcN l.length k : Nat) : Int) - 1) % 256)] 5)).trans (KeepsOthers.of_grownBy hgrow1 fun j o e ho => own_cells (hrow.alloc (.cells #[.int .u8 ((((pcN l.length k : Nat) : Int) - 1) % 256)] 5)) j o e ho)).trans (KeepsOthers.of_grownBy hgrow2 fun j o e ho => own_cells hown1 j o e ho)).trans (KeepsOthers.setCell _ _ _)).from _
      · have q1 := (q.alloc (.cells #[.int .u8 ((((pcN l.length k : Nat) : Int) - 1) % 256)] 5)).kept hgrow1 (q.not_row (by decide) hrow)
        exact (q1.kept hgrow2 (q1.not_row (by decide) hown1)).kept (grownBy_setCell' w2 w.heap.size v2) (by simp)
      · have q1 := (q.alloc (.cells #[.int .u8 ((((pcN l.length k : Nat) : Int) - 1) % 256)] 5)).kept hgrow1 (q.not_row (by decide) hrow)
        exact (q1.kept hgrow2 (q1.not_row (by decide) hown1)).kept (grownBy_setCell' w2 w.heap.size v2) (by simp; omega)
      · have hk := hown2.kept (grownBy_setCell' w2 w.heap.size v2) (.inr (hb2.not_row (by decide) hown2).symm)
        rw [outB_snoc, List.length_append, pcB_len, List.map_append, show (outB l pre).length + (pcN l.length k + 1) = (outB l pre).length + 1 + pcN l.length k by omega]
        simpa [pcB] using hk
    have hmx : (outB l pre).length + 1 + pcN l.length k ≤ 2000000000 := by omega
    gi_wp2_with (first
      | (gi_at_builtin; refine wpListIn_append_own _ rfl _ _ 23 rfl w.heap.size 5 i0 (.int .u8 0) 1 1 Try.underlying23 hi hz0 hz1 hz2 rfl (by decide) _ _ _ rfl hown1 ⟨b, off + 128 * k, none⟩ (pcN l.length k) (pcN l.length k) (((l.drop (128 * k)).take 128).map (Value.int .u8)) rfl (by rw [List.length_map, hpart]; omega) hcw1 (by intro u hu; obtain ⟨z, _, rfl⟩ := List.mem_map.1 hu; rfl) (by unfold maxLen; omega) (by omega) hsz1 ?_; intro v2 w2 hown2 hgrow2 _; obtain ⟨⟨g', cap', rfl⟩, hb2, hend⟩ := kk2 _ _ _ _ hown1 hgrow1 hown2 hgrow2; have hc2 := hb2.cell; have hf2 := hb2.frozen)
      | (gi_at_builtin; refine wpListIn_append_own _ rfl _ _ 23 rfl w.heap.size 5 i0 (.int .u8 0) 1 1 Try.underlying23 hi hz0 hz1 hz2 rfl (by decide) _ _ _ rfl (hrow.alloc _) ⟨W.heap.size, 0, none⟩ 1 1 [.int .u8 ((((pcN l.length k : Nat) : Int) - 1) % 256)] rfl rfl (cell_one_new _ _ _) (by simp [Value.oneCell']) (by unfold maxLen; omega) (by omega) (by simp; omega) ?_; intro v1 w1 hown1 hgrow1 _; obtain ⟨hcw1, hb1, hsz1⟩ := kk1 _ _ hown1 hgrow1))
    exact hend
  case done =>
    rintro D ys W hD rfl ⟨⟨v, hv, hrow, _⟩, hB⟩ hK
    have hc := hv.cell
    gi_wp2
    refine ⟨by simp, .inl ⟨_, _, rfl, run_takeDeferred hK, ?_⟩⟩
    exact ⟨_, results_tmp rfl _ _ _, v, rfl, ownsRow_putObj hrow _ hK rfl, hB.trans (belowK_b (w := w) (Nat.le_refl _) W D _ _ (by simp at hD; omega) hK rfl rfl)⟩
  case stop =>
    rintro D c pre W _ _ h _
    exact h.elim
end Go.Proofs.Ytbnmcdnkeipdhaa
