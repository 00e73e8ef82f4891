/- The contract of Of, which ranges over a function. -/
import Derived.RangeFuncNested
import Derived.RangeFuncBound
import Derived.RangeFuncCalls
import Derived.RangeFuncLeaves
import Derived.RangeFuncFrom
import Derived.Shelf.Abstract
import Derived.Shelf.RegionOpen
import Derived.OwnWalkIn
import Derived.TacticsInMore
import Derived.LoopNIn
import Derived.LoopIn
import Derived.Sort.QuietIn
import Derived.Test.YtbfjfcengmkgmaaROf
namespace Go.Proofs.Ytbfjfcengmkgmaa
open Go.RowKit Go.Shelf
attribute [local go_sem] Oper.semAt_some

set_option maxHeartbeats 1000000 in
/-- slices.Chunk: the slice and the size are boxed; the function value captures the boxes. -/
theorem chunk_in (n : Nat) (a : Option Addr) (len cap : Nat) (w : World) :
    CallsIn Fence.wide n Try.prog 18 #[.slice a len cap, .int .i64 8] w fun e w' => e = .returned (.func (.func 19) #[] #[.pointer (some ⟨w.heap.size, 0, none⟩), .pointer (some ⟨w.heap.size + 1, 0, none⟩)]) ∧
      (w.alloc (.cells #[.slice a len cap] 24)).alloc (.cells #[.int .i64 8] 3) = w' := by
  refine callsIn_of_wp Try.func18 rfl trivial ?_ rfl
  simp only [Try.ntmps18, List.size_toArray, List.length_cons, List.length_nil, Nat.reduceAdd, Nat.reduceSub, Array.replicate_succ, Array.replicate_zero, List.push_toArray, List.append_toArray, List.nil_append, List.cons_append]
  gi_wp2
  go_ret
  exact ⟨rfl, rfl⟩

/-- The places of the parts of eight bytes. -/
abbrev Part (l : List UInt8) : Type := { j : Nat // 8 * j < l.length }

abbrev partV (ad : Addr) (l : List UInt8) (x : Part l) : Array Value := #[.slice (some (ad.add (8 * x.1))) (min 8 (l.length - 8 * x.1)) (min 8 (l.length - 8 * x.1))]

set_option maxRecDepth 100000 in
set_option maxHeartbeats 2000000 in
theorem chunk1_in (n : Nat) (hn : 1 ≤ n) (S : Nat → Prop) (lr B1 B2 : Nat) (ad : Addr) (cap : Nat) (l : List UInt8) (hlen : l.length ≤ 65536) (hcap : l.length ≤ cap) (hb1 : ¬ S B1) (hb2 : ¬ S B2) (J Jx : List (Part l) → World → Prop) (hJd : ∀ pre W k, J pre W → J pre (W.drewN k))
    (hY : ∀ pre x W, J pre W → pre.length < l.length → YieldAt Fence.wide (n - 1) Try.prog lr (partV ad l x) W fun e W' =>
      (e = .returned (.bool true) ∧ J (pre ++ [x]) W' ∧ Keep S W W') ∨ (e = .returned (.bool false) ∧ Jx (pre ++ [x]) W'))
    (W : World) (hB1 : W.cell? ⟨B1, 0, none⟩ = some (.slice (some ad) l.length cap)) (hB2 : W.cell? ⟨B2, 0, none⟩ = some (.int .i64 8)) (h0 : J [] W) :
    CallsIn Fence.wide n Try.prog 19 #[.func (.yield lr) #[] #[], .pointer (some ⟨B1, 0, none⟩), .pointer (some ⟨B2, 0, none⟩)] W fun e W' => (∃ v, e = .returned v) ∧
      ((∃ ys : List (Part l), ys.map (·.1) = List.range ((l.length + 7) / 8) ∧ J ys W') ∨ (∃ pre, True ∧ Jx pre W')) := by
  refine callsIn_of_wp Try.func19 rfl trivial ?_ rfl
  simp only [Try.ntmps19, List.size_toArray, List.length_cons, List.length_nil, Nat.reduceAdd, Nat.reduceSub, Array.replicate_succ, Array.replicate_zero, List.push_toArray, List.append_toArray, List.nil_append, List.cons_append]
  gi_wp2
  gi_loopw [4] (fun i wr => ∃ (k : Nat) (ys : List (Part l)), ys.map (·.1) = List.range k ∧ k ≤ (l.length + 7) / 8 ∧ i = .int .i64 ((8 * k : Nat) : Int) ∧ J ys wr ∧ Keep S W wr)
    (fun i _ => l.length + 8 - (intOf i).toNat)
  case atStart => exact ⟨0, [], rfl, Nat.zero_le _, rfl, h0, Keep.refl _ _⟩
  case round =>
    obtain ⟨k, ys, hys, hk, rfl, hJs, hnx⟩ := hrel
    have hc1 := (hnx.cell (p := ⟨B1, 0, none⟩) hb1).trans hB1
    have hc2 := (hnx.cell (p := ⟨B2, 0, none⟩) hb2).trans hB2
    by_cases hlt : 8 * k < l.length
    · have hyl : ys.length = k := by have := congrArg List.length hys; simpa using this
      by_cases h8 : 8 * k + 8 ≤ l.length
      · have hp : partV ad l ⟨k, hlt⟩ = #[.slice (some (ad.add (8 * k))) 8 8] := by
          unfold partV
          rw [show min 8 (l.length - 8 * k) = 8 by omega]
        gi_wp2
        gi_quiet (fail)
        gi_wp2
        obtain ⟨fn, tmps, assign, body, hy, hR⟩ := hY ys ⟨k, hlt⟩ (wr.drewN nq) (hJd _ _ _ hJs) (by omega)
        rw [hp] at hy
        rw [hy]
        refine ⟨fun _ => hn, hR.mono ?_⟩
        rintro e W3 (⟨rfl, hJ3, hk3⟩ | ⟨rfl, hJx3⟩)
        · have hc3 : W3.cell? ⟨B2, 0, none⟩ = some (.int .i64 8) := (hk3.cell (p := ⟨B2, 0, none⟩) hb2).trans hc2
          gi_wp2
          go_roundw
          case rel => exact ⟨k + 1, ys ++ [⟨k, hlt⟩], by rw [List.map_append, hys, List.range_succ]; rfl, by omega, by go_num, hJ3, hnx.trans (((Keep.refl S wr).drewN _).trans hk3)⟩
          case measure => simp [intOf]; omega
        · gi_wp2
          refine bodyPost_ret (results_none rfl _ _ _) rfl ?_
          exact ⟨⟨_, rfl⟩, .inr ⟨_, trivial, hJx3⟩⟩
      · have hp : partV ad l ⟨k, hlt⟩ = #[.slice (some (ad.add (8 * k))) (l.length - 8 * k) (l.length - 8 * k)] := by
          unfold partV
          rw [show min 8 (l.length - 8 * k) = l.length - 8 * k by omega]
        gi_wp2
        gi_quiet (fail)
        gi_wp2
        obtain ⟨fn, tmps, assign, body, hy, hR⟩ := hY ys ⟨k, hlt⟩ (wr.drewN nq) (hJd _ _ _ hJs) (by omega)
        rw [hp] at hy
        rw [hy]
        refine ⟨fun _ => hn, hR.mono ?_⟩
        rintro e W3 (⟨rfl, hJ3, hk3⟩ | ⟨rfl, hJx3⟩)
        · have hc3 : W3.cell? ⟨B2, 0, none⟩ = some (.int .i64 8) := (hk3.cell (p := ⟨B2, 0, none⟩) hb2).trans hc2
          gi_wp2
          go_roundw
          case rel => exact ⟨k + 1, ys ++ [⟨k, hlt⟩], by rw [List.map_append, hys, List.range_succ]; rfl, by omega, by go_num, hJ3, hnx.trans (((Keep.refl S wr).drewN _).trans hk3)⟩
          case measure => simp [intOf]; omega
        · gi_wp2
          refine bodyPost_ret (results_none rfl _ _ _) rfl ?_
          exact ⟨⟨_, rfl⟩, .inr ⟨_, trivial, hJx3⟩⟩
    · gi_wp2
      go_end0
      exact ⟨⟨_, rfl⟩, .inl ⟨ys, by rw [hys]; congr 1; omega, hJs⟩⟩

set_option maxRecDepth 100000 in
set_option maxHeartbeats 1000000 in
theorem chunk1_nil (n : Nat) (lr B1 B2 : Nat) (A : Option Addr) (cap : Nat) (W : World) (hB1 : W.cell? ⟨B1, 0, none⟩ = some (.slice A 0 cap)) (R : World → Prop) (h0 : R W) :
    CallsIn Fence.wide n Try.prog 19 #[.func (.yield lr) #[] #[], .pointer (some ⟨B1, 0, none⟩), .pointer (some ⟨B2, 0, none⟩)] W fun e W' => (∃ v, e = .returned v) ∧ R W' := by
  refine callsIn_of_wp Try.func19 rfl trivial ?_ rfl
  simp only [Try.ntmps19, List.size_toArray, List.length_cons, List.length_nil, Nat.reduceAdd, Nat.reduceSub, Array.replicate_succ, Array.replicate_zero, List.push_toArray, List.append_toArray, List.nil_append, List.cons_append]
  gi_wp2
  gi_loopw [4] (fun i wr => i = .int .i64 0 ∧ W = wr) (fun _ _ => 0)
  case atStart => exact ⟨rfl, rfl⟩
  case round =>
    obtain ⟨rfl, rfl⟩ := hrel
    gi_wp2
    go_end0
    exact ⟨⟨_, rfl⟩, h0⟩

theorem AbidesFrom.drewN {β : Type} {B : Nat} {J : β → World → Prop} (h : AbidesFrom B J) (s : β) (W : World) (k : Nat) (hs : J s W) : J s (W.drewN k) :=
  h s W _ none hs ⟨rfl, rfl, rfl, Nat.le_refl _, fun _ _ _ => rfl⟩ (fun r e => by cases e)

def adOf : Option Addr → Addr | some a => a | none => ⟨0, 0, none⟩

theorem chunk_stops (n : Nat) (hn : 1 ≤ n) (S : Nat → Prop) (B1 B2 : Nat) (A : Option Addr) (cap : Nat) (l : List UInt8) (hlen : l.length ≤ 65536) (hcap : l.length ≤ cap) (hA : 0 < l.length → ∃ ad, A = some ad) (hb1 : ¬ S B1) (hb2 : ¬ S B2) (w : World)
    (hB1 : w.cell? ⟨B1, 0, none⟩ = some (.slice A l.length cap)) (hB2 : w.cell? ⟨B2, 0, none⟩ = some (.int .i64 8)) :
    SeqStopsK Fence.wide n Try.prog 19 #[.pointer (some ⟨B1, 0, none⟩), .pointer (some ⟨B2, 0, none⟩)] (partV (adOf A) l) (Keep S) (fun ys => ys.map (·.1) = List.range ((l.length + 7) / 8)) (fun _ => True) l.length w := fun lr J Jx W hW hJ _ hY h0 => by
  have h1 := cell_later hW hB1
  have h2 := cell_later hW hB2
  by_cases hl : 0 < l.length
  · obtain ⟨ad, rfl⟩ := hA hl
    exact chunk1_in n hn S lr B1 B2 ad cap l hlen hcap hb1 hb2 J Jx (fun pre W k hs => AbidesFrom.drewN hJ pre W k hs) hY W h1 h2 h0
  · have e : l.length = 0 := by omega
    rw [e] at h1
    have e0 : (l.length + 7) / 8 = 0 := by omega
    refine (chunk1_nil n lr B1 B2 A cap W h1 (J []) h0).mono fun e' W' ⟨he, hj⟩ => ⟨he, .inl ⟨[], ?_, hj⟩⟩
    show ([] : List Nat) = List.range ((l.length + 7) / 8)
    rw [e0]; rfl

/-- What the parts pre, in their order, make of h. -/
def absL (h : BitVec 64) (l : List UInt8) (pre : List (Part l)) : BitVec 64 := pre.foldl (fun h x => Fp.step h (Fp.word ((l.drop (8 * x.1)).take 8))) h
theorem absL_snoc (h : BitVec 64) (l : List UInt8) (pre : List (Part l)) (x : Part l) : absL h l (pre ++ [x]) = Fp.step (absL h l pre) (Fp.word ((l.drop (8 * x.1)).take 8)) := by
  simp [absL]
theorem absL_map (h : BitVec 64) (l : List UInt8) (pre : List (Part l)) : absL h l pre = (pre.map (·.1)).foldl (fun h j => Fp.step h (Fp.word ((l.drop (8 * j)).take 8))) h := by
  rw [absL, List.foldl_map]
theorem absN_fold (h : BitVec 64) (l : List UInt8) (k : Nat) : (List.range k).foldl (fun h j => Fp.step h (Fp.word ((l.drop (8 * j)).take 8))) h = Fp.absN h l k := by
  induction k with
  | zero => rfl
  | succ k ih => rw [List.range_succ, List.foldl_append, ih]; rfl

set_option maxRecDepth 100000 in
set_option maxHeartbeats 2000000 in
theorem of_in (n : Nat) (hn : 4 ≤ n) (S : Nat → Prop) (key : BitVec 64) (kind : Int) (A : Option Addr) (l : List UInt8) (c : Nat) (w : World) (hb : Bts S w A l) (hl : l.length ≤ 65536) (hcap : l.length ≤ c) :
    CallsIn Fence.wide n Try.prog 10 #[.int .u64 (ux key), .int .i64 kind, .slice A l.length c] w fun e w' => e = .returned (.int .u64 (ux (ofV key kind l))) ∧ Below w.heap.size w w' := by
  have h1 : 1 ≤ n := by omega
  have e1 := wrap_u64_xor (Fp.mixB key) kind
  have e2 := nat_u64_xor (Fp.mixB (xk (Fp.mixB key) kind)) l.length (by omega)
  refine callsIn_of_wp_marks Try.func10 rfl trivial ?_ rfl
  simp only [Try.ntmps10, List.size_toArray, List.length_cons, List.length_nil, Nat.reduceAdd, Nat.reduceSub, Array.replicate_succ, Array.replicate_zero, List.push_toArray, List.append_toArray, List.nil_append, List.cons_append]
  gi_wp2_with (first
    | (refine ⟨trivial, ?_⟩; gi_at_call 12; refine (callsIn_wide.2 (mix_any _ _)).mono ?_; rintro e w' ⟨rfl, rfl⟩)
    | (refine ⟨trivial, ?_⟩; gi_at_call 18; refine (chunk_in _ _ _ _ _).mono ?_; rintro e w' ⟨rfl, rfl⟩))
  clear e1 e2
  obtain ⟨st, hst⟩ : ∃ st, Fp.mixB (xn (Fp.mixB (xk (Fp.mixB key) kind)) l.length) = st := ⟨_, rfl⟩
  obtain ⟨W0, hW0⟩ : ∃ W0, (((w.alloc (Obj.cells #[Value.int IntKind.u64 (ux (Fp.mixB (xn (Fp.mixB (xk (Fp.mixB key) kind)) l.length)))] 23)).alloc (Obj.cells #[Value.slice A l.length c] 24)).alloc (Obj.cells #[Value.int IntKind.i64 8] 3)) = W0 := ⟨_, rfl⟩
  have hsz : W0.heap.size = w.heap.size + 3 := by rw [← hW0]; simp
  have hbW : Below w.heap.size w W0 := by rw [← hW0]; exact (((Below.refl _ w).alloc (Nat.le_refl _) _).alloc (by simp) _).alloc (by simp; omega) _
  have bx : Blk W0 w.heap.size 23 #[.int .u64 (ux st)] := by rw [← hW0, hst]; exact (((Blk.new w 23 _).alloc _).alloc _)
  have b1 : W0.cell? ⟨w.heap.size + 1, 0, none⟩ = some (.slice A l.length c) := by
    rw [← hW0, hst]
    have := ((Blk.new (w.alloc (Obj.cells #[Value.int IntKind.u64 (ux st)] 23)) 24 #[Value.slice A l.length c]).alloc (Obj.cells #[Value.int IntKind.i64 8] 3)).cell 0
    simpa using this
  have b2 : W0.cell? ⟨w.heap.size + 1 + 1, 0, none⟩ = some (.int .i64 8) := by
    rw [← hW0, hst]
    have := (Blk.new ((w.alloc (Obj.cells #[Value.int IntKind.u64 (ux st)] 23)).alloc (Obj.cells #[Value.slice A l.length c] 24)) 3 #[Value.int IntKind.i64 8]).cell 0
    simpa using this
  rw [hW0]
  clear hW0
  refine wpIn_rangeFunc_ownF (w := W0) rfl h1 (gf := 19) (lb := #[.pointer (some ⟨w.heap.size + 1, 0, none⟩), .pointer (some ⟨w.heap.size + 1 + 1, 0, none⟩)]) rfl trivial (enters_of Try.func19 (by kernel_rfl) rfl)
    (chunk_stops (n - 1) (by omega) (fun k => k = w.heap.size ∨ w.heap.size + 3 ≤ k) (w.heap.size + 1) (w.heap.size + 1 + 1) A c l hl hcap (fun h => by obtain ⟨ad, e, _⟩ := hb.at_ 0 h; exact ⟨ad, e⟩) (by omega) (by omega) W0 b1 b2)
    (fun h k => h.trans k) (fun W r o o' hle h1 h2 h3 => ?kb) (Below.refl _ _) (fun _ => rfl)
    (fun pre W => (W.cell? ⟨w.heap.size, 0, none⟩ = some (.int .u64 (ux (absL st l pre))) ∧ W.frozen? ⟨w.heap.size, 0, none⟩ = false) ∧ Below w.heap.size w W)
    (fun _ _ _ => False)
    (OwnFrom.and (Own.from (fun s A B row hs hg hr => ⟨cell_kept hs.1 hg hr, (frozen_kept hs.1 hg hr).trans hs.2⟩) _) (ownFrom_below (Nat.le_refl _) (by omega)))
    (fun _ _ _ _ _ hs _ _ => hs)
    ⟨⟨by show W0.cell? _ = some (.int .u64 (ux st)); have := bx.cell 0; simpa using this, bx.frozen 0⟩, hbW⟩
    (fun x => { tmps := #[Value.int IntKind.u64 (ux key), Value.int IntKind.i64 kind, Value.slice A l.length c, undef, undef, undef, Value.int IntKind.u64 0, Value.pointer (some { block := w.heap.size, off := 0 }), (.slice (some ((adOf A).add (8 * x.1))) (min 8 (l.length - 8 * x.1)) (min 8 (l.length - 8 * x.1))), undef, undef, undef, Value.slice A l.length c, Value.int IntKind.i64 ↑l.length, Value.bool (decide (65536 < (l.length : Int))), Value.int IntKind.u64 (ux key), Value.int IntKind.u64 (ux (Fp.mixB key)), Value.int IntKind.u64 (ux (Fp.mixB key)), Value.int IntKind.i64 kind, Value.int IntKind.u64 (IntKind.u64.wrap kind), Value.int IntKind.u64 (ux (xk (Fp.mixB key) kind)), Value.int IntKind.u64 (ux (Fp.mixB (xk (Fp.mixB key) kind))), Value.int IntKind.u64 (ux (Fp.mixB (xk (Fp.mixB key) kind))), Value.slice A l.length c, Value.int IntKind.i64 ↑l.length, Value.int IntKind.u64 ↑l.length, Value.int IntKind.u64 (ux (xn (Fp.mixB (xk (Fp.mixB key) kind)) l.length)), Value.int IntKind.u64 (ux st), Value.slice A l.length c, Value.func (Fn.func 19) #[] #[Value.pointer (some { block := w.heap.size + 1, off := 0 }), Value.pointer (some { block := w.heap.size + 1 + 1, off := 0 })], (.slice (some ((adOf A).add (8 * x.1))) (min 8 (l.length - 8 * x.1)) (min 8 (l.length - 8 * x.1))), undef, undef, undef, undef, undef, undef, undef, undef, undef, undef, undef, undef, undef, undef, undef, undef, undef, undef, undef, undef, undef], defers := [] }) ?assign ?body ?done ?stop
  case kb => exact ⟨rfl, rfl, rfl, by simp [World.putObj], fun k hk => World.putObj_heap_other (by omega)⟩
  case assign =>
    intro l x W K hK
    gi_wp2
    exact hK
  case body =>
    rintro lr pre x W ⟨⟨hc, hf⟩, hB⟩ _
    have hx := x.2
    have h1' : 1 ≤ n - 1 - 1 := by omega
    gi_wp2
    gi_loop [9, 33] (fun wv iv => ∃ k : Nat, k ≤ 8 ∧ 8 * x.1 + k ≤ l.length ∧ iv = .int .i64 (k : Int) ∧ wv = .int .u64 (ux (Fp.wordN ((l.drop (8 * x.1)).take 8) k))) (fun _ i => 8 - (intOf i).toNat)
    case atStart => exact ⟨0, by omega, by omega, rfl, rfl⟩
    case round =>
      obtain ⟨k, hk8, hkl, rfl, rfl⟩ := hrel
      by_cases h8 : k < 8 ∧ 8 * x.1 + k < l.length
      · obtain ⟨ad, hA, hs, hcell⟩ := hb.at_ (8 * x.1 + k) h8.2
        have hcW : W.cell? (((adOf A).add (8 * x.1)).add k) = some (.int .u8 (byt l (8 * x.1 + k))) := by
          rw [add_of_add, hA]
          exact cell_later hB hcell
        clear hcell hA
        have hbd := byt_bd l (8 * x.1 + k)
        gi_wp2
        go_round
        case rel => exact ⟨k + 1, by omega, by omega, by go_num, by rw [word_next l x.1 k h8.1]⟩
        case measure => simp [intOf]; omega
      · have e3 := ux_xor (absL st l pre) (Fp.wordN ((l.drop (8 * x.1)).take 8) k)
        gi_wp2_with (refine ⟨trivial, ?_⟩; gi_at_call 12; refine (CallsIn.inRound lr (callsIn_wide.2 (mix_any _ _))).mono ?_; rintro e w' ⟨rfl, rfl⟩)
        refine ⟨KeepsOthers.setCell _ _ _, (Keep.refl _ W).setCell (p := ⟨w.heap.size, 0, none⟩) (.inl rfl) _, ⟨?_, by rw [World.frozen?_setCell]; exact hf⟩, hB.setCell (p := ⟨w.heap.size, 0, none⟩) (Nat.le_refl _) _⟩
        rw [step_ux, word_done l x.1 k hk8 hkl (by omega), ← absL_snoc]
        exact World.cell?_setCell_same' _ _ _ (by rw [hc]; rfl)
  case done =>
    rintro D ys W hD hS ⟨⟨hc, _⟩, hB⟩ hK
    gi_wp2
    refine ⟨by simp, .inl ⟨_, _, rfl, run_takeDeferred hK, ?_⟩⟩
    refine ⟨_, results_tmp rfl _ _ _, ?_, hB.trans (belowK_b (w := w) (Nat.le_refl _) W D _ _ (by omega) hK rfl rfl)⟩
    have e : absL st l ys = ofV key kind l := by
      rw [absL_map, hS, absN_fold, ← hst]
      unfold ofV
      rw [if_neg (by omega)]
      rfl
    rw [← e]; rfl
  case stop =>
    rintro D c pre W _ _ h _
    exact h.elim

theorem of_any (S : Nat → Prop) (key : BitVec 64) (kind : Int) (A : Option Addr) (l : List UInt8) (c : Nat) (w : World) (hb : Bts S w A l) (hl : l.length ≤ 65536) (hcap : l.length ≤ c) :
    Calls Try.prog 10 #[.int .u64 (ux key), .int .i64 kind, .slice A l.length c] w fun e w' => e = .returned (.int .u64 (ux (ofV key kind l))) ∧ Below w.heap.size w w' :=
  callsIn_wide.1 (of_in 4 (Nat.le_refl _) S key kind A l c w hb hl hcap)
#print axioms of_any
end Go.Proofs.Ytbfjfcengmkgmaa
