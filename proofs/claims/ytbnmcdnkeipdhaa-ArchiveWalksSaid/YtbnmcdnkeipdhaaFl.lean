/- slices.Chunk and plain. -/
import Derived.Test.YtbnmcdnkeipdhaaFk
import Derived.RangeFuncBox
import Derived.RangeFuncLeaves
import Derived.Shelf.Abstract
import Derived.WalkKit
import Derived.OwnWalkIn
import Derived.TacticsInMore
import Derived.LoopNIn
import Derived.LoopIn
import Derived.Maps.AppendAt
set_option linter.all false
set_option maxRecDepth 100000
set_option maxHeartbeats 4000000
namespace Go.Proofs.Ytbnmcdnkeipdhaa
open Go.RowKit Go.Shelf
attribute [local go_sem] Oper.semAt_some
theorem grown_drew (W : World) : W.grownBy W.drew none := ⟨rfl, rfl, rfl, Nat.le_refl _, fun _ _ _ => rfl⟩
theorem chunkn_in (F : Fence) (n : Nat) (hF : F.fn 94) (hro : F.round = none) (l Bs Bn c : Nat) (A : Option Addr) (J : List Nat → World → Prop) (W : World) (hBs : Boxed W Bs 23 (.slice A 0 c)) (h0 : J [] W) :
    CallsIn F n Try.prog 94 #[.func (.yield l) #[] #[], .pointer (some ⟨Bs, 0, none⟩), .pointer (some ⟨Bn, 0, none⟩)] W fun e W' => (∃ v, e = .returned v) ∧ J [] W' := by
  refine callsIn_of_wp Try.func94 rfl hF ?_ hro
  simp only [Try.ntmps94, List.size_toArray, List.length_cons, List.length_nil, Nat.reduceAdd, Nat.reduceSub, Array.replicate_succ, Array.replicate_zero, List.push_toArray, List.append_toArray, List.nil_append, List.cons_append]
  have cs := hBs.cell
  gi_wp2
  gi_loopw [4] (fun i wr => i = .int .i64 0 ∧ J [] wr ∧ Boxed wr Bs 23 (.slice A 0 c)) (fun _ _ => 0)
  case atStart => exact ⟨rfl, h0, hBs⟩
  case round =>
    obtain ⟨rfl, hJs, hb⟩ := hrel
    have cs := hb.cell
    gi_wp2
    go_end0
    exact ⟨⟨_, rfl⟩, hJs⟩
theorem chunk_in (F : Fence) (n : Nat) (hF : F.fn 88) (hro : F.round = none) (a : Option Addr) (len cap : Nat) (w : World) :
    CallsIn F n Try.prog 88 #[.slice a len cap, .int .i64 128] w fun e w' => e = .returned (.func (.func 94) #[] #[.pointer (some ⟨w.heap.size, 0, none⟩), .pointer (some ⟨w.heap.size + 1, 0, none⟩)]) ∧ w' = (w.alloc (.cells #[.slice a len cap] 23)).alloc (.cells #[.int .i64 128] 3) := by
  refine callsIn_of_wp Try.func88 rfl hF ?_ hro
  simp only [Try.ntmps88, List.size_toArray, List.length_cons, List.length_nil, Nat.reduceAdd, Nat.reduceSub, Array.replicate_succ, Array.replicate_zero, List.push_toArray, List.append_toArray, List.nil_append, List.cons_append]
  gi_wp2
  go_ret
  exact ⟨rfl, rfl⟩
theorem chunk_stops (F : Fence) (n : Nat) (hF : F.fn 94) (hro : F.round = none) (hn : 1 ≤ n) (Bs Bn n₀ b off len cap N : Nat) (hlc : len ≤ cap) (hlen : len ≤ 1000000000) (hN : len ≤ N) (w : World) (hBs : Boxed w Bs 23 (.slice (some ⟨b, off, none⟩) len cap)) (hBn : Boxed w Bn 3 (.int .i64 128)) :
    SeqStopsK F n Try.prog 94 #[.pointer (some ⟨Bs, 0, none⟩), .pointer (some ⟨Bn, 0, none⟩)] (fun k : Nat => #[pcV b off len k]) (KpC n₀ Bs Bn (.slice (some ⟨b, off, none⟩) len cap)) (fun ys => ys = upto ((len + 127) / 128)) (fun _ => True) N w := fun l J Jx W hW hJ _ hY h0 => by
  have hb1 : Boxed W Bs 23 (.slice (some ⟨b, off, none⟩) len cap) := (hW.block _ hBs.lt).trans hBs
  have hb2 : Boxed W Bn 3 (.int .i64 128) := (hW.block _ hBn.lt).trans hBn
  refine (chunk1_in F n hF hro hn l Bs Bn n₀ b off len cap N hlc hlen hN J Jx (fun pre W hj => hJ pre W W.drew none hj (grown_drew W) (fun r e => by cases e)) hY W hb1 hb2 h0).mono ?_
  rintro e W' ⟨he, h | ⟨pre, h⟩⟩
  · exact ⟨he, .inl h⟩
  · exact ⟨he, .inr ⟨pre, trivial, h⟩⟩
theorem chunkn_stops (F : Fence) (n : Nat) (hF : F.fn 94) (hro : F.round = none) (Bs Bn n₀ c : Nat) (A : Option Addr) (w : World) (hBs : Boxed w Bs 23 (.slice A 0 c)) :
    SeqStopsK F n Try.prog 94 #[.pointer (some ⟨Bs, 0, none⟩), .pointer (some ⟨Bn, 0, none⟩)] (fun k : Nat => #[pcV 0 0 0 k]) (KpC n₀ Bs Bn (.slice A 0 c)) (fun ys => ys = []) (fun _ => True) 0 w := fun l J Jx W hW hJ _ hY h0 => by
  have hb1 : Boxed W Bs 23 (.slice A 0 c) := (hW.block _ hBs.lt).trans hBs
  refine (chunkn_in F n hF hro l Bs Bn c A J W hb1 h0).mono ?_
  rintro e W' ⟨he, h⟩
  exact ⟨he, .inl ⟨_, rfl, h⟩⟩
theorem kpC_b {n₀ Bs Bn : Nat} {sv : Value} {w : World} (hn : n₀ ≤ w.heap.size) (h1 : Bs < w.heap.size) (h2 : Bn < w.heap.size) (W : World) (l : Nat) (o o' : Obj) (hl : w.heap.size ≤ l) (h : W.heap[l]? = some o) (hc : o.isCells = false) (hw : o.isWalk = false) : KpC n₀ Bs Bn sv W (W.putObj l o') :=
  ⟨belowK_b hn W l o o' hl h hc hw, fun q => q.kept (grownBy_putObj' W l o') (by simp; omega), fun q => q.kept (grownBy_putObj' W l o') (by simp; omega)⟩
end Go.Proofs.Ytbnmcdnkeipdhaa
