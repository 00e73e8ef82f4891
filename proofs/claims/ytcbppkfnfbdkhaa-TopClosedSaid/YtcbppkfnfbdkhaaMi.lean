/- slices.Backward: the iterator. -/
import Derived.Test.YtcbppkfnfbdkhaaMb
import Derived.RangeFuncBox
import Derived.RangeFuncLeaves
import Derived.RangeFuncNested
import Derived.Shelf.Abstract
import Derived.WalkKit
import Derived.OwnWalkIn
import Derived.TacticsInMore
import Derived.LoopNIn
import Derived.LoopIn
import Derived.Maps.AppendAt
set_option linter.all false
set_option maxRecDepth 100000
set_option maxHeartbeats 4000000
namespace Go.Proofs.Ytcbppkfnfbdkhaa
open Go.RowKit Go.Shelf
attribute [local go_sem] Oper.semAt_some
def accV (x : Acc) : Value := .agg #[.int .i64 x.time, .int .i64 x.kind, .int .i64 x.place, .int .i64 x.prin, .int .i64 x.til, .int .i64 x.cont, .int .i64 x.frm]
def AccAt (W : World) (b off : Nat) (evs : List Acc) : Prop := ∀ (i : Nat) (x : Acc), evs[i]? = some x →
  W.cell? ⟨b, off + i * 7, none⟩ = some (.int .i64 x.time) ∧ W.cell? ⟨b, off + i * 7 + 1, none⟩ = some (.int .i64 x.kind) ∧ W.cell? ⟨b, off + i * 7 + 2, none⟩ = some (.int .i64 x.place) ∧ W.cell? ⟨b, off + i * 7 + 3, none⟩ = some (.int .i64 x.prin) ∧
  W.cell? ⟨b, off + i * 7 + 4, none⟩ = some (.int .i64 x.til) ∧ W.cell? ⟨b, off + i * 7 + 5, none⟩ = some (.int .i64 x.cont) ∧ W.cell? ⟨b, off + i * 7 + 6, none⟩ = some (.int .i64 x.frm)
theorem AccAt.below {n₀ : Nat} {A B : World} {b off : Nat} {evs : List Acc} (h : AccAt A b off evs) (hB : Below n₀ A B) (hb : b < n₀) : AccAt B b off evs := fun i x hx => by
  have key : ∀ o, B.cell? ⟨b, o, none⟩ = A.cell? ⟨b, o, none⟩ := fun o => hB.cell (p := ⟨b, o, none⟩) hb
  simp only [key]
  exact h i x hx
def dn (n k : Nat) : List Nat := (List.range k).map fun j => n - 1 - j
theorem dn_succ (n k : Nat) : dn n (k + 1) = dn n k ++ [n - 1 - k] := by unfold dn; rw [List.range_succ, List.map_append]; rfl
theorem dn_len (n k : Nat) : (dn n k).length = k := by simp [dn]
def bkE (evs : List Acc) (i : Nat) : Array Value := #[.int .i64 (i : Int), accV (gt evs (i : Int))]
structure KpB (n₀ Bs : Nat) (sv : Value) (A B : World) : Prop where
  b : Below n₀ A B
  s : Boxed A Bs 74 sv → Boxed B Bs 74 sv
theorem KpB.trans {n₀ Bs : Nat} {sv : Value} {A B C : World} (h : KpB n₀ Bs sv A B) (k : KpB n₀ Bs sv B C) : KpB n₀ Bs sv A C := ⟨h.b.trans k.b, fun q => k.s (h.s q)⟩
theorem KpB.refl (n₀ Bs : Nat) (sv : Value) (A : World) : KpB n₀ Bs sv A A := ⟨Below.refl _ _, fun q => q⟩
theorem back1_in (F : Fence) (n : Nat) (hF : F.fn 183) (hro : F.round = none) (hn : 1 ≤ n) (l Bs n₀ b off cap N : Nat) (evs : List Acc) (hb : b < n₀) (hlc : evs.length ≤ cap) (hlen : evs.length ≤ 1000000000) (hN : evs.length ≤ N) (J Jx : List Nat → World → Prop)
    (hY : ∀ pre x W, J pre W → pre.length < N → YieldAt F (n - 1) Try.prog l (bkE evs x) W fun e W' =>
      (e = .returned (.bool true) ∧ J (pre ++ [x]) W' ∧ KpB n₀ Bs (.slice (some ⟨b, off, none⟩) evs.length cap) W W') ∨ (e = .returned (.bool false) ∧ Jx (pre ++ [x]) W'))
    (W : World) (hBs : Boxed W Bs 74 (.slice (some ⟨b, off, none⟩) evs.length cap)) (hcs : AccAt W b off evs) (h0 : J [] W) :
    CallsIn F n Try.prog 183 #[.func (.yield l) #[] #[], .pointer (some ⟨Bs, 0, none⟩)] W fun e W' => (∃ v, e = .returned v) ∧
      ((∃ ys, ys = dn evs.length evs.length ∧ J ys W') ∨ (∃ pre, (∃ k, k < evs.length ∧ pre = dn evs.length (k + 1)) ∧ Jx pre W')) := by
  refine callsIn_of_wp Try.func183 rfl hF ?_ hro
  simp only [Try.ntmps183, List.size_toArray, List.length_cons, List.length_nil, Nat.reduceAdd, Nat.reduceSub, Array.replicate_succ, Array.replicate_zero, List.push_toArray, List.append_toArray, List.nil_append, List.cons_append]
  have cs := hBs.cell
  gi_wp2
  gi_loopw [3] (fun i wr => ∃ k : Nat, k ≤ evs.length ∧ i = .int .i64 ((evs.length : Int) - 1 - k) ∧ J (dn evs.length k) wr ∧ KpB n₀ Bs (.slice (some ⟨b, off, none⟩) evs.length cap) W wr) (fun i _ => (intOf i + 1).toNat)
  case atStart => exact ⟨0, by omega, by simp, h0, KpB.refl _ _ _ _⟩
  case round =>
    obtain ⟨k, hk, rfl, hJs, hnx⟩ := hrel
    have hs := hnx.s hBs
    have cs := hs.cell
    by_cases hlt : k < evs.length
    · obtain ⟨m, hm⟩ : ∃ m : Nat, (evs.length : Int) - 1 - k = m := ⟨evs.length - 1 - k, by omega⟩
      have hml : m < evs.length := by omega
      have hmk : evs.length - 1 - k = m := by omega
      obtain ⟨c0, c1, c2, c3, c4, c5, c6⟩ := (hcs.below hnx.b hb) m evs[m] (List.getElem?_eq_getElem hml)
      have hx : gt evs (m : Int) = evs[m] := gt_nat hml
      obtain ⟨fn, tmps, assign, body, hy, hR⟩ := hY _ m _ hJs (by rw [dn_len]; omega)
      dsimp only [bkE, accV] at hy
      rw [hx] at hy
      rw [hm]
      generalize evs[m] = x at *
      gi_wp2
      refine hR.mono ?_
      rintro e W3 (⟨rfl, hJ3, hk3⟩ | ⟨rfl, hJx3⟩)
      · gi_wp2
        go_roundw
        case rel => exact ⟨k + 1, by omega, by simp; omega, by rw [dn_succ, hmk]; exact hJ3, hnx.trans hk3⟩
        case measure => first | (simp [intOf]; done) | (simp [intOf]; omega)
      · gi_wp2
        refine bodyPost_ret (results_none rfl _ _ _) rfl ?_
        exact ⟨⟨_, rfl⟩, .inr ⟨_, ⟨k, hlt, by rw [dn_succ, hmk]⟩, hJx3⟩⟩
    · have hke : k = evs.length := by omega
      subst hke
      rw [show ((evs.length : Nat) : Int) - 1 - ((evs.length : Nat) : Int) = -1 by omega]
      gi_wp2
      go_end0
      exact ⟨⟨_, rfl⟩, .inl ⟨_, rfl, hJs⟩⟩
theorem backward_in (F : Fence) (n : Nat) (hF : F.fn 158) (hro : F.round = none) (a : Option Addr) (len cap : Nat) (w : World) :
    CallsIn F n Try.prog 158 #[.slice a len cap] w fun e w' => e = .returned (.func (.func 183) #[] #[.pointer (some ⟨w.heap.size, 0, none⟩)]) ∧ w' = w.alloc (.cells #[.slice a len cap] 74) := by
  refine callsIn_of_wp Try.func158 rfl hF ?_ hro
  simp only [Try.ntmps158, List.size_toArray, List.length_cons, List.length_nil, Nat.reduceAdd, Nat.reduceSub, Array.replicate_succ, Array.replicate_zero, List.push_toArray, List.append_toArray, List.nil_append, List.cons_append]
  gi_wp2
  go_ret
  exact ⟨rfl, rfl⟩
theorem back0_in (F : Fence) (n : Nat) (hF : F.fn 183) (hro : F.round = none) (l Bs c : Nat) (A : Option Addr) (J : List Nat → World → Prop) (W : World) (hBs : Boxed W Bs 74 (.slice A 0 c)) (h0 : J [] W) :
    CallsIn F n Try.prog 183 #[.func (.yield l) #[] #[], .pointer (some ⟨Bs, 0, none⟩)] W fun e W' => (∃ v, e = .returned v) ∧ J [] W' := by
  refine callsIn_of_wp Try.func183 rfl hF ?_ hro
  simp only [Try.ntmps183, List.size_toArray, List.length_cons, List.length_nil, Nat.reduceAdd, Nat.reduceSub, Array.replicate_succ, Array.replicate_zero, List.push_toArray, List.append_toArray, List.nil_append, List.cons_append]
  have cs := hBs.cell
  gi_wp2
  gi_loopw [3] (fun i wr => i = .int .i64 (-1) ∧ J [] wr) (fun _ _ => 0)
  case atStart => exact ⟨rfl, h0⟩
  case round =>
    obtain ⟨rfl, hJs⟩ := hrel
    gi_wp2
    go_end0
    exact ⟨⟨_, rfl⟩, hJs⟩
theorem back_stops (F : Fence) (n : Nat) (hF : F.fn 183) (hro : F.round = none) (hn : 1 ≤ n) (Bs n₀ b off cap : Nat) (evs : List Acc) (hb : b < n₀) (hlc : evs.length ≤ cap) (hlen : evs.length ≤ 1000000000) (w : World) (hn0 : n₀ ≤ w.heap.size) (hBs : Boxed w Bs 74 (.slice (some ⟨b, off, none⟩) evs.length cap)) (hcs : AccAt w b off evs) :
    SeqStopsK F n Try.prog 183 #[.pointer (some ⟨Bs, 0, none⟩)] (bkE evs) (KpB n₀ Bs (.slice (some ⟨b, off, none⟩) evs.length cap)) (fun ys => ys = dn evs.length evs.length) (fun pre => ∃ k, k < evs.length ∧ pre = dn evs.length (k + 1)) evs.length w := fun l J Jx W hW hJ _ hY h0 => by
  have hb1 : Boxed W Bs 74 (.slice (some ⟨b, off, none⟩) evs.length cap) := (hW.block _ hBs.lt).trans hBs
  have hc1 : AccAt W b off evs := hcs.below hW (by omega)
  refine (back1_in F n hF hro hn l Bs n₀ b off cap evs.length evs hb hlc hlen (Nat.le_refl _) J Jx hY W hb1 hc1 h0).mono ?_
  rintro e W' ⟨he, h | ⟨pre, hp, h⟩⟩
  · exact ⟨he, .inl h⟩
  · exact ⟨he, .inr ⟨pre, hp, h⟩⟩
end Go.Proofs.Ytcbppkfnfbdkhaa
