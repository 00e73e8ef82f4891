/- slices.Chunk: the iterator. -/
import Derived.Test.YtbnmcdnkeipdhaaFf
import Derived.RangeFuncBox
import Derived.RangeFuncLeaves
import Derived.Shelf.Abstract
import Derived.WalkKit
import Derived.OwnWalkIn
import Derived.TacticsInMore
import Derived.LoopNIn
import Derived.LoopIn
import Derived.Maps.AppendAt
set_option linter.all false
set_option maxRecDepth 100000
set_option maxHeartbeats 4000000
namespace Go.Proofs.Ytbnmcdnkeipdhaa
open Go.RowKit Go.Shelf
attribute [local go_sem] Oper.semAt_some
def pcN (len k : Nat) : Nat := min 128 (len - 128 * k)
def pcV (b off len k : Nat) : Value := .slice (some ⟨b, off + 128 * k, none⟩) (pcN len k) (pcN len k)
def upto (k : Nat) : List Nat := List.range k
theorem upto_succ (k : Nat) : upto (k + 1) = upto k ++ [k] := List.range_succ
theorem upto_len (k : Nat) : (upto k).length = k := List.length_range
structure KpC (n₀ Bs Bn : Nat) (sv : Value) (A B : World) : Prop where
  b : Below n₀ A B
  s : Boxed A Bs 23 sv → Boxed B Bs 23 sv
  n : Boxed A Bn 3 (.int .i64 128) → Boxed B Bn 3 (.int .i64 128)
theorem KpC.trans {n₀ Bs Bn : Nat} {sv : Value} {A B C : World} (h : KpC n₀ Bs Bn sv A B) (k : KpC n₀ Bs Bn sv B C) : KpC n₀ Bs Bn sv A C := ⟨h.b.trans k.b, fun q => k.s (h.s q), fun q => k.n (h.n q)⟩
theorem KpC.refl (n₀ Bs Bn : Nat) (sv : Value) (A : World) : KpC n₀ Bs Bn sv A A := ⟨Below.refl _ _, fun q => q, fun q => q⟩
theorem w_drew {W : World} {B : Nat} {t : TypeId} {v : Value} (h : Boxed W B t v) : Boxed W.drew B t v := h
theorem kpc_drew (n₀ Bs Bn : Nat) (sv : Value) (A : World) : KpC n₀ Bs Bn sv A A.drew := ⟨(Below.refl _ _).drew, fun q => q, fun q => q⟩
theorem chunk1_in (F : Fence) (n : Nat) (hF : F.fn 94) (hro : F.round = none) (hn : 1 ≤ n) (l Bs Bn n₀ b off len cap N : Nat) (hlc : len ≤ cap) (hlen : len ≤ 1000000000) (hN : len ≤ N) (J Jx : List Nat → World → Prop) (hJd : ∀ pre W, J pre W → J pre W.drew)
    (hY : ∀ pre x W, J pre W → pre.length < N → YieldAt F (n - 1) Try.prog l #[pcV b off len x] W fun e W' =>
      (e = .returned (.bool true) ∧ J (pre ++ [x]) W' ∧ KpC n₀ Bs Bn (.slice (some ⟨b, off, none⟩) len cap) W W') ∨ (e = .returned (.bool false) ∧ Jx (pre ++ [x]) W'))
    (W : World) (hBs : Boxed W Bs 23 (.slice (some ⟨b, off, none⟩) len cap)) (hBn : Boxed W Bn 3 (.int .i64 128)) (h0 : J [] W) :
    CallsIn F n Try.prog 94 #[.func (.yield l) #[] #[], .pointer (some ⟨Bs, 0, none⟩), .pointer (some ⟨Bn, 0, none⟩)] W fun e W' => (∃ v, e = .returned v) ∧
      ((∃ ys, ys = upto ((len + 127) / 128) ∧ J ys W') ∨ (∃ pre, Jx pre W')) := by
  refine callsIn_of_wp Try.func94 rfl hF ?_ hro
  simp only [Try.ntmps94, List.size_toArray, List.length_cons, List.length_nil, Nat.reduceAdd, Nat.reduceSub, Array.replicate_succ, Array.replicate_zero, List.push_toArray, List.append_toArray, List.nil_append, List.cons_append]
  gi_wp2
  gi_loopw [4] (fun i wr => ∃ k : Nat, 128 * k < len + 128 ∧ i = .int .i64 ((128 * k : Nat) : Int) ∧ J (upto k) wr ∧ KpC n₀ Bs Bn (.slice (some ⟨b, off, none⟩) len cap) W wr)
    (fun i _ => len - (intOf i).toNat)
  case atStart => exact ⟨0, by omega, rfl, h0, KpC.refl _ _ _ _ _⟩
  case round =>
    obtain ⟨k, hk, rfl, hJs, hnx⟩ := hrel
    have hs := hnx.s hBs
    have hb := hnx.n hBn
    have cs := hs.cell
    have cn := hb.cell
    by_cases hlt : 128 * k < len
    · have hpc : pcN len k = min 128 (len - 128 * k) := rfl
      have hp1 : 1 ≤ pcN len k ∧ 128 * k + pcN len k ≤ len := by omega
      have hmin : (if ((len - 128 * k : Nat) : Int) < 128 then ((len - 128 * k : Nat) : Int) else 128) = ((pcN len k : Nat) : Int) := by split <;> omega
      obtain ⟨fn, tmps, assign, body, hy, hR⟩ := hY _ k wr.drew (hJd _ _ hJs) (by rw [upto_len]; omega)
      dsimp only [pcV] at hy
      clear hpc
      gi_wp2
      gi_region
      all_goals
        try simp only [hmin]
      all_goals gi_wp2
      all_goals
        refine hR.mono ?_
        rintro e W3 (⟨rfl, hJ3, hk3⟩ | ⟨rfl, hJx3⟩)
        · have hs3 := hk3.s (w_drew hs)
          have hb3 := hk3.n (w_drew hb)
          have cs3 := hs3.cell
          have cn3 := hb3.cell
          gi_wp2
          go_roundw
          case rel => exact ⟨k + 1, by omega, by simp; omega, by rw [upto_succ]; exact hJ3, hnx.trans ((kpc_drew _ _ _ _ _).trans hk3)⟩
          case measure => simp [intOf]; omega
        · gi_wp2
          refine bodyPost_ret (results_none rfl _ _ _) rfl ?_
          exact ⟨⟨_, rfl⟩, .inr ⟨_, hJx3⟩⟩
    · obtain hke : k = (len + 127) / 128 := by omega
      gi_wp2
      go_end0
      exact ⟨⟨_, rfl⟩, .inl ⟨_, by rw [hke], hJs⟩⟩
end Go.Proofs.Ytbnmcdnkeipdhaa
