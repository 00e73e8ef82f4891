/- The contracts of Same and of the example. -/
import Derived.Test.YtbfjfcengmkgmaaOf
import Derived.Lib.SlBytesConst
namespace Go.Proofs.Ytbfjfcengmkgmaa
open Go.RowKit

set_option maxHeartbeats 400000 in
theorem same_any (S : Nat → Prop) (key : BitVec 64) (kind : Int) (A B : Option Addr) (a b : List UInt8) (c d : Nat) (w : World) (ha : Bts S w A a) (hb : Bts S w B b) (hal : a.length ≤ 65536) (hbl : b.length ≤ 65536) (hac : a.length ≤ c) (hbd : b.length ≤ d) :
    Calls Try.prog 16 #[.int .u64 (ux key), .int .i64 kind, .slice A a.length c, .slice B b.length d] w fun e w' => e = .returned (.bool (ux (ofV key kind a) == ux (ofV key kind b))) ∧ Below w.heap.size w w' := by
  have hB0 := Below.refl w.heap.size w
  go_enter Try.func16, Try.ntmps16
  go_wp2_with (go_at_call 10; refine (of_any S _ _ _ _ _ _ ?_ ?_ ?_).mono ?_; assumption; omega; omega; rintro e w' ⟨rfl, hB⟩; replace ha := ha.below hB; replace hb := hb.below hB; replace hB0 := hB0.trans (hB.mono hB0.size))
  go_ret
  exact ⟨rfl, hB0⟩

set_option maxHeartbeats 400000 in
theorem rsame_any (S : Nat → Prop) (key : BitVec 64) (kind : Int) (A B : Option Addr) (a b : List UInt8) (c d : Nat) (w : World) (ha : Bts S w A a) (hb : Bts S w B b) (hal : a.length ≤ 65536) (hbl : b.length ≤ 65536) :
    Calls Try.prog 17 #[.int .u64 (ux key), .int .i64 kind, .slice A a.length c, .slice B b.length d] w fun e w' => e = .returned (.bool (ux (ofV key kind a) == ux (ofV key kind b))) ∧ w = w' := by
  go_enter Try.func17, Try.ntmps17
  go_wp2_with (go_at_call 11; refine (rof_any S _ _ _ _ _ _ ?_ ?_).mono ?_; assumption; omega; rintro e w' ⟨rfl, rfl⟩)
  go_ret
  exact ⟨rfl, rfl⟩

theorem mix0 (w : World) : Calls Try.prog 12 #[.int .u64 0] w fun e w' => e = .returned (.int .u64 0) ∧ w = w' := by
  have := mix_any 0 w
  have e0 : ux (0 : BitVec 64) = 0 := rfl
  have e1 : ux (Fp.mixB 0) = 0 := by decide
  rw [e0, e1] at this
  exact this

theorem of_lit (w : World) (ad : Addr) (b : UInt8) (x : Int) (hx : x = (b.toNat : Int)) (hc : w.cell? ad = some (.int .u8 x)) :
    Calls Try.prog 10 #[.int .u64 1, .int .i64 0, .slice (some ad) 1 1] w fun e w' => e = .returned (.int .u64 (ux (ofV 1 0 [b]))) ∧ Below w.heap.size w w' := by
  have hb : Bts (fun _ => False) w (some ad) [b] := by
    intro i u hu
    match i, hu with
    | 0, hu =>
      simp at hu
      refine ⟨ad, rfl, fun h => h, ?_⟩
      rw [← hu, byteV, ← hx]
      simpa [Addr.add] using hc
  exact of_any _ 1 0 (some ad) [b] 1 w hb (by simp) (by simp)

theorem awake_ne : (ux (ofV 1#64 0 [97]) != ux (ofV 1#64 0 [98])) = true := by decide +kernel

set_option maxHeartbeats 400000 in
theorem awake_any (w : World) : Calls Try.prog 14 #[] w fun e w' => e = .returned (.bool true) ∧ Below w.heap.size w w' := by
  have kc := fun (w : World) (C : Array Value) (n c : Nat) => Lib.run_convert_bytes_const (P := Try.prog) w 24 5 C n c Try.underlying24 Try.underlying5
  have hne := awake_ne
  go_enter Try.func14, Try.ntmps14
  go_wp2_with (first
    | (go_at_call 12; refine (mix0 _).mono ?_; rintro e w' ⟨rfl, rfl⟩))
  refine (of_lit _ ⟨w.heap.size, 0, none⟩ 97 _ rfl (by rw [World.cell?_alloc_mark]; rfl)).mono ?_
  rintro e w1 ⟨rfl, hB1⟩
  have hs1 := hB1.size
  go_wp2_with fail
  refine (of_lit _ ⟨w1.heap.size, 0, none⟩ 98 _ rfl (by rw [World.cell?_alloc_mark]; rfl)).mono ?_
  rintro e w2 ⟨rfl, hB2⟩
  go_wp2_with fail
  go_ret
  simp at hs1
  refine ⟨rfl, ?_⟩
  exact (((Below.refl _ _).alloc (Nat.le_refl _) _).trans (hB1.mono (by simp))).trans (((Below.refl _ _).alloc (by omega) _).trans (hB2.mono (by simp; omega)))
end Go.Proofs.Ytbfjfcengmkgmaa
