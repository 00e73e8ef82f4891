/- The walk of the law that short secrets have different fingerprints. -/
import Derived.Test.YtbfjfcengmkgmaaLawSame
import Derived.Test.YtbfjfcengmkgmaaLawMixes
namespace Go.Proofs.Ytbfjfcengmkgmaa
open Go.RowKit

theorem ofInt_wrap (n : Int) : BitVec.ofInt 64 (IntKind.i64.wrap n) = BitVec.ofInt 64 n := by
  apply BitVec.eq_of_toInt_eq
  rw [BitVec.toInt_ofInt, BitVec.toInt_ofInt]
  simp [IntKind.wrap, IntKind.bits, IntKind.signed]
  split
  · rw [Int.bmod_def, Int.bmod_def]; omega
  · rw [Int.bmod_def, Int.bmod_def]; omega

theorem kind_xor (kind : Int) : BitVec.ofInt 64 (bits .xor .i64 kind 1) ≠ BitVec.ofInt 64 kind := by
  have h0 : bits .xor .i64 kind 1 = IntKind.i64.wrap ((BitVec.ofInt 64 kind ^^^ BitVec.ofInt 64 1).toNat : Int) := rfl
  rw [h0, ofInt_wrap, BitVec.ofInt_natCast, BitVec.ofNat_toNat, BitVec.setWidth_eq]
  intro h
  generalize BitVec.ofInt 64 kind = x at h
  have h2 : x ^^^ (x ^^^ BitVec.ofInt 64 1) = x ^^^ x := by rw [h]
  rw [← BitVec.xor_assoc, BitVec.xor_self, BitVec.zero_xor] at h2
  exact absurd h2 (by decide)

theorem ofV_short (key : BitVec 64) (kind : Int) (a b : List UInt8) (hl : a.length = b.length) (h1 : 1 ≤ a.length) (h8 : a.length ≤ 8) :
    (!((bstr a).toList == (bstr b).toList) == (ux (ofV key kind a) == ux (ofV key kind b))) = false := by
  rw [bstr_beq, ux_beq]
  unfold ofV
  rw [if_neg (by omega), if_neg (by omega)]
  have := Fp.ofB_short key (BitVec.ofInt 64 kind) a b hl h1 h8
  by_cases h : a = b
  · subst h; simp
  · have h2 : ¬ Fp.ofB key (BitVec.ofInt 64 kind) a = Fp.ofB key (BitVec.ofInt 64 kind) b := fun e => h (this.1 e)
    simp [h, h2]
theorem ofV_key (key other : BitVec 64) (kind : Int) (l : List UInt8) (hl : l.length ≤ 65536) :
    (!((ux key == ux other) == (ux (ofV key kind l) == ux (ofV other kind l)))) = false := by
  rw [ux_beq, ux_beq]
  unfold ofV
  rw [if_neg (by omega), if_neg (by omega)]
  have := Fp.ofB_key key other (BitVec.ofInt 64 kind) l
  by_cases h : key = other
  · subst h; simp
  · have h2 : ¬ Fp.ofB key (BitVec.ofInt 64 kind) l = Fp.ofB other (BitVec.ofInt 64 kind) l := fun e => h (this.1 e)
    simp [h, h2]
theorem ofV_kind (key : BitVec 64) (kind : Int) (l : List UInt8) (hl : l.length ≤ 65536) :
    (!(ux (ofV key kind l) == ux (ofV key (bits .xor .i64 kind 1) l))) = true := by
  rw [ux_beq]
  unfold ofV
  rw [if_neg (by omega), if_neg (by omega)]
  have := Fp.ofB_kind key (BitVec.ofInt 64 kind) (BitVec.ofInt 64 (bits .xor .i64 kind 1)) l
  have h2 : ¬ Fp.ofB key (BitVec.ofInt 64 kind) l = Fp.ofB key (BitVec.ofInt 64 (bits .xor .i64 kind 1)) l := fun e => kind_xor kind (this.1 e).symm
  simp [h2]

set_option maxRecDepth 100000 in
set_option maxHeartbeats 1000000 in
theorem apart_walk (a0 : Option Addr) (len0 cap0 : Nat) (z0 : List Int) (key other : BitVec 64) (kind : Int) (w : World) (w0 : IsRow .i64 w a0 len0 cap0 z0) :
    Calls Try.prog 7 #[.slice a0 len0 cap0, .int .u64 (ux key), .int .u64 (ux other), .int .i64 kind] w fun e w' => e = .returned (.bool true) ∧ Below w.heap.size w w' := by
  have ht : TapeOK 27 (w.alloc (.cells #[.slice a0 len0 cap0, .int .i64 0] 27)) w.heap.size := w0.tape
  go_enter Try.func7, Try.ntmps7
  go_wp2_with (go_at_call 15; refine (between_any _ _ _ _ ht (by omega) (by omega) (by omega) (by omega)).mono ?_; rintro e w1 ⟨n, rfl, hn0, hn1, ht1, hk1⟩; have hs1 : w.heap.size < w1.heap.size := by have := hk1.size; simp at this; omega)
  refine (bytes_out _ _ _ ht1 (by omega) (by omega) hs1).mono ?_
  rintro e w2 ⟨A, c, a, rfl, hal, hac, ha, ht2, hk2⟩
  have hs2 := hk2.size
  have HA := hid hal
  clear hal
  go_wp2_with fail
  refine (bytes_out _ _ _ ht2 (by omega) (by omega) (by omega)).mono ?_
  rintro e w3 ⟨B, d, b, rfl, hbl, hbd, hb, ht3, hk3⟩
  have hs3 := hk3.size
  have HB := hid hbl
  clear hbl
  go_wp2_with fail
  refine (next_any _ _ _ ht3 (by omega) (by omega)).mono ?_
  rintro e w4 ⟨m, rfl, hm0, hm1, ht4, hk4⟩
  have hs4 := hk4.size
  go_wp2_with fail
  refine (bytes_out _ _ _ ht4 (by omega) (by omega) (by omega)).mono ?_
  rintro e w5 ⟨X, cx, x, rfl, hl, hlc, hx, ht5, hk5⟩
  have hx30 : x.length ≤ 40 := by omega
  clear hl
  have hs5 := hk5.size
  have hE1 : Below w.heap.size w w1 := ((Below.refl _ _).alloc (Nat.le_refl _) _).trans (hk1.to_below (fun k hk => by omega))
  have hE2 : Below w.heap.size w w2 := hE1.trans (hk2.to_below (fun k hk => by rcases hk with hk | hk <;> omega))
  have hE3 : Below w.heap.size w w3 := hE2.trans (hk3.to_below (fun k hk => by rcases hk with hk | hk <;> omega))
  have hE4 : Below w.heap.size w w4 := hE3.trans (hk4.to_below (fun k hk => by omega))
  have hE5 : Below w.heap.size w w5 := hE4.trans (hk5.to_below (fun k hk => by rcases hk with hk | hk <;> omega))
  have ha' : Bts (fun b => b = w.heap.size) w2 A a := ha.other (fun k h1 h2 => by omega)
  have ha5 : Bts (fun _ => False) w5 A a := (((ha'.keep hk3 (fun k h1 h2 => by rcases h2 with h2 | h2 <;> omega)).keep hk4 (fun k h1 h2 => h2)).keep hk5 (fun k h1 h2 => by rcases h2 with h2 | h2 <;> omega)).mono (fun _ h => h.elim)
  have hb' : Bts (fun b => b = w.heap.size) w3 B b := hb.other (fun k h1 h2 => by omega)
  have hb5 : Bts (fun _ => False) w5 B b := ((hb'.keep hk4 (fun k h1 h2 => h2)).keep hk5 (fun k h1 h2 => by rcases h2 with h2 | h2 <;> omega)).mono (fun _ h => h.elim)
  have hx5 : Bts (fun _ => False) w5 X x := hx.mono (fun _ h => h.elim)
  have hla : a.length = n.toNat := HA.out
  have hlb : b.length = n.toNat := HB.out
  have hl : a.length = b.length := by omega
  have ha1 : 1 ≤ a.length := by omega
  have ha8 : a.length ≤ 8 := by omega
  have hb8 : b.length ≤ 8 := by omega
  have t1 := ofV_short key kind a b hl ha1 ha8
  clear hla hlb hl ha hb hx ha' hb' hk1 hk2 hk3 hk4 hk5 ht ht1 ht2 ht3 ht4 ht5 hE1 hE2 hE3 hE4
  have t2 := ofV_key key other kind x (by omega)
  have t3 := ofV_kind key kind x (by omega)
  obtain ⟨kx, hkx⟩ : ∃ kx, bits .xor .i64 kind 1 = kx := ⟨_, rfl⟩
  rw [hkx] at t3
  have cA := fun y : Later w5 => Bts.string (P := Try.prog) (ha5.below y.prop) 24 9 5 c Try.underlying24 Try.underlying5 Try.underlying9
  have cB := fun y : Later w5 => Bts.string (P := Try.prog) (hb5.below y.prop) 24 9 5 d Try.underlying24 Try.underlying5 Try.underlying9
  go_wp2_with fail
  refine wp_region_class (fun y : Later w5 => y.val) (by kernel_rfl) (by kernel_rfl) (Later.drew w5) rfl ?_
  repeat (go_big_quiet_step ((go_at_call 16; with_reducible refine (same_any (fun _ => False) _ _ _ _ _ _ _ _ _ (ha5.below (Later.prop _)) (hb5.below (Later.prop _)) (by omega) (by omega) hac hbd).mono ?_; rintro e w' ⟨he, hB'⟩; exact ⟨he, Later.then_ _ hB'⟩)))
  refine wpQuiet_nil ?_
  rintro w' ⟨⟨w6, hB6⟩, rfl⟩
  clear cA cB t1
  have hx6 := hx5.below hB6
  have hE6 := hE5.trans (hB6.mono hE5.size)
  go_wp2_with fail
  refine (of_any _ _ _ _ _ _ _ hx6 (by omega) hlc).mono ?_
  rintro e w7 ⟨rfl, hB7⟩
  have hx7 := hx6.below hB7
  have hE7 := hE6.trans (hB7.mono hE6.size)
  go_wp2_with fail
  refine (of_any _ _ _ _ _ _ _ hx7 (by omega) hlc).mono ?_
  rintro e w8 ⟨rfl, hB8⟩
  have hx8 := hx7.below hB8
  have hE8 := hE7.trans (hB8.mono hE7.size)
  go_wp2_with fail
  refine (of_any _ _ _ _ _ _ _ hx8 (by omega) hlc).mono ?_
  clear t2
  rintro e w9 ⟨rfl, hB9⟩
  have hx9 := hx8.below hB9
  have hE9 := hE8.trans (hB9.mono hE8.size)
  go_wp2_with fail
  refine (of_any _ _ _ _ _ _ _ hx9 (by omega) hlc).mono ?_
  rintro e w10 ⟨rfl, hB10⟩
  have hE10 := hE9.trans (hB10.mono hE9.size)
  have t4 : (ux (ofV key kind x) != ux (ofV key kx x)) = true := by simpa using t3
  clear t3 hkx
  go_wp2_with (go_at_call 14; refine (awake_any _).mono ?_; rintro e w' ⟨rfl, hB'⟩)
  go_ret
  exact ⟨rfl, hE10.trans (hB'.mono hE10.size)⟩
end Go.Proofs.Ytbfjfcengmkgmaa
