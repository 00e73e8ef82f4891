/- The walk of the law on lengths. -/
import Derived.Test.YtbfjfcengmkgmaaSame
import Derived.Test.YtbfjfcengmkgmaaBytes
namespace Go.Proofs.Ytbfjfcengmkgmaa
open Go.RowKit

theorem of_nil (key : BitVec 64) (kind : Int) (w : World) :
    Calls Try.prog 10 #[.int .u64 (ux key), .int .i64 kind, .slice none 0 0] w fun e w' => e = .returned (.int .u64 (ux (ofV key kind []))) ∧ Below w.heap.size w w' :=
  of_any (fun _ => False) key kind none [] 0 w (Cells.nil _ _ _) (by simp) (Nat.le_refl _)

theorem ofV_nil (key : BitVec 64) (kind : Int) : ux (ofV key kind []) = ux (Fp.mixB (Fp.mixB (xk (Fp.mixB key) kind))) := by
  unfold ofV Fp.ofB
  simp [Fp.absN, Fp.start, xk]

set_option maxHeartbeats 1000000 in
theorem length_walk (a0 : Option Addr) (len0 cap0 : Nat) (z0 : List Int) (key : BitVec 64) (kind : Int) (w : World) (w0 : IsRow .i64 w a0 len0 cap0 z0) :
    Calls Try.prog 5 #[.slice a0 len0 cap0, .int .u64 (ux key), .int .i64 kind] w fun e w' => e = .returned (.bool true) ∧ Below w.heap.size w w' := by
  have ht : TapeOK 27 (w.alloc (.cells #[.slice a0 len0 cap0, .int .i64 0] 27)) w.heap.size := w0.tape
  obtain ⟨i0, hi, hz0, hz1, hz2⟩ := info_parts Try.info5
  have e1 := wrap_u64_xor (Fp.mixB key) kind
  have e2 := ofV_nil key kind
  go_enter Try.func5, Try.ntmps5
  go_wp2_with (first
    | (go_at_call 15; refine (between_any _ _ _ _ ht (by omega) (by omega) (by omega) (by omega)).mono ?_; rintro e w1 ⟨x, rfl, hx0, hx1, ht1, hk1⟩; have hs1 : w.heap.size < w1.heap.size := by have := hk1.size; simp at this; omega)
    | (go_at_call 8; go_must (refine (bytes_out _ _ _ ht1 (by omega) (by omega) hs1).mono ?_; rintro e w2 ⟨A, c, l, rfl, hl, hlc, hb, ht2, hk2⟩; have hl7 : l.length ≤ 7 := (by omega); clear hl)))
  have hb' : Bts (fun b => b < w1.heap.size) w2 A l := hb
  refine (of_any _ _ _ _ _ _ _ hb' (by omega) hlc).mono ?_
  rintro e w3 ⟨rfl, hB3⟩
  have hb3 := hb.below hB3
  have hs3 : w1.heap.size ≤ w3.heap.size := by have := hk2.size; have := hB3.size; omega
  go_wp2_with (first
    | (at_builtin; go_must (refine wpList_append_any _ rfl (.tmp 22) (.tmp 23) _ rfl w3.heap.size 5 i0 _ 1 1 Try.underlying24 hi hz0 hz1 hz2 rfl (by omega) (.slice (some ⟨w3.heap.size, 0, none⟩) 0 0) 0 [] rfl (World.ownsRow_lit w3 #[] 0 (Nat.le_refl _) (by simp) rfl) (fun b => b < w1.heap.size) A l.length c _ rfl (Cells.alloc hb3 _) (by simp) (byteV_one l) (by unfold maxLen; omega) (by omega) (by simp) ?_; intro v4 w4 hown4 hg4 hat4)))
  rw [Nat.zero_add, List.nil_append] at hown4
  obtain ⟨A4, c4, rfl, hc4, _⟩ := own_form hown4
  have hb4 : Bts (fun _ => False) w4 A4 l := Cells.of_own hown4 (fun _ _ _ h => h)
  have hB4 : Below w3.heap.size w3 w4 := ((Below.refl _ _).alloc (Nat.le_refl _) _).grown hg4 (by simp) (fun k hk => by have : w3.heap.size = k := (by simpa [Value.ownBlock] using hk); omega)
  refine (of_any _ _ _ _ _ _ _ hb4 (by omega) hc4).mono ?_
  rintro e w5 ⟨rfl, hB5⟩
  go_wp2_with (first
    | (go_at_call 10; refine (of_nil _ _ _).mono ?_; rintro e w6 ⟨rfl, hB6⟩)
    | (go_at_call 13; refine (rmix_any _ _).mono ?_; rintro e w7 ⟨rfl, rfl⟩)
    | (go_at_call 14; refine (awake_any _).mono ?_; rintro e w8 ⟨rfl, hB8⟩))
  go_ret
  refine ⟨rfl, ?_⟩
  have hs2 := hk2.size
  have hs4 := hB4.size
  have hs5 := hB5.size
  have hs6 := hB6.size
  have h1 : Below w.heap.size w w1 := ((Below.refl _ _).alloc (Nat.le_refl _) _).trans (hk1.to_below (fun k hk => by omega))
  have h2 : Below w.heap.size w w2 := h1.trans (hk2.to_below (fun k hk => by rcases hk with hk | hk <;> omega))
  exact ((((h2.trans (hB3.mono (by omega))).trans (hB4.mono (by omega))).trans (hB5.mono (by omega))).trans (hB6.mono (by omega))).trans (hB8.mono (by omega))
end Go.Proofs.Ytbfjfcengmkgmaa
