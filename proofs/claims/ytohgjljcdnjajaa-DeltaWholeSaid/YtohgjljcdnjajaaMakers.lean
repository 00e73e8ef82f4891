/- The contracts of the makers of operations. -/
import Derived.Test.YtohgjljcdnjajaaMade
import Derived.Test.YtohgjljcdnjajaaMk
namespace Go.Proofs.Ytohgjljcdnjajaa
open Go.RowKit Go.Shelf

theorem Try.info42 : (Try.prog.info? 42).map (fun i => (i.zero, i.size, i.bytes)) = some (some (.agg #[.int .i64 0, .int .i64 0, .slice none 0 0]), 3, 40) := by kernel_rfl

/-- An operation that fits a base of n bytes. -/
structure OpFit (n : Nat) (S : Nat → Prop) (w : World) (r : OpR) : Prop where
  ok : r.Ok S w
  fits : fitsB r.fr r.sz r.dat.length n = true
  amount : amountZ r ≤ n + 6
theorem Ok.keep {S S' : Nat → Prop} {W W' : World} {r : OpR} (h : r.Ok S W) (hk : Keep S' W W') (hS : ∀ k, k < W.heap.size → S' k → S k) : r.Ok S W' := ⟨h.bts.keep hk hS, h.cap1, h.cap2, h.fr1, h.sz1⟩
theorem Ok.other {S S' : Nat → Prop} {W : World} {r : OpR} (h : r.Ok S W) (hS : ∀ k, k < W.heap.size → S' k → S k) : r.Ok S' W := ⟨h.bts.other hS, h.cap1, h.cap2, h.fr1, h.sz1⟩
theorem OpFit.elem (n : Nat) : Elem (OpFit n) := ⟨fun h hk hS => ⟨Ok.keep h.ok hk hS, h.fits, h.amount⟩, fun h hS => ⟨Ok.other h.ok hS, h.fits, h.amount⟩⟩

def OpsOut (w : World) (tb n : Nat) (e : Ending) (w' : World) : Prop :=
  ∃ A c rs, e = .returned (.slice A rs.length c) ∧ (rs.length ≤ c ∧ c ≤ maxLen) ∧ rs.length ≤ 5 ∧ OpsAt (fun b => b < w.heap.size) w' A rs ∧ (∀ r ∈ rs, fitsB r.fr r.sz r.dat.length n = true ∧ amountZ r ≤ n + 6) ∧ TapeOK 27 w' tb ∧ TapeKeep w w' tb

theorem copy_fit (n : Nat) (fr sz : Int) (h0 : 0 ≤ fr) (h1 : 1 ≤ sz) (h2 : sz ≤ n - fr) (hn : n ≤ 65536) (S : Nat → Prop) (w : World) : OpFit n S w ⟨fr, sz, none, [], 0⟩ := by
  refine ⟨⟨Cells.nil _ _ _, Nat.le_refl _, by unfold maxLen; simp, ?_, ?_⟩, ?_, ?_⟩
  · simp only; omega
  · simp only; omega
  · unfold fitsB rightB; simp; omega
  · unfold amountZ; simp only; split <;> omega
theorem ins_fit (n : Nat) (A : Option Addr) (l : List UInt8) (c : Nat) (S : Nat → Prop) (w : World) (hb : Bts S w A l) (h1 : 1 ≤ l.length) (h6 : l.length ≤ 6) (hc : l.length ≤ c) (hm : c ≤ maxLen) : OpFit n S w ⟨0, 0, A, l, c⟩ := by
  refine ⟨⟨hb, hc, hm, by simp, by simp⟩, ?_, ?_⟩
  · unfold fitsB rightB; simp; exact h1
  · unfold amountZ; simp only; split <;> omega

set_option maxHeartbeats 2000000 in
theorem ops_any (w : World) (tb : Nat) (n : Nat) (h : TapeOK 27 w tb) (hn : n ≤ 65536) (htb : tb < w.heap.size) :
    Calls Try.prog 12 #[.pointer (some ⟨tb, 0, none⟩), .int .i64 (n : Int)] w (OpsOut w tb n) := by
  obtain ⟨i0, hi, hz0, hz1, hz2⟩ := info_parts Try.info42
  have hE := OpFit.elem n
  go_enter Try.func12, Try.ntmps12
  go_wp2_with (go_at_call 11; refine (next_any _ _ _ h (by omega) (by omega)).mono ?_; rintro e w1 ⟨x, rfl, hx0, hx1, ht1, hk1⟩)
  have hM1 : Mk 42 3 OpR.cells (OpFit n) w tb (.slice none 0 0) [] w1 := Mk.nil ht1 (hk1.mono fun k h => .inl h) htb
  go_loopw [5, 6] (fun v iv wr => ∃ (k : Int) (rs : List OpR), iv = .int .i64 k ∧ 0 ≤ k ∧ k + rs.length ≤ 5 ∧ Mk 42 3 OpR.cells (OpFit n) w tb v rs wr) (fun _ iv _ => (intOf iv).toNat)
  case atStart => exact ⟨x, [], rfl, hx0, by simp; omega, hM1⟩
  case round =>
    obtain ⟨k, rs, rfl, hk0, hk5, hM⟩ := hrel
    by_cases hlt : 0 < k
    · have hsz := hM.keep.size
      have htl : tb < wr.heap.size := by omega
      by_cases hn0 : 0 < n
      · go_wp2_with (first
          | (go_at_call 11; refine (next_any _ _ _ hM.tape (by omega) (by omega)).mono ?_; rintro e w2 ⟨y, rfl, hy0, hy1, ht2, hk2⟩; replace hM := hM.next hE ht2 hk2; replace htl := Nat.lt_of_lt_of_le htl hk2.size)
          | (go_at_call 27; refine (between_any _ _ _ _ hM.tape (by omega) (by omega) (by omega) (by omega)).mono ?_; rintro e w3 ⟨z, rfl, hz0', hz1', ht3, hk3⟩; replace hM := hM.next hE ht3 hk3; replace htl := Nat.lt_of_lt_of_le htl hk3.size)
          | (go_at_call 10; refine (bytes_out _ _ _ hM.tape (by omega) (by omega) htl).mono ?_; rintro e w4 ⟨A, c, l, rfl, hl, hlc, hb, ht4, hk4⟩; have hx := hM.fresh hE (ins_fit n A l c _ _ hb (by omega) (by omega) hlc.1 hlc.2); replace hM := hM.step hE hk4 (fun _ h => h) ht4; replace htl := Nat.lt_of_lt_of_le htl hk4.size; have hl6 : l.length ≤ 6 := (by omega); clear hl)
          | (at_builtin; refine wpList_append_any _ rfl _ _ _ rfl w.heap.size 42 i0 _ 3 40 Try.underlying24 hi hz0 hz1 hz2 (by rfl) (by omega) _ _ _ (by exact rfl) (hM.own.alloc _) _ _ _ _ _ rfl (Cells.new _ _ _) (by rfl) (by simp [Value.oneCell']) (by unfold maxLen; omega) (by omega) (by have := hM.keep.size; simp; omega) ?_; intro v' w5 hown' hg' hat'))
        · go_roundw
          case rel => exact ⟨k - 1, rs ++ [⟨y, z, none, [], 0⟩], rfl, by omega, by simp; omega, hM.push hE (copy_fit n y z (by omega) (by omega) (by omega) hn _ _) hown' rfl rfl hg' hat'⟩
          case measure => simp [intOf]; omega
        · go_roundw
          case rel => exact ⟨k - 1, rs ++ [⟨0, 0, A, l, c⟩], rfl, by omega, by simp; omega, hM.push hE hx hown' rfl rfl hg' hat'⟩
          case measure => simp [intOf]; omega
      · go_wp2_with (first
          | (go_at_call 27; refine (between_any _ _ _ _ hM.tape (by omega) (by omega) (by omega) (by omega)).mono ?_; rintro e w3 ⟨z, rfl, hz0', hz1', ht3, hk3⟩; replace hM := hM.next hE ht3 hk3; replace htl := Nat.lt_of_lt_of_le htl hk3.size)
          | (go_at_call 10; refine (bytes_out _ _ _ hM.tape (by omega) (by omega) htl).mono ?_; rintro e w4 ⟨A, c, l, rfl, hl, hlc, hb, ht4, hk4⟩; have hx := hM.fresh hE (ins_fit n A l c _ _ hb (by omega) (by omega) hlc.1 hlc.2); replace hM := hM.step hE hk4 (fun _ h => h) ht4; replace htl := Nat.lt_of_lt_of_le htl hk4.size; have hl6 : l.length ≤ 6 := (by omega); clear hl)
          | (at_builtin; refine wpList_append_any _ rfl _ _ _ rfl w.heap.size 42 i0 _ 3 40 Try.underlying24 hi hz0 hz1 hz2 (by rfl) (by omega) _ _ _ (by exact rfl) (hM.own.alloc _) _ _ _ _ _ rfl (Cells.new _ _ _) (by rfl) (by simp [Value.oneCell']) (by unfold maxLen; omega) (by omega) (by have := hM.keep.size; simp; omega) ?_; intro v' w5 hown' hg' hat'))
        go_roundw
        case rel => exact ⟨k - 1, rs ++ [⟨0, 0, A, l, c⟩], rfl, by omega, by simp; omega, hM.push hE hx hown' rfl rfl hg' hat'⟩
        case measure => simp [intOf]; omega
    · go_wp2
      go_ret
      obtain ⟨A, c, e, hc, hcm, _⟩ := own_form hM.own
      refine ⟨A, c, rs, ?_, ⟨hc, hcm⟩, by omega, ⟨?_, ?_⟩, fun r hr => ⟨(hM.ok r hr).fits, (hM.ok r hr).amount⟩, hM.tape, hM.keep⟩
      · rw [← e]; rfl
      · have ho := hM.own
        rw [e] at ho
        exact Cells.of_own ho (fun k h1 _ h3 => by omega)
      · exact fun r hr => Ok.other (hM.ok r hr).ok (fun k _ hk => .inl hk)
end Go.Proofs.Ytohgjljcdnjajaa
