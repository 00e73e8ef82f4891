/- The contracts of the law's smallest helpers. -/
import Derived.Test.YtohgjljcdnjajaaBent
namespace Go.Proofs.Ytohgjljcdnjajaa
open Go.RowKit Go.Shelf

def SomeBool (w : World) (e : Ending) (w' : World) : Prop := ∃ b, e = .returned (.bool b) ∧ w = w'

set_option maxHeartbeats 1000000 in
theorem few_any (S : Nat → Prop) (A : Option Addr) (rs : List OpR) (c : Nat) (hn : rs.length ≤ 9223372036854775807) (w : World) (h : OpsAt S w A rs) :
    Calls Try.prog 14 #[.slice A rs.length c] w (SomeBool w) := by
  go_enter Try.func14, Try.ntmps14
  go_wp2
  go_loop [3, 4] (fun nv iv => ∃ (i : Nat) (n : Int), i ≤ rs.length ∧ iv = .int .i64 (i : Int) ∧ nv = .int .i64 n) (fun _ iv => rs.length - (intOf iv).toNat)
  case atStart => exact ⟨0, 0, by omega, rfl, rfl⟩
  case round =>
    obtain ⟨i, n, hi, rfl, rfl⟩ := hrel
    by_cases hlt : i < rs.length
    · obtain ⟨b, o, rfl, hs, c0, c1, c2⟩ := h.at_ i hlt
      have hm : rs[i].dat.length ≤ 9223372036854775807 := by have := (h.ok _ (List.getElem_mem hlt)).cap1; have := (h.ok _ (List.getElem_mem hlt)).cap2; unfold maxLen at this; omega
      clear h
      go_wp2
      go_round
      case rel => exact ⟨i + 1, _, by omega, by go_num, rfl⟩
      case measure => simp [intOf]; omega
    · by_cases h2 : rs.length ≤ 220
      · go_wp2
        go_ret
        exact ⟨_, rfl, rfl⟩
      · go_wp2
        go_ret
        exact ⟨_, rfl, rfl⟩

theorem awake_check (A : Option Addr) : checkS 3 [⟨1, 2, none, [], 0⟩, ⟨0, 0, A, [120], 1⟩] = 0 := by
  unfold checkS
  simp [limB, amountZ, badB, fitsB, rightB]
theorem awake_apply (A : Option Addr) : applyS [97, 98, 99] [⟨1, 2, none, [], 0⟩, ⟨0, 0, A, [120], 1⟩] = [98, 99, 120] := by
  unfold applyS
  rw [if_pos (show checkS ([97, 98, 99] : List UInt8).length _ = 0 from awake_check A)]
  unfold madeS pieceS
  simp

/-- The bytes of a marked constant. -/
theorem Bts.mark (w : World) (l : List UInt8) (t : TypeId) (fr : Nat × Nat) : Bts (fun _ => False) (w.alloc (.cells (l.map byteV).toArray t fr)) (some ⟨w.heap.size, 0, none⟩) l := fun j u hu => by
  refine ⟨_, rfl, fun h => h, ?_⟩
  rw [Addr.add_lit, Nat.zero_add, World.cell?_alloc_mark]
  simpa using hu

set_option maxHeartbeats 1000000 in
theorem awake_any (w : World) : Calls Try.prog 18 #[] w fun e w' => e = .returned (.bool true) ∧ Below w.heap.size w w' := by
  have kc := fun (w : World) (C : Array Value) (n c : Nat) => Lib.run_convert_bytes_const (P := Try.prog) w 23 5 C n c Try.underlying23 Try.underlying5
  have kc2 := kc (w.alloc (.cells #[.int .u8 97, .int .u8 98, .int .u8 99] 5 (3, 4))) #[.int .u8 120] 1 1
  rw [World.size_alloc] at kc2
  go_enter Try.func18, Try.ntmps18
  go_wp2_with fail
  obtain ⟨w1, hw1⟩ : ∃ w1, ((w.alloc (.cells #[.int .u8 97, .int .u8 98, .int .u8 99] 5 (3, 4))).alloc (.cells #[.int .u8 120] 5 (1, 2))).alloc (.cells #[.int .i64 1, .int .i64 2, .slice none 0 0, .int .i64 0, .int .i64 0, .slice (some ⟨w.heap.size + 1, 0, none⟩) 1 1] 42) = w1 := ⟨_, rfl⟩
  rw [hw1]
  have hb : Bts (fun _ => False) w1 (some ⟨w.heap.size, 0, none⟩) [97, 98, 99] := by
    rw [← hw1]
    exact Cells.alloc (Cells.alloc (Bts.mark w [97, 98, 99] 5 (3, 4)) _) _
  have hd : Bts (fun _ => False) w1 (some ⟨w.heap.size + 1, 0, none⟩) [120] := by
    rw [← hw1]
    have := Bts.mark (w.alloc (.cells #[.int .u8 97, .int .u8 98, .int .u8 99] 5 (3, 4))) [120] 5 (1, 2)
    rw [World.size_alloc] at this
    exact Cells.alloc this _
  have ho : OpsAt (fun _ => False) w1 (some ⟨w.heap.size + 2, 0, none⟩) [⟨1, 2, none, [], 0⟩, ⟨0, 0, some ⟨w.heap.size + 1, 0, none⟩, [120], 1⟩] := by
    refine ⟨?_, ?_⟩
    · rw [← hw1]
      have := Cells.new ((w.alloc (.cells #[.int .u8 97, .int .u8 98, .int .u8 99] 5 (3, 4))).alloc (.cells #[.int .u8 120] 5 (1, 2))) #[.int .i64 1, .int .i64 2, .slice none 0 0, .int .i64 0, .int .i64 0, .slice (some ⟨w.heap.size + 1, 0, none⟩) 1 1] 42
      rw [World.size_alloc, World.size_alloc] at this
      exact this
    · intro r hr
      rcases List.mem_cons.1 hr with rfl | hr
      · exact ⟨Cells.nil _ _ _, Nat.le_refl _, by unfold maxLen; simp, by simp, by simp⟩
      · simp at hr
        subst hr
        exact ⟨hd, Nat.le_refl _, by unfold maxLen; simp, by simp, by simp⟩
  have hB : Below w.heap.size w w1 := by rw [← hw1]; exact (((Below.refl _ w).alloc (Nat.le_refl _) _).alloc (by simp) _).alloc (by simp; omega) _
  clear hw1 kc kc2
  refine (apply_any _ _ _ 3 (Nat.le_refl _) (by omega) _ _ 2 (by simp) w1 hb ho).mono ?_
  rintro e w2 ⟨A, c, l, rfl, hl, hlc, _, hbl, hB2⟩
  rw [awake_apply] at hl
  have hck := awake_check (some ⟨w.heap.size + 1, 0, none⟩)
  have HK := hid hck
  clear hck
  rw [show ([97, 98, 99] : List UInt8).length = 3 from rfl, HK.out]
  have cs := Bts.string (P := Try.prog) hbl 23 9 5 c Try.underlying23 Try.underlying5 Try.underlying9
  have hl3 : bstr l = ⟨#[98, 99, 120]⟩ := by rw [hl]; rfl
  rw [hl3] at cs
  clear hl hl3
  go_wp2_with fail
  go_ret
  exact ⟨rfl, hB.trans (hB2.mono hB.size)⟩
end Go.Proofs.Ytohgjljcdnjajaa
