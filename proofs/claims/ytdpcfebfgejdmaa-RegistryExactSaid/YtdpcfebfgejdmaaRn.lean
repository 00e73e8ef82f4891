/- Names: a range over a text. -/
import Derived.Test.YtdpcfebfgejdmaaIvz
import Derived.Laws.RangeString
import Derived.Laws.RangeAny
import Derived.LoopTactic
set_option linter.all false
set_option maxRecDepth 1000000
set_option maxHeartbeats 2000000
namespace Go.Proofs.Ytdpcfebfgejdmaa
open Go.RowKit Go.Shelf
def lowTo (s : ByteArray) (pos : Nat) : Prop := ∀ i (h : i < s.size), i < pos → 97 ≤ (s[i]'h).toNat ∧ (s[i]'h).toNat ≤ 122
/-- All bytes are small letters. -/
def lowB (s : ByteArray) : Bool := decide (∀ i : Fin s.size, 97 ≤ (s[i.1]'i.2).toNat ∧ (s[i.1]'i.2).toNat ≤ 122)
def namedB (s : ByteArray) (m : Int) : Bool := lowB s && (decide (1 ≤ (s.size : Int)) && decide ((s.size : Int) ≤ m))
theorem lowB_t {s : ByteArray} (h : lowTo s s.size) : lowB s = true := decide_eq_true fun i => h i.1 i.2 i.2
theorem lowB_f {s : ByteArray} (h : ¬ lowTo s s.size) : lowB s = false := decide_eq_false fun hh => h fun i hi _ => hh ⟨i, hi⟩
theorem dec_low (s : ByteArray) (pos : Nat) (h : pos < s.size) : (97 ≤ (s[pos]'h).toNat ∧ (s[pos]'h).toNat ≤ 122 ∧ (Utf8.decode s pos) = ((s[pos]'h).toNat, 1)) ∨ (¬ (97 ≤ (s[pos]'h).toNat ∧ (s[pos]'h).toNat ≤ 122) ∧ ((Utf8.decode s pos).1 < 97 ∨ 122 < (Utf8.decode s pos).1)) := by
  by_cases ha : (s[pos]'h).toNat < 128
  · have e := decode_ascii s pos h ha
    by_cases hb : 97 ≤ (s[pos]'h).toNat ∧ (s[pos]'h).toNat ≤ 122
    · exact .inl ⟨hb.1, hb.2, e⟩
    · refine .inr ⟨hb, ?_⟩
      rw [e]
      show (s[pos]'h).toNat < 97 ∨ 122 < (s[pos]'h).toNat
      omega
  · have := (decode_high s pos h (by omega)).1
    exact .inr ⟨by omega, .inr (by omega)⟩
theorem named_r (s : ByteArray) (m : Int) (w : World) : Calls Try.prog 58 #[.string s, .int .i64 m] w fun e w' => e = .returned (.bool (namedB s m)) ∧ ∃ pos, w' = w.iter s pos := by
  go_enter Try.func58, Try.ntmps58
  go_wp2
  go_loopw [] (fun w' => ∃ pos, w' = w.iter s pos ∧ lowTo s pos) (fun w' => s.size - w'.iterPos w.heap.size)
  case atStart => exact ⟨0, rfl, fun i h hi => absurd hi (Nat.not_lt_zero i)⟩
  case round =>
    obtain ⟨pos, rfl, hlow⟩ := hrel
    by_cases hp : pos < s.size
    · rcases dec_low s pos hp with ⟨b1, b2, hd⟩ | ⟨b1, hd⟩
      · obtain ⟨c, hc⟩ : ∃ c, (s[pos]'hp).toNat = c := ⟨_, rfl⟩
        rw [hc] at b1 b2 hd
        have hnx : ∀ ty, (Instr.next (.pointer (some ⟨w.heap.size, 0, none⟩)) true ty).run Try.prog (w.iter s pos) = .ok (.tuple #[.bool true, .int .i64 pos, .int .i32 c]) (w.iter s (pos + 1)) := fun ty => by
          have := run_next_any (P := Try.prog) w s pos ty hp
          rw [hd] at this
          exact this
        have n1 : ¬ ((c : Int) < 97) := by omega
        have n2 : ¬ ((122 : Int) < c) := by omega
        go_wp2
        refine ⟨⟨pos + 1, rfl, fun i h hi => ?_⟩, by simp; omega⟩
        by_cases e : i < pos
        · exact hlow i h e
        · have : i = pos := by omega
          subst this
          rw [hc]; exact ⟨b1, b2⟩
      · have hnx : ∀ ty, (Instr.next (.pointer (some ⟨w.heap.size, 0, none⟩)) true ty).run Try.prog (w.iter s pos) = _ := fun ty => run_next_any w s pos ty hp
        have hno : namedB s m = false := by
          unfold namedB
          rw [lowB_f fun hl => b1 (hl pos hp hp)]; rfl
        generalize (Utf8.decode s pos).1 = c at *
        rcases hd with hd | hd
        · have n1 : (c : Int) < 97 := by omega
          go_wp2
          go_ret
          exact ⟨by first | rfl | (rw [hno]; rfl), _, rfl⟩
        · have n1 : ¬ ((c : Int) < 97) := by omega
          have n2 : (122 : Int) < c := by omega
          go_wp2
          go_ret
          exact ⟨by first | rfl | (rw [hno]; rfl), _, rfl⟩
    · have hnx : ∀ ty, (Instr.next (.pointer (some ⟨w.heap.size, 0, none⟩)) true ty).run Try.prog (w.iter s pos) = _ := fun ty => run_next_end w s pos ty hp
      have hlo : lowB s = true := lowB_t fun i h hi => hlow i h (by omega)
      by_cases q1 : (1 : Int) ≤ (s.size : Int)
      · by_cases q2 : (s.size : Int) ≤ m
        · have hn : namedB s m = true := by simp [namedB, hlo, q1, q2]
          go_wp2
          go_ret
          exact ⟨by first | rfl | (rw [hn]; rfl) | (rw [hn]; simp_all), _, rfl⟩
        · have hn : namedB s m = false := by simp [namedB, hlo, q1, q2]
          go_wp2
          go_ret
          exact ⟨by first | rfl | (rw [hn]; rfl) | (rw [hn]; simp_all), _, rfl⟩
      · have hn : namedB s m = false := by simp [namedB, hlo, q1]
        go_wp2
        go_ret
        exact ⟨by first | rfl | (rw [hn]; rfl) | (rw [hn]; simp_all), _, rfl⟩
theorem Named_ic (s : ByteArray) (m : Int) : ICt 58 [.one (.d (.str s)), iv m] (fun v => v = bv (namedB s m)) := by
  refine ⟨enters_of Try.func58 rfl rfl, fun g w vals hβ hgi hsz hrep => ?_⟩
  obtain ⟨l⟩ := vals
  match l, hsz with
  | [a, b], _ =>
    have w0 := hrep 0 a _ rfl rfl
    have w1 := hrep 1 b _ rfl rfl
    obtain rfl : a = .string s := w0.str_inv.1
    obtain rfl : b = .int .i64 m := w1.int_inv.1
    refine (named_r s m w).mono fun e w' ⟨e1, pos, e2⟩ => ?_
    subst e2
    have hk : Keep (fun k => w.heap.size ≤ k) w (w.iter s pos) := (Keep.refl _ w).alloc (Nat.le_refl _) _
    refine ⟨_, bv (namedB s m), g, rfl, rfl, e1, .one (.d (.bool _)), ⟨fun _ _ h => h, fun _ _ h => .inl h, hk.mono fun k hk => .inr hk, fun tb' h' => ?_⟩⟩
    obtain ⟨hlt, htr⟩ := hgi.tape tb' h'
    exact htr.keep ⟨fun _ _ h => h, fun b o hr => World.cell?_of_block (w := w) (hk.block b (by have := (hgi.rd b o hr).1; omega))⟩ (hk.block tb' (by omega))
end Go.Proofs.Ytdpcfebfgejdmaa
