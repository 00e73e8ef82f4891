/- The contract of the maker of bytes. -/
import Derived.Test.YtohgjljcdnjajaaTape
namespace Go.Proofs.Ytohgjljcdnjajaa
open Go.RowKit

theorem Try.info5 : (Try.prog.info? 5).map (fun i => (i.zero, i.size, i.bytes)) = some (some (.int .u8 0), 1, 1) := by kernel_rfl

/-- What a maker of a row holds between two steps. -/
structure MkInv (e : TypeId) (size : Nat) (Pv : List Value → Prop) (w : World) (tb : Nat) (v : Value) (k : Nat) (vs : List Value) (wr : World) : Prop where
  own : wr.ownsRow w.heap.size e size v k vs
  vals : Pv vs
  tape : TapeOK 27 wr tb
  keep : Keep (fun b => b = tb ∨ w.heap.size ≤ b) w wr
  tlt : tb < w.heap.size

theorem MkInv.next {e : TypeId} {size : Nat} {Pv : List Value → Prop} {w : World} {tb : Nat} {v : Value} {k : Nat} {vs : List Value} {wr w' : World} (h : MkInv e size Pv w tb v k vs wr) (ht : TapeOK 27 w' tb) (hk : Keep (fun b => b = tb) wr w') :
    MkInv e size Pv w tb v k vs w' :=
  ⟨ownsRow_keep h.own hk (fun k h1 _ h3 => by have := h.tlt; omega), h.vals, ht, h.keep.trans (hk.mono fun k h => .inl h), h.tlt⟩

theorem MkInv.grow {e : TypeId} {size : Nat} {Pv : List Value → Prop} {w : World} {tb : Nat} {v : Value} {k : Nat} {vs : List Value} {wr w' : World} {o : Obj} {v' : Value} {k' : Nat} {vs' : List Value} (h : MkInv e size Pv w tb v k vs wr)
    (hown : w'.ownsRow w.heap.size e size v' k' vs') (hg : (wr.alloc o).grownBy w' v.ownBlock) (hv : Pv vs') : MkInv e size Pv w tb v' k' vs' w' := by
  have hsz := h.keep.size
  have hk1 : Keep (fun b => w.heap.size ≤ b) wr w' :=
    ((Keep.refl (fun b => w.heap.size ≤ b) wr).alloc (by exact hsz) o).grown hg (fun k hk => by simp at hk; omega) (fun k hk => (h.own.lt k hk).1)
  have htl := h.tlt
  exact ⟨hown, hv, h.tape.keep hk1 (fun k hk => by omega), h.keep.trans (hk1.mono fun k h => .inr h), h.tlt⟩

def BytesMade (w : World) (tb n : Nat) (e : Ending) (w' : World) : Prop := ∃ v vs, e = .returned v ∧ MkInv 5 1 (∀ u ∈ ·, isByte u) w tb v n vs w'

set_option maxHeartbeats 1000000 in
theorem bytes_any (w : World) (tb : Nat) (n : Int) (h : TapeOK 27 w tb) (h0 : 0 ≤ n) (h1 : n ≤ 65536) (htb : tb < w.heap.size) :
    Calls Try.prog 10 #[.pointer (some ⟨tb, 0, none⟩), .int .i64 n] w (BytesMade w tb n.toNat) := by
  obtain ⟨i0, hi, hz0, hz1, hz2⟩ := info_parts Try.info5
  go_enter Try.func10, Try.ntmps10
  go_wp2
  go_loopw [5, 6] (fun v i wr => ∃ (k : Nat) (vs : List Value), (k : Int) ≤ n ∧ i = .int .i64 k ∧ MkInv 5 1 (∀ u ∈ ·, isByte u) w tb v k vs wr)
    (fun _ i _ => (n - intOf i).toNat)
  case atStart => exact ⟨0, [], by omega, rfl, World.ownsRow_nil _ _ _ _, by simp, h, Keep.refl _ _, htb⟩
  case round =>
    obtain ⟨k, vs, hk, rfl, hinv⟩ := hrel
    by_cases hlt : (k : Int) < n
    · go_wp2_with (first
        | (go_at_call 11; refine (next_any _ _ _ hinv.tape (by omega) (by omega)).mono ?_; rintro e w' ⟨x, rfl, hx0, hx1, ht', hk'⟩; replace hinv := hinv.next ht' hk')
        | (at_builtin; refine wpList_append_own _ rfl _ _ 23 rfl w.heap.size 5 i0 (.int .u8 0) 1 1 Try.underlying23 hi hz0 hz1 hz2 rfl (by decide) _ _ _ (by exact rfl) (hinv.own.alloc _) _ 1 1 _ rfl rfl (cell_one_new _ _ _) ?_ (by unfold maxLen; omega) (by omega) ?_ ?_; (intro u hu; simp at hu; subst hu; rfl); (have := hinv.keep.size; simp; omega); intro v' w1 hown' hgrow _))
      all_goals
        go_roundw
        case rel => exact ⟨k + 1, _, by omega, by go_num, hinv.grow hown' hgrow (isByte_snoc hinv.vals (by first | exact isByte_of _ (by omega) (by omega) | exact ⟨_, rfl⟩))⟩
        case measure => simp [intOf]; omega
    · go_wp2
      go_ret
      obtain rfl : n = k := by omega
      exact ⟨_, _, rfl, hinv⟩
/-- What a call that reads the tape leaves: its block, and new ones, may have turned. -/
abbrev TapeKeep (w w' : World) (tb : Nat) : Prop := Keep (fun b => b = tb ∨ w.heap.size ≤ b) w w'

def BytesOut (w : World) (tb n : Nat) (e : Ending) (w' : World) : Prop :=
  ∃ A c, ∃ l : List UInt8, e = .returned (.slice A l.length c) ∧ l.length = n ∧ (l.length ≤ c ∧ c ≤ maxLen) ∧ Bts (fun b => b < w.heap.size) w' A l ∧ TapeOK 27 w' tb ∧ TapeKeep w w' tb

theorem bytes_out (w : World) (tb : Nat) (n : Int) (h : TapeOK 27 w tb) (h0 : 0 ≤ n) (h1 : n ≤ 65536) (htb : tb < w.heap.size) :
    Calls Try.prog 10 #[.pointer (some ⟨tb, 0, none⟩), .int .i64 n] w (BytesOut w tb n.toNat) := by
  refine (bytes_any w tb n h h0 h1 htb).mono ?_
  rintro e w' ⟨v, vs, rfl, hm⟩
  obtain ⟨l, rfl⟩ := bytes_of_vals vs hm.vals
  have hl : l.length = n.toNat := by have := hm.own.1; simpa using this
  obtain ⟨A, c, rfl, hc, hcm, _⟩ := own_form hm.own
  refine ⟨A, c, l, by rw [hl], hl, ⟨by omega, hcm⟩, ?_, hm.tape, hm.keep⟩
  exact Cells.of_own hm.own fun k h1 _ h3 => by omega
end Go.Proofs.Ytohgjljcdnjajaa
