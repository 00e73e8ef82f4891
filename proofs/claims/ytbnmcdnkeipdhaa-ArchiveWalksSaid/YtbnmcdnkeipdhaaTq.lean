/- The tape of numbers, as one of many. -/
import Derived.Test.YtbnmcdnkeipdhaaLb3
set_option linter.all false
set_option maxRecDepth 20000
set_option maxHeartbeats 800000
namespace Go.Proofs.Ytbnmcdnkeipdhaa
open Go.RowKit Go.Shelf
theorem and_ffff (x : Int) : 0 ≤ bits .and .i64 x 65535 ∧ bits .and .i64 x 65535 ≤ 65535 := by
  have h0 : bits .and .i64 x 65535 = IntKind.i64.wrap ((BitVec.ofInt 64 x &&& BitVec.ofInt 64 65535).toNat : Int) := rfl
  have h1 : (BitVec.ofInt 64 x &&& BitVec.ofInt 64 65535).toNat ≤ 65535 := by
    rw [BitVec.toNat_and]
    exact Nat.le_trans Nat.and_le_right (by decide)
  rw [h0, Go.IntWalk.i64_in _ (by omega)]
  omega
theorem TapeR.step {T : TypeId} {tl : Option Addr × Nat × Nat × (Nat → Int)} {Rd : Nat → Nat → Prop} {w : World} {tb k m : Nat} (hb : Blk w tb T #[.slice tl.1 tl.2.1 tl.2.2.1, .int .i64 (k : Int)]) (hn : tl.2.1 ≤ 9223372036854775807)
    (hz : ∀ i, i < tl.2.1 → ∃ b o, tl.1 = some ⟨b, o, none⟩ ∧ Rd b (o + i) ∧ w.cell? ⟨b, o + i, none⟩ = some (.int .i64 (tl.2.2.2 i))) (hne : ∀ b o, Rd b o → b ≠ tb) (hk : k < tl.2.1) :
    TapeR T tl Rd ((w.drewN m).setCell ⟨tb, 1, none⟩ (.int .i64 ((k : Int) + 1))) tb := by
  refine ⟨⟨k + 1, ?_, by omega⟩, hn, fun i hi => ?_⟩
  · have := (hb.drewN m).set_ 1 (.int .i64 ((k : Int) + 1))
    simpa using this
  · obtain ⟨b, o, e, hr, hc⟩ := hz i hi
    refine ⟨b, o, e, hr, ?_⟩
    rw [World.cell?_setCell_other _ _ _ _ (fun e => by have := congrArg Addr.block e; simp at this; exact hne b _ hr this.symm)]
    exact hc
theorem next_r (w : World) (tb : Nat) (m : Int) (A : Option Addr) (n c : Nat) (zs : Nat → Int) (Rd : Nat → Nat → Prop) (h : TapeR 26 (A, n, c, zs) Rd w tb) (hne : ∀ b o, Rd b o → b ≠ tb) (h1 : 1 ≤ m) (h2 : m ≤ 65536) :
    Calls Try.prog 15 #[.pointer (some ⟨tb, 0, none⟩), .int .i64 m] w fun e w' => ∃ x : Int, e = .returned (.int .i64 x) ∧ 0 ≤ x ∧ x < m ∧ TapeR 26 (A, n, c, zs) Rd w' tb ∧ Keep (fun k => k = tb) w w' := by
  obtain ⟨⟨k, hb, hk⟩, hn, hz⟩ := h
  simp only at hb hk hn hz
  have HB := hid hb
  have c0 := hb.cell 0
  have c1 := hb.cell 1
  have f1 := hb.frozen 1
  simp at c0 c1
  clear hb
  by_cases hlt : k < n
  · obtain ⟨b, o, rfl, hr, hc⟩ := hz k hlt
    have HZ := hid hz
    have HN := hid hne
    clear hz hne
    obtain ⟨g0, g1⟩ := and_ffff (zs k)
    go_enter Try.func15, Try.ntmps15
    go_wp2
    go_quiet (fail)
    go_wp2
    go_quiet (fail)
    go_wp2
    go_ret
    exact ⟨bits BinOp.and IntKind.i64 (zs k) 65535 % m, rfl, Int.emod_nonneg _ (by omega), Int.emod_lt_of_pos _ (by omega), TapeR.step HB.out hn HZ.out HN.out hlt, ((Keep.refl (fun k => k = tb) w).drewN _).setCell (p := ⟨tb, 1, none⟩) rfl _⟩
  · go_enter Try.func15, Try.ntmps15
    go_wp2
    go_quiet (fail)
    go_wp2
    go_ret
    exact ⟨0, rfl, by omega, by omega, ⟨⟨k, HB.out, hk⟩, hn, hz⟩, (Keep.refl _ _).drewN _⟩
theorem next_ic (m : Int) (h1 : 1 ≤ m) (h2 : m ≤ 65536) : ICt 15 [.one .tape, iv m] (fun v => ∃ x : Int, 0 ≤ x ∧ x < m ∧ v = iv x) := by
  refine ⟨enters_of Try.func15 rfl rfl, fun g w vals hβ hgi hsz hrep => ?_⟩
  obtain ⟨l⟩ := vals
  match l, hsz with
  | [a, b], _ =>
    have w0 := hrep 0 a _ rfl rfl
    have w1 := hrep 1 b _ rfl rfl
    obtain ⟨tb, htb, rfl⟩ : ∃ tb, g.tp = some tb ∧ a = .pointer (some ⟨tb, 0, none⟩) := by
      cases w0 with | one h => cases h with | tape h => exact ⟨_, h, rfl⟩
    obtain rfl : b = .int .i64 m := by
      cases w1 with | one h => cases h with | d h => cases h; rfl
    obtain ⟨hlt, htr⟩ := hgi.tape tb htb
    have hne : ∀ b o, g.Rd b o → b ≠ tb := fun b o hr e => (hgi.rd b o hr).2.1 (by rw [htb, e])
    obtain ⟨⟨A, n, c, zs⟩, htl⟩ : ∃ q, q = g.tl := ⟨_, rfl⟩
    refine (next_r w tb m A n c zs g.Rd (by rw [htl]; exact htr) hne h1 h2).mono fun e w' ⟨x, e1, e2, e3, e4, e5⟩ => ?_
    refine ⟨_, iv x, g, ⟨x, e2, e3, rfl⟩, rfl, e1, ?_, ⟨fun _ _ h => h, fun _ _ h => .inl h, e5.mono fun k hk => .inl (by rw [htb, hk]), fun tb' h' => ?_⟩⟩
    · exact .one (.d (.int .i64 x (by simp [Lit.wf, IntKind.min, IntKind.max, IntKind.bits, IntKind.signed]; omega)))
    · rw [htb] at h'; cases h'; rw [← htl]; exact e4
theorem next_nd (m : Int) : ICp (1 ≤ m ∧ m ≤ 65536) 15 [.one .tape, iv m] (ND (fun x : Int => 0 ≤ x ∧ x < m) iv) :=
  fun h => (next_ic m h.1 h.2).mono fun v ⟨x, h1, h2, e⟩ => ⟨x, ⟨h1, h2⟩, e⟩
end Go.Proofs.Ytbnmcdnkeipdhaa
