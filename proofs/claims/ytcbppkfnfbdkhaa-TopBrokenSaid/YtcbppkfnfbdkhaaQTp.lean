/- The tape of numbers, as one of many. -/
import Derived.Test.YtcbppkfnfbdkhaaLb3
set_option linter.all false
set_option maxRecDepth 20000
set_option maxHeartbeats 800000
namespace Go.Proofs.Ytcbppkfnfbdkhaa
open Go.RowKit Go.Shelf
theorem and_ffff (x : Int) : 0 ≤ bits .and .i64 x 65535 ∧ bits .and .i64 x 65535 ≤ 65535 := by
  have h0 : bits .and .i64 x 65535 = IntKind.i64.wrap ((BitVec.ofInt 64 x &&& BitVec.ofInt 64 65535).toNat : Int) := rfl
  have h1 : (BitVec.ofInt 64 x &&& BitVec.ofInt 64 65535).toNat ≤ 65535 := by
    rw [BitVec.toNat_and]
    exact Nat.le_trans Nat.and_le_right (by decide)
  rw [h0, Go.IntWalk.i64_in _ (by omega)]
  omega
theorem TapeR.step {T : TypeId} {tl : Option Addr × Nat × Nat × (Nat → Int)} {Rd : Nat → Nat → Prop} {w : World} {tb k m : Nat} (hb : Blk w tb T #[.slice tl.1 tl.2.1 tl.2.2.1, .int .i64 (k : Int)]) (hn : tl.2.1 ≤ 9223372036854775807)
    (hz : ∀ i, i < tl.2.1 → ∃ b o, tl.1 = some ⟨b, o, none⟩ ∧ Rd b (o + i) ∧ w.cell? ⟨b, o + i, none⟩ = some (.int .i64 (tl.2.2.2 i))) (hne : ∀ b o, Rd b o → b ≠ tb) (hk : k < tl.2.1) :
    TapeR T tl Rd ((w.drewN m).setCell ⟨tb, 1, none⟩ (.int .i64 ((k : Int) + 1))) tb := by
  refine ⟨⟨k + 1, ?_, by omega⟩, hn, fun i hi => ?_⟩
  · have := (hb.drewN m).set_ 1 (.int .i64 ((k : Int) + 1))
    simpa using this
  · obtain ⟨b, o, e, hr, hc⟩ := hz i hi
    refine ⟨b, o, e, hr, ?_⟩
    rw [World.cell?_setCell_other _ _ _ _ (fun e => by have := congrArg Addr.block e; simp at this; exact hne b _ hr this.symm)]
    exact hc
theorem next_r (w : World) (tb : Nat) (m : Int) (A : Option Addr) (n c : Nat) (zs : Nat → Int) (Rd : Nat → Nat → Prop) (h : TapeR 25 (A, n, c, zs) Rd w tb) (hne : ∀ b o, Rd b o → b ≠ tb) (h1 : 1 ≤ m) (h2 : m ≤ 65536) :
    Calls Try.prog 11 #[.pointer (some ⟨tb, 0, none⟩), .int .i64 m] w fun e w' => ∃ x : Int, e = .returned (.int .i64 x) ∧ 0 ≤ x ∧ x < m ∧ TapeR 25 (A, n, c, zs) Rd w' tb ∧ Keep (fun k => k = tb) w w' := by
  obtain ⟨⟨k, hb, hk⟩, hn, hz⟩ := h
  simp only at hb hk hn hz
  have HB := hid hb
  have c0 := hb.cell 0
  have c1 := hb.cell 1
  have f1 := hb.frozen 1
  simp at c0 c1
  clear hb
  by_cases hlt : k < n
  · obtain ⟨b, o, rfl, hr, hc⟩ := hz k hlt
    have HZ := hid hz
    have HN := hid hne
    clear hz hne
    obtain ⟨g0, g1⟩ := and_ffff (zs k)
    go_enter Try.func11, Try.ntmps11
    go_wp2
    go_quiet (fail)
    go_wp2
    go_quiet (fail)
    go_wp2
    go_ret
    exact ⟨bits BinOp.and IntKind.i64 (zs k) 65535 % m, rfl, Int.emod_nonneg _ (by omega), Int.emod_lt_of_pos _ (by omega), TapeR.step HB.out hn HZ.out HN.out hlt, ((Keep.refl (fun k => k = tb) w).drewN _).setCell (p := ⟨tb, 1, none⟩) rfl _⟩
  · go_enter Try.func11, Try.ntmps11
    go_wp2
    go_quiet (fail)
    go_wp2
    go_ret
    exact ⟨0, rfl, by omega, by omega, ⟨⟨k, HB.out, hk⟩, hn, hz⟩, (Keep.refl _ _).drewN _⟩
theorem next_ic (m : Int) (h1 : 1 ≤ m) (h2 : m ≤ 65536) : ICt 11 [.one .tape, iv m] (fun v => ∃ x : Int, 0 ≤ x ∧ x < m ∧ v = iv x) := by
  refine ⟨enters_of Try.func11 rfl rfl, fun g w vals hβ hgi hsz hrep => ?_⟩
  obtain ⟨l⟩ := vals
  match l, hsz with
  | [a, b], _ =>
    have w0 := hrep 0 a _ rfl rfl
    have w1 := hrep 1 b _ rfl rfl
    obtain ⟨tb, htb, rfl⟩ : ∃ tb, g.tp = some tb ∧ a = .pointer (some ⟨tb, 0, none⟩) := by
      cases w0 with | one h => cases h with | tape h => exact ⟨_, h, rfl⟩
    obtain rfl : b = .int .i64 m := by
      cases w1 with | one h => cases h with | d h => cases h; rfl
    obtain ⟨hlt, htr⟩ := hgi.tape tb htb
    have hne : ∀ b o, g.Rd b o → b ≠ tb := fun b o hr e => (hgi.rd b o hr).2.1 (by rw [htb, e])
    obtain ⟨⟨A, n, c, zs⟩, htl⟩ : ∃ q, q = g.tl := ⟨_, rfl⟩
    refine (next_r w tb m A n c zs g.Rd (by rw [htl]; exact htr) hne h1 h2).mono fun e w' ⟨x, e1, e2, e3, e4, e5⟩ => ?_
    refine ⟨_, iv x, g, ⟨x, e2, e3, rfl⟩, rfl, e1, ?_, ⟨fun _ _ h => h, fun _ _ h => .inl h, e5.mono fun k hk => .inl (by rw [htb, hk]), fun tb' h' => ?_⟩⟩
    · exact .one (.d (.int .i64 x (by simp [Lit.wf, IntKind.min, IntKind.max, IntKind.bits, IntKind.signed]; omega)))
    · rw [htb] at h'; cases h'; rw [← htl]; exact e4
theorem between_ic (a b : Int) (h1 : a ≤ b) (h2 : b - a < 65536) (ha : -65536 ≤ a) (hb : b ≤ 65536) : ICt 22 [.one .tape, iv a, iv b] (fun v => ∃ x : Int, a ≤ x ∧ x ≤ b ∧ v = iv x) := by
  refine ic_wk (K 15) Try.func22 rfl rfl rfl rfl (fun w0 => ?_)
  repeat' (first
    | ((with_reducible apply c_l1); exact rfl; exact rfl)
    | ((with_reducible apply c_l2); exact rfl; exact rfl)
    | ((with_reducible apply c_l3); exact rfl)
    | (with_reducible (first | apply c_seq | apply c_rg | apply j_nil | apply q_n | apply c_bl | apply c_ex | apply c_ret | apply c_sk | apply q_r | apply q_e | apply b_r | apply b_e | apply b_n | apply n_n | apply n_r | apply n_e))
    | ((with_reducible apply j_v); exact rfl; exact rfl)
    | ((with_reducible apply j_add); exact rfl; exact rfl; exact rfl; exact Go.IntWalk.i64_in _ (by omega))
    | ((with_reducible apply j_sub); exact rfl; exact rfl; exact rfl; exact Go.IntWalk.i64_in _ (by omega))
    | ((with_reducible apply b_o); exact rfl)
    | ((with_reducible apply r_g); exact rfl; (· repeat' (first | exact True.intro | refine And.intro ?_ ?_ | (first | exact rfl | exact (List.length_map _).symm | omega | (simp only [List.length_set, List.length_map, List.length_append] <;> omega) | (simp; done)))))
    | ((with_reducible apply j_callp (pu := false)); exact rfl; exact next_ic (b - a + 1) (by omega) (by omega); (focus ((repeat' (first | exact .nil _ | refine PsL.cons ?_ ?_ | refine PsSL.cons ?_ ?_ | exact .one (.d _ _) | exact .one (.nil _) | exact .one (.tape _) | exact .one (.fn _ _) | exact .agg (.same _ _) | refine .agg ?_ | exact .d _ _ | exact .one (.sl rfl rfl) | exact .sl rfl rfl | exact .same _ _)) <;> fail)); exact .inr (by rintro _ ⟨x, hx0, hx1, rfl⟩; rfl); rintro _ ⟨x, hx0, hx1, rfl⟩)
    | (with_reducible rfl)
    | ((with_reducible apply j_gs); exact rfl; exact rfl; all_goals intro hg)
    | ((with_reducible apply c_if); exact rfl; all_goals intro hc))
  exact ⟨a + x, by omega, by omega, rfl⟩
theorem next_nd (m : Int) : ICp (1 ≤ m ∧ m ≤ 65536) 11 [.one .tape, iv m] (ND (fun x : Int => 0 ≤ x ∧ x < m) iv) :=
  fun h => (next_ic m h.1 h.2).mono fun v ⟨x, h1, h2, e⟩ => ⟨x, ⟨h1, h2⟩, e⟩
theorem between_nd (a b : Int) : ICp (a ≤ b ∧ b - a < 65536 ∧ -65536 ≤ a ∧ b ≤ 65536) 22 [.one .tape, iv a, iv b] (ND (fun x : Int => a ≤ x ∧ x ≤ b) iv) :=
  fun h => (between_ic a b h.1 h.2.1 h.2.2.1 h.2.2.2).mono fun v ⟨x, h1, h2, e⟩ => ⟨x, ⟨h1, h2⟩, e⟩
end Go.Proofs.Ytcbppkfnfbdkhaa
