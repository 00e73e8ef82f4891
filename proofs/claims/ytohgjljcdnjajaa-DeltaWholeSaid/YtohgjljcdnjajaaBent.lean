/- The contracts of the law's helpers. -/
import Derived.Test.YtohgjljcdnjajaaMakers
namespace Go.Proofs.Ytohgjljcdnjajaa
open Go.RowKit Go.Shelf

def BentOut (w : World) (tb : Nat) (e : Ending) (w' : World) : Prop :=
  ∃ A c rs, e = .returned (.slice A rs.length c) ∧ (rs.length ≤ c ∧ c ≤ maxLen) ∧ rs.length ≤ 6 ∧ OpsAt (fun b => b = tb) w' A rs ∧ TapeOK 27 w' tb ∧ TapeKeep w w' tb

theorem ops_one (rs : List OpR) : ∀ u ∈ rs.flatMap OpR.cells, u.oneCell' = true := by
  intro u hu
  obtain ⟨r, _, hr⟩ := List.mem_flatMap.1 hu
  simp [OpR.cells] at hr
  rcases hr with rfl | rfl | rfl <;> rfl

theorem bent_close {w wz : World} {tb : Nat} {v' : Value} {rs : List OpR} {n : Nat} {ys : List Value} (hown : wz.ownsRow w.heap.size 42 3 v' (rs.length + 1) (rs.flatMap OpR.cells ++ ys)) (hok : ∀ r ∈ rs, r.Ok (fun b => b = tb) wz) (r : OpR) (hy : ys = r.cells) (hr : r.Ok (fun b => b = tb) wz)
    (hn : rs.length ≤ n) (hT : TapeOK 27 wz tb) (hK : TapeKeep w wz tb) (hn5 : n = 5 := by rfl) (htb : tb < w.heap.size := by assumption) : BentOut w tb (.returned v') wz := by
  subst hy hn5
  have e1 : rs.flatMap OpR.cells ++ r.cells = (rs ++ [r]).flatMap OpR.cells := by simp
  have e2 : rs.length + 1 = (rs ++ [r]).length := by simp
  rw [e1, e2] at hown
  obtain ⟨A, c, rfl, hc, hcm, _⟩ := own_form hown
  refine ⟨A, c, rs ++ [r], rfl, ⟨hc, hcm⟩, by simp; omega, ⟨Cells.of_own hown (fun k h1 _ h3 => by omega), fun x hx => ?_⟩, hT, hK⟩
  rcases List.mem_append.1 hx with hx | hx
  · exact hok x hx
  · simp at hx; rw [hx]; exact hr

theorem four_at (w : World) (t : TypeId) (z : Int) (h0 : 0 ≤ z) (h1 : z < 4) : ∃ q : Int, (w.alloc (.cells #[.int .i64 65536, .int .i64 65537, .int .i64 9223372036854775807, .int .i64 (-9223372036854775808)] t)).cell? ⟨w.heap.size, z.toNat, none⟩ = some (.int .i64 q) ∧ -9223372036854775808 ≤ q ∧ q ≤ 9223372036854775807 := by
  rw [(Blk.new w t _).cell z.toNat]
  rcases (show z = 0 ∨ z = 1 ∨ z = 2 ∨ z = 3 by omega) with rfl | rfl | rfl | rfl
  · exact ⟨65536, rfl, by omega, by omega⟩
  · exact ⟨65537, rfl, by omega, by omega⟩
  · exact ⟨9223372036854775807, rfl, by omega, by omega⟩
  · exact ⟨-9223372036854775808, rfl, by omega, by omega⟩

set_option maxHeartbeats 2000000 in
theorem bent_any (w : World) (tb : Nat) (A : Option Addr) (rs : List OpR) (c : Nat) (h : OpsAt (fun b => b = tb) w A rs) (hn : rs.length ≤ 5) (ht : TapeOK 27 w tb) (htb : tb < w.heap.size) :
    Calls Try.prog 13 #[.pointer (some ⟨tb, 0, none⟩), .slice A rs.length c] w (BentOut w tb) := by
  obtain ⟨i0, hi, hz0, hz1, hz2⟩ := info_parts Try.info42
  have kc := fun (w : World) (C : Array Value) (n c : Nat) => Lib.run_convert_bytes_const (P := Try.prog) w 23 5 C n c Try.underlying23 Try.underlying5
  have hok : ∀ r ∈ rs, r.Ok (fun b => b = tb ∨ w.heap.size ≤ b) w := fun r hr => Ok.other (h.ok r hr) (fun k h1 h2 => by rcases h2 with h2 | h2 <;> omega)
  have hcl := h.cells
  have hlen := flat_len OpR.cells 3 OpR.cells_len rs
  have HLEN := hid hlen
  clear hlen h
  go_enter Try.func13, Try.ntmps13
  go_wp2_with (at_builtin; refine wpList_append_any _ rfl _ _ _ rfl w.heap.size 42 i0 _ 3 40 Try.underlying24 hi hz0 hz1 hz2 (by rfl) (by omega) (.slice (some ⟨w.heap.size, 0, none⟩) 0 0) 0 [] rfl (World.ownsRow_lit w #[] 0 (Nat.le_refl _) (by simp) rfl) (fun b => b = tb) A rs.length c _ rfl (Cells.alloc hcl _) HLEN.out (ops_one rs) (by unfold maxLen; omega) (by omega) (by simp) ?_; intro v w1 hown hg hat)
  have hk1 : Keep (fun b => w.heap.size ≤ b) w w1 := ((Keep.refl _ w).alloc (Nat.le_refl _) _).grown hg (fun k hk => by simp at hk; omega) (fun k hk => by simp [Value.ownBlock] at hk; omega)
  have ht1 : TapeOK 27 w1 tb := ht.keep hk1 (fun k h1 h2 => by omega)
  have hs1 : w.heap.size ≤ w1.heap.size := hk1.size
  rw [Nat.zero_add, List.nil_append] at hown
  clear hg hat hcl ht
  have K1 : TapeKeep w w1 tb := hk1.mono (fun k h => .inr h)
  clear hk1
  refine (between_any _ _ _ _ ht1 (by omega) (by omega) (by omega) (by omega)).mono ?_
  rintro e w2 ⟨a, rfl, ha0, ha1, ht2, hk2⟩
  have hs2 := hk2.size
  have K2 : TapeKeep w w2 tb := K1.trans (hk2.mono fun k h => .inl h)
  have own2 := ownsRow_keep hown hk2 (fun k h1 _ h3 => by omega)
  clear K1 ht1 hown hk2
  go_wp2_with fail
  refine (between_any _ _ _ _ ht2 (by omega) (by omega) (by omega) (by omega)).mono ?_
  rintro e w3 ⟨b, rfl, hb0, hb1, ht3, hk3⟩
  have hs3 := hk3.size
  have K3 : TapeKeep w w3 tb := K2.trans (hk3.mono fun k h => .inl h)
  have own3 := ownsRow_keep own2 hk3 (fun k h1 _ h3 => by omega)
  clear K2 ht2 own2 hk3
  go_wp2_with fail
  obtain ⟨w4, hw4⟩ : ∃ w4, w3.alloc (.cells #[.int .i64 a, .int .i64 b, .slice none 0 0] 42) = w4 := ⟨_, rfl⟩
  rw [hw4]
  have hx4 : Blk w4 w3.heap.size 42 #[.int .i64 a, .int .i64 b, .slice none 0 0] := by rw [← hw4]; exact Blk.new _ _ _
  have K4 : TapeKeep w w4 tb := by rw [← hw4]; exact K3.alloc (.inr (by omega)) _
  have ht4 : TapeOK 27 w4 tb := by rw [← hw4]; exact ht3.keep ((Keep.refl (fun b => w3.heap.size ≤ b) w3).alloc (Nat.le_refl _) _) (fun k h1 h2 => by omega)
  have own4 : w4.ownsRow w.heap.size 42 3 v rs.length (rs.flatMap OpR.cells) := by rw [← hw4]; exact own3.alloc _
  have hs4 : w4.heap.size = w3.heap.size + 1 := by rw [← hw4]; simp
  have hbx : tb ≠ w3.heap.size := by omega
  have hbx2 : w.heap.size ≤ w3.heap.size := by omega
  have hne : Value.ownBlock v ≠ some w3.heap.size := fun e => absurd (own3.lt _ e).2 (by omega)
  clear hw4 own3 ht3 K3
  refine (next_any _ _ _ ht4 (by omega) (by omega)).mono ?_
  rintro e w5 ⟨y, rfl, hy0, hy1, ht5, hk5⟩
  have hs5 := hk5.size
  have hx5 := hx4.keep hk5 (fun e => hbx e.symm)
  have K5 : TapeKeep w w5 tb := K4.trans (hk5.mono fun k h => .inl h)
  have own5 := ownsRow_keep own4 hk5 (fun k h1 _ h3 => by omega)
  clear K4 own4 hk5 ht4 hx4
  have c50 := hx5.cell 0
  have c51 := hx5.cell 1
  have c52 := hx5.cell 2
  have f52 := hx5.frozen 2
  simp at c50 c51 c52
  by_cases hy : y = 0
  · subst hy
    have d52 := cell_new c52
    have g52 := fun o => (hx5.alloc o).frozen 2
    go_wp2_with fail
    have okd6 : Bts (fun b => b = tb ∨ b = w3.heap.size ∨ v.ownBlock = some b) ((w5.alloc (.cells #[.int .u8 122] 5 (1, 2))).setCell ⟨w3.heap.size, 2, none⟩ (.slice (some ⟨w5.heap.size, 0, none⟩) 1 1)) (some ⟨w5.heap.size, 0, none⟩) [122] := by
      intro j u hj
      match j, hj with
      | 0, hj =>
        simp at hj
        refine ⟨_, rfl, ?_, ?_⟩
        · rintro (h | h | h)
          · simp at h; omega
          · simp at h; omega
          · have := (own5.lt _ h).2; simp at this
        · rw [World.cell?_setCell_other _ _ _ _ (fun e => by have := congrArg Addr.block e; simp [Addr.add] at this; omega), Addr.add_lit, World.cell?_alloc_mark, ← hj]
          rfl
    obtain ⟨w6, hw6⟩ : ∃ w6, (w5.alloc (.cells #[.int .u8 122] 5 (1, 2))).setCell ⟨w3.heap.size, 2, none⟩ (.slice (some ⟨w5.heap.size, 0, none⟩) 1 1) = w6 := ⟨_, rfl⟩
    have hk56 : Keep (fun b => b = w3.heap.size ∨ w5.heap.size ≤ b) w5 w6 := by rw [← hw6]; exact ((Keep.refl _ w5).alloc (.inr (Nat.le_refl _)) _).setCell (p := ⟨w3.heap.size, 2, none⟩) (.inl rfl) _
    have hx6 : Blk w6 w3.heap.size 42 #[.int .i64 a, .int .i64 b, .slice (some ⟨w5.heap.size, 0, none⟩) 1 1] := by rw [← hw6]; exact (hx5.alloc _).set_ 2 _
    have K6 : TapeKeep w w6 tb := K5.trans (hk56.mono fun k h => .inr (by rcases h with h | h <;> omega))
    have own6 := ownsRow_at own5 hk56 (fun k h1 h2 => by rcases h2 with h2 | h2; exact hne (by rw [h1, h2]); have := (own5.lt k h1).2; omega)
    have ht6 : TapeOK 27 w6 tb := ht5.keep hk56 (fun k h1 h2 => by rcases h2 with h2 | h2 <;> omega)
    have hs6 := hk56.size
    have hs36 : w3.heap.size < w6.heap.size := by omega
    rw [hw6] at okd6 ⊢
    obtain ⟨AD, hAD⟩ : ∃ AD, some (⟨w5.heap.size, 0, none⟩ : Addr) = AD := ⟨_, rfl⟩
    obtain ⟨lD, hlD⟩ : ∃ lD : List UInt8, [122] = lD := ⟨_, rfl⟩
    rw [hAD, hlD] at okd6
    rw [hAD] at hx6
    have hll : lD.length = 1 := by rw [← hlD]; rfl
    clear hw6 hAD hlD hk56 K5 own5 ht5 hx5 c50 c51 c52 f52 d52 g52
    refine (next_any _ _ _ ht6 (by omega) (by omega)).mono ?_
    rintro e w7 ⟨z, rfl, hz0', hz1', ht7, hk7⟩
    have hs7 := hk7.size
    have hx7 := hx6.keep hk7 (fun e => hbx e.symm)
    have K7 : TapeKeep w w7 tb := K6.trans (hk7.mono fun k h => .inl h)
    have own7 := ownsRow_keep own6 hk7 (fun k h1 _ h3 => by omega)
    have okd7 : Bts (fun b => b = tb ∨ b = w3.heap.size ∨ v.ownBlock = some b) w7 AD lD := okd6.keep hk7 (fun k _ h => .inl h)
    clear K6 own6 hk7 ht6 hx6 okd6
    have c70 := hx7.cell 0
    have c71 := hx7.cell 1
    have c72 := hx7.cell 2
    have f71 := hx7.frozen 1
    simp at c70 c71 c72
    by_cases hz : z = 0
    · subst hz
      go_wp2_with fail
      obtain ⟨w8, hw8⟩ : ∃ w8, w7.alloc (.cells #[.int .i64 65536, .int .i64 65537, .int .i64 9223372036854775807, .int .i64 (-9223372036854775808)] 3) = w8 := ⟨_, rfl⟩
      have hfour := fun (q : Int) h0 h1 => four_at w7 3 q h0 h1
      rw [hw8] at hfour ⊢
      have hk78 : Keep (fun b => w7.heap.size ≤ b) w7 w8 := by rw [← hw8]; exact (Keep.refl _ w7).alloc (Nat.le_refl _) _
      have hs8 : w8.heap.size = w7.heap.size + 1 := by rw [← hw8]; simp
      have hx8 := hx7.keep hk78 (by omega)
      have K8 : TapeKeep w w8 tb := K7.trans (hk78.mono fun k h => .inr (by omega))
      have own8 := ownsRow_keep own7 hk78 (fun k h1 h2 h3 => by omega)
      have okd8 : Bts (fun b => b = tb ∨ b = w3.heap.size ∨ v.ownBlock = some b) w8 AD lD := okd7.keep hk78 (fun k h1 h2 => by omega)
      have ht8 : TapeOK 27 w8 tb := ht7.keep hk78 (fun k h1 h2 => by omega)
      clear hw8 K7 own7 ht7 hx7 okd7 hk78
      refine (next_any _ _ _ ht8 (by omega) (by omega)).mono ?_
      rintro e w9 ⟨q, rfl, hq0, hq1, ht9, hk9⟩
      obtain ⟨m, hm, hm0, hm1⟩ := hfour q hq0 hq1
      have hm9 : w9.cell? ⟨w7.heap.size, q.toNat, none⟩ = some (.int .i64 m) := (hk9.cell (p := ⟨w7.heap.size, q.toNat, none⟩) (fun e => by simp at e; omega)).trans hm
      have hs9 := hk9.size
      have hx9 := hx8.keep hk9 (fun e => hbx e.symm)
      have K9 : TapeKeep w w9 tb := K8.trans (hk9.mono fun k h => .inl h)
      have own9 := ownsRow_keep own8 hk9 (fun k h1 _ h3 => by omega)
      have okd9 : Bts (fun b => b = tb ∨ b = w3.heap.size ∨ v.ownBlock = some b) w9 AD lD := okd8.keep hk9 (fun k _ h => .inl h)
      clear K8 own8 hk9 ht8 hx8 okd8 hfour hm
      have c90 := hx9.cell 0
      have c91 := hx9.cell 1
      have c92 := hx9.cell 2
      have f91 := hx9.frozen 1
      simp at c90 c91 c92
      obtain ⟨wa, hwa⟩ : ∃ wa, w9.setCell ⟨w3.heap.size, 1, none⟩ (.int .i64 m) = wa := ⟨_, rfl⟩
      have hka : Keep (fun b => b = w3.heap.size) w9 wa := by rw [← hwa]; exact (Keep.refl (fun b => b = w3.heap.size) w9).setCell (p := ⟨w3.heap.size, 1, none⟩) rfl _
      have hxa : Blk wa w3.heap.size 42 #[.int .i64 a, .int .i64 m, .slice AD 1 1] := by rw [← hwa]; exact hx9.set_ 1 _
      have owna := ownsRow_at own9 hka (fun k h1 h2 => hne (by rw [h1, h2]))
      have Ka : TapeKeep w wa tb := K9.trans (hka.mono fun k h => .inr (by omega))
      have okda : Bts (fun b => b = tb ∨ b = w3.heap.size ∨ v.ownBlock = some b) wa AD lD := okd9.keep hka (fun k h1 h2 => .inr (.inl h2))
      have hta : TapeOK 27 wa tb := ht9.keep hka (fun k h1 h2 => by omega)
      have hsa := hka.size
      have ca0 := hxa.cell 0
      have ca1 := hxa.cell 1
      have ca2 := hxa.cell 2
      simp at ca0 ca1 ca2
      clear hx9 K9 own9 okd9 ht9 hka hxa c70 c71 c72 f71
      go_wp2_with (at_builtin; refine wpList_append_any _ rfl _ _ _ rfl w.heap.size 42 i0 _ 3 40 Try.underlying24 hi hz0 hz1 hz2 (by rfl) (by omega) v rs.length _ (by exact rfl) (owna.alloc _) (fun _ => False) _ 1 1 _ rfl (Cells.new _ _ _) (by rfl) (by simp [Value.oneCell']) (by unfold maxLen; omega) (by omega) (by simp; omega) ?_; intro v' wz hown' hg' hat')
      go_ret
      have hkz : Keep (fun b => v.ownBlock = some b ∨ wa.heap.size ≤ b) wa wz := ((Keep.refl _ wa).alloc (.inr (Nat.le_refl _)) _).grown hg' (fun k hk => .inr (by simp at hk; omega)) (fun k hk => .inl hk)
      have hlt := owna.lt
      have okz : Bts (fun b => b = tb ∨ b = w3.heap.size ∨ v.ownBlock = some b) wz AD lD := okda.keep hkz (fun k h1 h2 => by rcases h2 with h2 | h2; exact .inr (.inr h2); omega)
      have Kz : TapeKeep w wz tb := Ka.trans (hkz.mono fun k h => .inr (by rcases h with h | h; exact (hlt k h).1; omega))
      exact bent_close hown' (fun r hr => Ok.other (Ok.keep (hok r hr) Kz (fun k h1 h2 => h2)) (fun k h1 h2 => .inl h2)) ⟨a, m, AD, lD, 1⟩ (by simp [OpR.cells, hll]) ⟨okz.mono (fun k h => .inl h), by simp only; omega, by unfold maxLen; simp, by simp only; omega, by simp only; omega⟩ hn (hta.keep hkz (fun k h1 h2 => by rcases h2 with h2 | h2; have := (hlt k h2).1; omega; omega)) Kz
    · clear hx7
      go_wp2_with (at_builtin; refine wpList_append_any _ rfl _ _ _ rfl w.heap.size 42 i0 _ 3 40 Try.underlying24 hi hz0 hz1 hz2 (by rfl) (by omega) v rs.length _ (by exact rfl) (own7.alloc _) (fun _ => False) _ 1 1 _ rfl (Cells.new _ _ _) (by rfl) (by simp [Value.oneCell']) (by unfold maxLen; omega) (by omega) (by simp; omega) ?_; intro v' wz hown' hg' hat')
      go_ret
      have hkz : Keep (fun b => v.ownBlock = some b ∨ w7.heap.size ≤ b) w7 wz := ((Keep.refl _ w7).alloc (.inr (Nat.le_refl _)) _).grown hg' (fun k hk => .inr (by simp at hk; omega)) (fun k hk => .inl hk)
      have hlt := own7.lt
      have okz : Bts (fun b => b = tb ∨ b = w3.heap.size ∨ v.ownBlock = some b) wz AD lD := okd7.keep hkz (fun k h1 h2 => by rcases h2 with h2 | h2; exact .inr (.inr h2); omega)
      have Kz : TapeKeep w wz tb := K7.trans (hkz.mono fun k h => .inr (by rcases h with h | h; exact (hlt k h).1; omega))
      exact bent_close hown' (fun r hr => Ok.other (Ok.keep (hok r hr) Kz (fun k h1 h2 => h2)) (fun k h1 h2 => .inl h2)) ⟨a, b, AD, lD, 1⟩ (by simp [OpR.cells, hll]) ⟨okz.mono (fun k h => .inl h), by simp only; omega, by unfold maxLen; simp, by simp only; omega, by simp only; omega⟩ hn (ht7.keep hkz (fun k h1 h2 => by rcases h2 with h2 | h2; have := (hlt k h2).1; omega; omega)) Kz

  · have okd6 : Bts (fun b => b = tb ∨ b = w3.heap.size ∨ v.ownBlock = some b) w5 none [] := Cells.nil _ _ _
    have hy' : (y == 0) = false := by simpa using hy
    go_wp2_with fail
    have hll : ([] : List UInt8).length = 0 := rfl
    refine (next_any _ _ _ ht5 (by omega) (by omega)).mono ?_
    rintro e w7 ⟨z, rfl, hz0', hz1', ht7, hk7⟩
    have hs7 := hk7.size
    have hx7 := hx5.keep hk7 (fun e => hbx e.symm)
    have K7 : TapeKeep w w7 tb := K5.trans (hk7.mono fun k h => .inl h)
    have own7 := ownsRow_keep own5 hk7 (fun k h1 _ h3 => by omega)
    have okd7 : Bts (fun b => b = tb ∨ b = w3.heap.size ∨ v.ownBlock = some b) w7 none [] := okd6.keep hk7 (fun k _ h => .inl h)
    clear K5 own5 hk7 ht5 hx5 okd6
    have c70 := hx7.cell 0
    have c71 := hx7.cell 1
    have c72 := hx7.cell 2
    have f71 := hx7.frozen 1
    simp at c70 c71 c72
    by_cases hz : z = 0
    · subst hz
      go_wp2_with fail
      obtain ⟨w8, hw8⟩ : ∃ w8, w7.alloc (.cells #[.int .i64 65536, .int .i64 65537, .int .i64 9223372036854775807, .int .i64 (-9223372036854775808)] 3) = w8 := ⟨_, rfl⟩
      have hfour := fun (q : Int) h0 h1 => four_at w7 3 q h0 h1
      rw [hw8] at hfour ⊢
      have hk78 : Keep (fun b => w7.heap.size ≤ b) w7 w8 := by rw [← hw8]; exact (Keep.refl _ w7).alloc (Nat.le_refl _) _
      have hs8 : w8.heap.size = w7.heap.size + 1 := by rw [← hw8]; simp
      have hx8 := hx7.keep hk78 (by omega)
      have K8 : TapeKeep w w8 tb := K7.trans (hk78.mono fun k h => .inr (by omega))
      have own8 := ownsRow_keep own7 hk78 (fun k h1 h2 h3 => by omega)
      have okd8 : Bts (fun b => b = tb ∨ b = w3.heap.size ∨ v.ownBlock = some b) w8 none [] := okd7.keep hk78 (fun k h1 h2 => by omega)
      have ht8 : TapeOK 27 w8 tb := ht7.keep hk78 (fun k h1 h2 => by omega)
      clear hw8 K7 own7 ht7 hx7 okd7 hk78
      refine (next_any _ _ _ ht8 (by omega) (by omega)).mono ?_
      rintro e w9 ⟨q, rfl, hq0, hq1, ht9, hk9⟩
      obtain ⟨m, hm, hm0, hm1⟩ := hfour q hq0 hq1
      have hm9 : w9.cell? ⟨w7.heap.size, q.toNat, none⟩ = some (.int .i64 m) := (hk9.cell (p := ⟨w7.heap.size, q.toNat, none⟩) (fun e => by simp at e; omega)).trans hm
      have hs9 := hk9.size
      have hx9 := hx8.keep hk9 (fun e => hbx e.symm)
      have K9 : TapeKeep w w9 tb := K8.trans (hk9.mono fun k h => .inl h)
      have own9 := ownsRow_keep own8 hk9 (fun k h1 _ h3 => by omega)
      have okd9 : Bts (fun b => b = tb ∨ b = w3.heap.size ∨ v.ownBlock = some b) w9 none [] := okd8.keep hk9 (fun k _ h => .inl h)
      clear K8 own8 hk9 ht8 hx8 okd8 hfour hm
      have c90 := hx9.cell 0
      have c91 := hx9.cell 1
      have c92 := hx9.cell 2
      have f91 := hx9.frozen 1
      simp at c90 c91 c92
      obtain ⟨wa, hwa⟩ : ∃ wa, w9.setCell ⟨w3.heap.size, 1, none⟩ (.int .i64 m) = wa := ⟨_, rfl⟩
      have hka : Keep (fun b => b = w3.heap.size) w9 wa := by rw [← hwa]; exact (Keep.refl (fun b => b = w3.heap.size) w9).setCell (p := ⟨w3.heap.size, 1, none⟩) rfl _
      have hxa : Blk wa w3.heap.size 42 #[.int .i64 a, .int .i64 m, .slice none 0 0] := by rw [← hwa]; exact hx9.set_ 1 _
      have owna := ownsRow_at own9 hka (fun k h1 h2 => hne (by rw [h1, h2]))
      have Ka : TapeKeep w wa tb := K9.trans (hka.mono fun k h => .inr (by omega))
      have okda : Bts (fun b => b = tb ∨ b = w3.heap.size ∨ v.ownBlock = some b) wa none [] := okd9.keep hka (fun k h1 h2 => .inr (.inl h2))
      have hta : TapeOK 27 wa tb := ht9.keep hka (fun k h1 h2 => by omega)
      have hsa := hka.size
      have ca0 := hxa.cell 0
      have ca1 := hxa.cell 1
      have ca2 := hxa.cell 2
      simp at ca0 ca1 ca2
      clear hx9 K9 own9 okd9 ht9 hka hxa c70 c71 c72 f71
      go_wp2_with (at_builtin; refine wpList_append_any _ rfl _ _ _ rfl w.heap.size 42 i0 _ 3 40 Try.underlying24 hi hz0 hz1 hz2 (by rfl) (by omega) v rs.length _ (by exact rfl) (owna.alloc _) (fun _ => False) _ 1 1 _ rfl (Cells.new _ _ _) (by rfl) (by simp [Value.oneCell']) (by unfold maxLen; omega) (by omega) (by simp; omega) ?_; intro v' wz hown' hg' hat')
      go_ret
      have hkz : Keep (fun b => v.ownBlock = some b ∨ wa.heap.size ≤ b) wa wz := ((Keep.refl _ wa).alloc (.inr (Nat.le_refl _)) _).grown hg' (fun k hk => .inr (by simp at hk; omega)) (fun k hk => .inl hk)
      have hlt := owna.lt
      have okz : Bts (fun b => b = tb ∨ b = w3.heap.size ∨ v.ownBlock = some b) wz none [] := okda.keep hkz (fun k h1 h2 => by rcases h2 with h2 | h2; exact .inr (.inr h2); omega)
      have Kz : TapeKeep w wz tb := Ka.trans (hkz.mono fun k h => .inr (by rcases h with h | h; exact (hlt k h).1; omega))
      exact bent_close hown' (fun r hr => Ok.other (Ok.keep (hok r hr) Kz (fun k h1 h2 => h2)) (fun k h1 h2 => .inl h2)) ⟨a, m, none, [], 0⟩ rfl ⟨okz.mono (fun k h => .inl h), by simp only; omega, by unfold maxLen; simp, by simp only; omega, by simp only; omega⟩ hn (hta.keep hkz (fun k h1 h2 => by rcases h2 with h2 | h2; have := (hlt k h2).1; omega; omega)) Kz
    · clear hx7
      go_wp2_with (at_builtin; refine wpList_append_any _ rfl _ _ _ rfl w.heap.size 42 i0 _ 3 40 Try.underlying24 hi hz0 hz1 hz2 (by rfl) (by omega) v rs.length _ (by exact rfl) (own7.alloc _) (fun _ => False) _ 1 1 _ rfl (Cells.new _ _ _) (by rfl) (by simp [Value.oneCell']) (by unfold maxLen; omega) (by omega) (by simp; omega) ?_; intro v' wz hown' hg' hat')
      go_ret
      have hkz : Keep (fun b => v.ownBlock = some b ∨ w7.heap.size ≤ b) w7 wz := ((Keep.refl _ w7).alloc (.inr (Nat.le_refl _)) _).grown hg' (fun k hk => .inr (by simp at hk; omega)) (fun k hk => .inl hk)
      have hlt := own7.lt
      have okz : Bts (fun b => b = tb ∨ b = w3.heap.size ∨ v.ownBlock = some b) wz none [] := okd7.keep hkz (fun k h1 h2 => by rcases h2 with h2 | h2; exact .inr (.inr h2); omega)
      have Kz : TapeKeep w wz tb := K7.trans (hkz.mono fun k h => .inr (by rcases h with h | h; exact (hlt k h).1; omega))
      exact bent_close hown' (fun r hr => Ok.other (Ok.keep (hok r hr) Kz (fun k h1 h2 => h2)) (fun k h1 h2 => .inl h2)) ⟨a, b, none, [], 0⟩ rfl ⟨okz.mono (fun k h => .inl h), by simp only; omega, by unfold maxLen; simp, by simp only; omega, by simp only; omega⟩ hn (ht7.keep hkz (fun k h1 h2 => by rcases h2 with h2 | h2; have := (hlt k h2).1; omega; omega)) Kz

end Go.Proofs.Ytohgjljcdnjajaa
