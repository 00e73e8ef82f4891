/- The walk of the law on Apply. -/
import Derived.Test.YtohgjljcdnjajaaAwake
namespace Go.Proofs.Ytohgjljcdnjajaa
open Go.RowKit Go.Shelf

def BytesIn (w : World) (g j : Nat) : Prop := ∃ A c, ∃ l : List UInt8, w.cell? ⟨g, j, none⟩ = some (.slice A l.length c) ∧ l.length ≤ c ∧ c ≤ maxLen ∧ Bts (fun _ => False) w A l
def OpsIn (w : World) (g j : Nat) : Prop := ∃ A c rs, w.cell? ⟨g, j, none⟩ = some (.slice A rs.length c) ∧ rs.length ≤ c ∧ c ≤ maxLen ∧ OpsAt (fun _ => False) w A rs
theorem BytesIn.below {w w' : World} {g j : Nat} (h : BytesIn w g j) (hB : Below w.heap.size w w') : BytesIn w' g j := by
  obtain ⟨A, c, l, h1, h2, h3, h4⟩ := h
  exact ⟨A, c, l, cell_later hB h1, h2, h3, h4.below hB⟩
theorem OpsIn.below {w w' : World} {g j : Nat} (h : OpsIn w g j) (hB : Below w.heap.size w w') : OpsIn w' g j := by
  obtain ⟨A, c, l, h1, h2, h3, h4⟩ := h
  exact ⟨A, c, l, cell_later hB h1, h2, h3, h4.below hB⟩
structure Lists (w : World) (gb ga : Nat) : Prop where
  bases : ∀ j, j < 3 → BytesIn w gb j
  all : ∀ j, j < 4 → OpsIn w ga j
theorem Lists.below {w w' : World} {gb ga : Nat} (h : Lists w gb ga) (hB : Below w.heap.size w w') : Lists w' gb ga := ⟨fun j hj => (h.bases j hj).below hB, fun j hj => (h.all j hj).below hB⟩

set_option pp.deepTerms true in
set_option pp.maxSteps 10000000 in
set_option maxRecDepth 100000 in
set_option maxHeartbeats 4000000 in
theorem applies_walk (a0 : Option Addr) (len0 cap0 : Nat) (z0 : List Int) (A1 : Option Addr) (c1 : Nat) (l1 : List UInt8) (A2 : Option Addr) (c2 : Nat) (rs2 : List OpR) (w : World) (w0 : IsRow .i64 w a0 len0 cap0 z0)
    (h1 : Bts (fun b => w.heap.size ≤ b) w A1 l1) (h1c : l1.length ≤ c1) (h1m : c1 ≤ maxLen) (h2 : OpsAt (fun b => w.heap.size ≤ b) w A2 rs2) (h2c : rs2.length ≤ c2) (h2m : c2 ≤ maxLen) :
    Calls Try.prog 3 #[.slice a0 len0 cap0, .slice A1 l1.length c1, .slice A2 rs2.length c2] w fun e w' => e = .returned (.bool true) ∧ Below w.heap.size w w' := by
  have ht : TapeOK 27 (w.alloc (.cells #[.slice a0 len0 cap0, .int .i64 0] 27)) w.heap.size := w0.tape
  go_enter Try.func3, Try.ntmps3
  go_wp2_with fail
  refine (next_any _ _ _ ht (by omega) (by omega)).mono ?_
  rintro e w1 ⟨x, rfl, hx0, hx1, ht1, hk1⟩
  have hs1 : w.heap.size < w1.heap.size := by have := hk1.size; simp at this; omega
  have hE1 : Below w.heap.size w w1 := ((Below.refl _ _).alloc (Nat.le_refl _) _).trans (hk1.to_below (fun k hk => by omega))
  clear ht hk1
  go_wp2_with fail
  refine (bytes_out _ _ _ ht1 (by omega) (by omega) hs1).mono ?_
  rintro e w2 ⟨AO, cO, lO, rfl, hlO, hcO, hbO, ht2, hk2⟩
  have hlO30 : lO.length ≤ 30 := by omega
  have hs2 := hk2.size
  have hE2 : Below w.heap.size w w2 := hE1.trans (hk2.to_below (fun k hk => by rcases hk with hk | hk <;> omega))
  have hO2 : Bts (fun b => b = w.heap.size) w2 AO lO := hbO.other (fun k h1 h2 => by omega)
  clear hlO ht1 hk2 hbO hE1
  go_wp2_with fail
  refine (ops_any _ _ _ ht2 (by omega) (by omega)).mono ?_
  rintro e w3 ⟨AL, cL, rsL, rfl, hcL, hL5, hL, _, ht3, hk3⟩
  have hs3 := hk3.size
  have hE3 : Below w.heap.size w w3 := hE2.trans (hk3.to_below (fun k hk => by rcases hk with hk | hk <;> omega))
  have hO3 : Bts (fun b => b = w.heap.size) w3 AO lO := hO2.keep hk3 (fun k h1 h2 => by rcases h2 with h2 | h2 <;> omega)
  have hL3 : OpsAt (fun b => b = w.heap.size) w3 AL rsL := ⟨hL.cells.other (fun k h1 h2 => by omega), fun r hr => Ok.other (hL.ok r hr) (fun k h1 h2 => by omega)⟩
  clear ht2 hk3 hL hO2 hE2
  go_wp2_with fail
  obtain ⟨w4, hw4⟩ : ∃ w4, w3.alloc (.cells #[.slice AO lO.length cO, .slice A1 l1.length c1, .slice none 0 0] 23) = w4 := ⟨_, rfl⟩
  rw [hw4]
  have hB34 : Below w3.heap.size w3 w4 := by rw [← hw4]; exact (Below.refl _ _).alloc (Nat.le_refl _) _
  have hx4 : Blk w4 w3.heap.size 23 #[.slice AO lO.length cO, .slice A1 l1.length c1, .slice none 0 0] := by rw [← hw4]; exact Blk.new _ _ _
  have hs4 := hB34.size
  have hs34 : w3.heap.size < w4.heap.size := hx4.lt
  have hE4 := hE3.trans (hB34.mono hE3.size)
  have hO4 := hO3.below hB34
  have hL4 := hL3.below hB34
  have ht4 : TapeOK 27 w4 w.heap.size := ht3.keep (Keep.below hB34 fun k h => h) (fun k h1 h2 => by omega)
  clear hw4 ht3 hO3 hL3 hE3 hB34
  refine (bent_any _ _ _ _ _ hL4 hL5 ht4 (by omega)).mono ?_
  rintro e w5 ⟨AB, cB, rsB, rfl, hcB, hB6, hBo, ht5, hk5⟩
  have hs5 := hk5.size
  have hE5 : Below w.heap.size w w5 := hE4.trans (hk5.to_below (fun k hk => by rcases hk with hk | hk <;> omega))
  have hx5 := hx4.keep hk5 (fun h => by rcases h with h | h <;> omega)
  have hO5 : Bts (fun b => b = w.heap.size) w5 AO lO := hO4.keep hk5 (fun k h1 h2 => by rcases h2 with h2 | h2 <;> omega)
  have hL5' : OpsAt (fun b => b = w.heap.size) w5 AL rsL := hL4.keep hk5 (fun k h1 h2 => by rcases h2 with h2 | h2 <;> omega)
  clear ht4 hk5 hx4 hO4 hL4 hE4 ht5
  go_wp2_with fail
  go_loopw [12] (fun iv wr => ∃ i : Nat, i ≤ 3 ∧ iv = .int .i64 (i : Int) ∧ Lists wr w3.heap.size w5.heap.size ∧ Below w.heap.size w wr) (fun iv _ => 3 - (intOf iv).toNat)
  case atStart =>
    have hB56 : Below w5.heap.size w5 (w5.alloc (.cells #[.slice AL rsL.length cL, .slice AB rsB.length cB, .slice A2 rs2.length c2, .slice none 0 0] 24)) := (Below.refl _ _).alloc (Nat.le_refl _) _
    have hE6 := hE5.trans (hB56.mono hE5.size)
    have hx6 := hx5.alloc (.cells #[.slice AL rsL.length cL, .slice AB rsB.length cB, .slice A2 rs2.length c2, .slice none 0 0] 24)
    refine ⟨0, by omega, rfl, ⟨fun j hj => ?_, fun j hj => ?_⟩, hE6⟩
    · match j, hj with
      | 0, _ => exact ⟨_, _, lO, hx6.cell 0, hcO.1, hcO.2, (hO5.below hB56).mono (fun _ h => h.elim)⟩
      | 1, _ => exact ⟨_, _, l1, hx6.cell 1, h1c, h1m, (h1.below hE6).mono (fun _ h => h.elim)⟩
      | 2, _ => exact ⟨_, _, [], hx6.cell 2, Nat.le_refl _, by unfold maxLen; omega, Cells.nil _ _ _⟩
    · have hy := Blk.new w5 24 #[.slice AL rsL.length cL, .slice AB rsB.length cB, .slice A2 rs2.length c2, .slice none 0 0]
      match j, hj with
      | 0, _ => exact ⟨_, _, rsL, hy.cell 0, hcL.1, hcL.2, (hL5'.below hB56).mono (fun _ h => h.elim)⟩
      | 1, _ => exact ⟨_, _, rsB, hy.cell 1, hcB.1, hcB.2, (hBo.below hB56).mono (fun _ h => h.elim)⟩
      | 2, _ => exact ⟨_, _, rs2, hy.cell 2, h2c, h2m, (h2.below hE6).mono (fun _ h => h.elim)⟩
      | 3, _ => exact ⟨_, _, [], hy.cell 3, Nat.le_refl _, by unfold maxLen; omega, OpsAt.nil _ _ _⟩
  case round =>
    obtain ⟨i, hi, rfl, hL, hE⟩ := hrel
    clear hO5 hL5' hBo hx5 hE5 h1 h2
    by_cases hlt : i < 3
    · have hd3 : decide ((i : Int) < 3) = true := by simp; omega
      go_wp2
      go_loopw [13] (fun kv wr => ∃ k : Nat, k ≤ 4 ∧ kv = .int .i64 (k : Int) ∧ Lists wr w3.heap.size w5.heap.size ∧ Below w.heap.size w wr) (fun kv _ => 4 - (intOf kv).toNat)
      case atStart => exact ⟨0, by omega, rfl, hL, hE⟩
      case round =>
        obtain ⟨k, hk, rfl, hL, hE⟩ := hrel
        by_cases hltk : k < 4
        · obtain ⟨A, c, l, d0, hlc, hcm, hb⟩ := hL.bases i hlt
          obtain ⟨B, d, rs, e0, hrc, hdm, ho⟩ := hL.all k hltk
          have hcm' : c ≤ 9223372036854775807 := by unfold maxLen at hcm; omega
          have hdm' : d ≤ 9223372036854775807 := by unfold maxLen at hdm; omega
          have HL := hid hL
          have HE := hid hE
          clear hL hE
          have hi0 : (0 : Int) ≤ (i : Int) := by omega
          have hi3 : (i : Int) < 3 := by omega
          have hk0 : (0 : Int) ≤ (k : Int) := by omega
          have hk4 : (k : Int) < 4 := by omega
          by_cases h3 : 3000 < l.length
          · go_wp2
            go_roundw
            case rel => exact ⟨k + 1, by omega, by go_num, HL.out, HE.out⟩
            case measure => simp [intOf]; omega
          · go_wp2_with (go_at_call 14; refine (few_any _ B rs d (by omega) _ ho).mono ?_; rintro e wf ⟨v, rfl, rfl⟩)
            · go_roundw
              case rel => exact ⟨k + 1, by omega, by go_num, HL.out, HE.out⟩
              case measure => simp [intOf]; omega
            · go_region_held3 (fun w' => w'.cell? ⟨w3.heap.size, i, none⟩ = some (.slice A l.length c) ∧ w'.cell? ⟨w5.heap.size, k, none⟩ = some (.slice B rs.length d))
                (first | go_keep | (exact ⟨cell_later hBx d0, cell_later hBx e0⟩))
                ((go_at_call 15; refine (apply_any _ A l c hlc hcm' B rs d (by omega) _ (hb.below ((Below.refl _ wr).drew)) (ho.below ((Below.refl _ wr).drew))).mono ?_; rintro e wx ⟨X, cx, _, rfl, rfl, hlcx, hcmx, hbx, hBx⟩))
              have hBx' : Below wr.heap.size wr wx := (Below.refl _ wr).drew.trans hBx
              have dx := cell_later hBx' d0
              have ex := cell_later hBx' e0
              have hb1 := hb.below hBx'
              have ho1 := ho.below hBx'
              have hX : Bts (fun _ => False) wx X (applyS l rs) := hbx.mono (fun _ h => h.elim)
              clear hbx hBx d0 e0 hb ho
              go_wp2
              go_region_held3 (fun w' => w'.cell? ⟨w3.heap.size, i, none⟩ = some (.slice A l.length c) ∧ w'.cell? ⟨w5.heap.size, k, none⟩ = some (.slice B rs.length d))
                (first | go_keep | (exact ⟨cell_later hBy dx, cell_later hBy ex⟩))
                ((go_at_call 16; refine (rapply_any _ A l c hlc hcm' B rs d (by omega) _ (hb1.below ((Below.refl _ wx).drew)) (ho1.below ((Below.refl _ wx).drew))).mono ?_; rintro e wy ⟨Y, cy, _, rfl, rfl, hlcy, hcmy, hby, hBy⟩))
              have hBy' : Below wx.heap.size wx wy := (Below.refl _ wx).drew.trans hBy
              have dy := cell_later hBy' dx
              have ey := cell_later hBy' ex
              have hb2 := hb1.below hBy'
              have ho2 := ho1.below hBy'
              have hX2 := hX.below hBy'
              have hY : Bts (fun _ => False) wy Y (applyS l rs) := hby.mono (fun _ h => h.elim)
              have sX := fun x : Later wy => Bts.string (P := Try.prog) (hX2.below x.prop) 23 9 5 cx Try.underlying23 Try.underlying5 Try.underlying9
              have sY := fun x : Later wy => Bts.string (P := Try.prog) (hY.below x.prop) 23 9 5 cy Try.underlying23 Try.underlying5 Try.underlying9
              have qd := fun x : Later wy => Later.cell dy x
              have qe := fun x : Later wy => Later.cell ey x
              have hBB := hBx'.trans (hBy'.mono hBx'.size)
              clear hby hBy dx ex hb1 ho1 hX hBx' hBy' dy ey
              go_wp2
              refine wp_region_class (fun y : Later wy => y.val) (by kernel_rfl) (by kernel_rfl) (Later.drew wy) rfl ?_
              repeat (go_big_quiet_step ((go_at_call 17; with_reducible refine (check_any (fun _ => False) A l.length c (by omega) B rs d (by omega) _ (ho2.below (Later.prop _))).mono ?_; rintro e w' ⟨he, hB'⟩; exact ⟨he, Later.then_ _ hB'⟩)))
              refine wpQuiet_nil ?_
              rintro w' ⟨⟨wz, hBz⟩, rfl⟩
              clear sX sY qd qe hX2 hY
              go_wp2
              go_roundw
              case rel => exact ⟨k + 1, by omega, by go_num, (HL.out.below hBB).below hBz, (HE.out.trans (hBB.mono HE.out.size)).trans (hBz.mono (Nat.le_trans HE.out.size hBB.size))⟩
              case measure => simp [intOf]; omega
        · go_wp2
          go_roundw
          case rel => exact ⟨i + 1, by omega, by go_num, hL, hE⟩
          case measure => simp [intOf]; omega
    · go_wp2_with (go_at_call 18; refine (awake_any _).mono ?_; rintro e w' ⟨rfl, hB'⟩)
      go_ret
      exact ⟨rfl, hE.trans (hB'.mono hE.size)⟩
end Go.Proofs.Ytohgjljcdnjajaa
