/- The contracts of Made and of the two Applies. -/
import Derived.Test.YtohgjljcdnjajaaRCheck
import Derived.Deep.RegionHeld3
namespace Go.Proofs.Ytohgjljcdnjajaa
open Go.RowKit Go.Shelf

def pieceS (base : List UInt8) (r : OpR) : List UInt8 := if 0 < r.sz then (base.drop r.fr.toNat).take r.sz.toNat else r.dat
@[irreducible] def madeS (base : List UInt8) (rs : List OpR) : List UInt8 := rs.flatMap (pieceS base)
theorem madeS_nil (base : List UInt8) : madeS base [] = [] := by unfold madeS; rfl
theorem madeS_snoc (base : List UInt8) (rs : List OpR) (i : Nat) (hi : i < rs.length) : madeS base (rs.take (i + 1)) = madeS base (rs.take i) ++ pieceS base rs[i] := by
  unfold madeS
  rw [List.take_succ_eq_append_getElem hi, List.flatMap_append]
  simp

structure ValidOps (base : List UInt8) (rs : List OpR) : Prop where
  few : rs.length ≤ 200
  small : base.length ≤ 65536
  fits : ∀ r ∈ rs, fitsB r.fr r.sz r.dat.length base.length = true
  amount : ∀ r ∈ rs, amountZ r ≤ 65536

theorem limB_amount (rs : List OpR) : ∀ left, left ≤ 65536 → limB left rs = false → ∀ r ∈ rs, amountZ r ≤ 65536 := by
  induction rs with
  | nil => intro _ _ _ r hr; simp at hr
  | cons a rs ih =>
    intro left hl h r hr
    rw [limB_cons] at h
    split at h
    · cases h
    · have := amount_pos a
      rcases List.mem_cons.1 hr with rfl | hr
      · omega
      · exact ih _ (by omega) h r hr

theorem valid_of_check {base : List UInt8} {rs : List OpR} (h : checkS base.length rs = 0) : ValidOps base rs := by
  unfold checkS at h
  split at h
  · omega
  · rename_i h1
    split at h
    · omega
    · rename_i h2
      split at h
      · omega
      · rename_i h3
        refine ⟨by omega, by omega, fun r hr => ?_, limB_amount rs 65536 (by omega) (by simpa using h2)⟩
        have h4 : rs.any (badB base.length) = false := by simpa using h3
        have := List.any_eq_false.1 h4 r hr
        unfold badB at this
        simpa using this

theorem fits_copy {fr sz : Int} {n base : Nat} (h : fitsB fr sz n base = true) (hz : 0 < sz) : 0 ≤ fr ∧ fr + sz ≤ base ∧ n = 0 := by
  unfold fitsB rightB at h
  rw [if_neg (by omega)] at h
  simp at h
  omega
theorem fits_ins {fr sz : Int} {n base : Nat} (h : fitsB fr sz n base = true) (hz : ¬ 0 < sz) : sz = 0 ∧ fr = 0 ∧ 0 < n := by
  unfold fitsB rightB at h
  split at h
  · simp at h; omega
  · simp at h; omega
theorem piece_len {base : List UInt8} {rs : List OpR} (h : ValidOps base rs) (r : OpR) (hr : r ∈ rs) : (pieceS base r).length ≤ 65536 := by
  have h1 := h.amount r hr
  have h2 := h.small
  unfold pieceS
  unfold amountZ at h1
  split
  · simp; omega
  · rw [if_neg (by omega)] at h1; omega
theorem made_len {base : List UInt8} {rs : List OpR} (h : ValidOps base rs) (i : Nat) (hi : i ≤ rs.length) : (madeS base (rs.take i)).length ≤ i * 65536 := by
  induction i with
  | zero => rw [List.take_zero, madeS_nil]; simp
  | succ i ih =>
    rw [madeS_snoc base rs i (by omega), List.length_append]
    have := ih (by omega)
    have := piece_len h rs[i] (List.getElem_mem _)
    omega

/-- New bytes l. -/
def BytesRet (w : World) (l : List UInt8) (e : Ending) (w' : World) : Prop :=
  ∃ A c, e = .returned (.slice A l.length c) ∧ l.length ≤ c ∧ c ≤ maxLen ∧ Bts (fun b => b < w.heap.size) w' A l ∧ Below w.heap.size w w'

theorem BytesRet.of_own {w w' : World} {v : Value} {n : Nat} {l : List UInt8} (h : w'.ownsRow w.heap.size 5 1 v n (l.map byteV)) (hB : Below w.heap.size w w') : BytesRet w l (.returned v) w' := by
  have hl : n = l.length := by have := h.1; simp at this; omega
  subst hl
  obtain ⟨A, c, rfl, hc, hm, _⟩ := own_form h
  exact ⟨A, c, rfl, hc, hm, Cells.of_own h (fun k h1 _ h3 => by omega), hB⟩

theorem own_below {w wr w' : World} {v v' : Value} {n : Nat} {xs xs' : List Value} {e : TypeId} {size m : Nat} (hB : Below w.heap.size w wr) (hown : wr.ownsRow w.heap.size e size v n xs) (hg : wr.grownBy w' v.ownBlock) (_ : w'.ownsRow w.heap.size e size v' m xs') : Below w.heap.size w w' :=
  hB.grown hg hB.size (fun k hk => (hown.lt k hk).1)

set_option maxHeartbeats 2000000 in
theorem made_any (S : Nat → Prop) (A : Option Addr) (base : List UInt8) (cb : Nat) (hcb : base.length ≤ cb) (hcm : cb ≤ 9223372036854775807) (B : Option Addr) (rs : List OpR) (c : Nat) (w : World) (hb : Bts S w A base) (h : OpsAt S w B rs) (hv : ValidOps base rs) :
    Calls Try.prog 21 #[.slice A base.length cb, .slice B rs.length c] w (BytesRet w (madeS base rs)) := by
  obtain ⟨i0, hi0, hz0, hz1, hz2⟩ := info_parts Try.info5
  have hfew := hv.few
  go_enter Try.func21, Try.ntmps21
  go_wp2
  go_loopw [5, 6] (fun v iv wr => ∃ (i n : Nat), i ≤ rs.length ∧ iv = .int .i64 (i : Int) ∧ wr.ownsRow w.heap.size 5 1 v n ((madeS base (rs.take i)).map byteV) ∧ n ≤ i * 65536 ∧ Below w.heap.size w wr) (fun _ iv _ => rs.length - (intOf iv).toNat)
  case atStart => exact ⟨0, 0, by omega, rfl, by rw [List.take_zero, madeS_nil]; exact World.ownsRow_nil _ _ _ _, by omega, Below.refl _ _⟩
  case round =>
    obtain ⟨i, n, hi, rfl, hown, hn, hB⟩ := hrel
    by_cases hlt : i < rs.length
    · obtain ⟨b, o, rfl, hs, c0, c1, c2⟩ := (h.below hB).at_ i hlt
      have hbw : b < w.heap.size := by
        obtain ⟨b', o', e, _, d0, _⟩ := h.at_ i hlt
        injection e with e
        injection e with e1 e2
        subst e1
        exact World.block_lt_of_cell? _ _ d0
      have hne : some b ≠ Value.ownBlock _ := fun e => absurd (hown.lt b e.symm).1 (by omega)
      have hmem : rs[i] ∈ rs := List.getElem_mem _
      have hfit := hv.fits _ hmem
      have hpl := piece_len hv _ hmem
      have hok := (h.below hB).ok _ hmem
      have hsn := madeS_snoc base rs i hlt
      by_cases hz : 0 < rs[i].sz
      · obtain ⟨g0, g1, g2⟩ := fits_copy hfit hz
        have hsm := hv.small
        have hp : pieceS base rs[i] = (base.drop rs[i].fr.toNat).take rs[i].sz.toNat := by unfold pieceS; rw [if_pos hz]
        have hlen : ((base.drop rs[i].fr.toNat).take rs[i].sz.toNat).length = (rs[i].fr + rs[i].sz).toNat - rs[i].fr.toNat := by simp; omega
        rw [hp] at hsn hpl
        have HS := hid hsn
        have HLEN := hid hlen
        have g3 : rs[i].fr + rs[i].sz ≤ (cb : Int) := by omega
        have g4 : ¬ cb = rs[i].fr.toNat := by omega
        obtain ⟨ab, ao, rfl, _, _⟩ := Cells.plain hb (by simp; omega)
        have hbt : Bts S wr (some ⟨ab, ao + rs[i].fr.toNat, none⟩) ((base.drop rs[i].fr.toNat).take rs[i].sz.toNat) := by
          have := (hb.below hB).cut cb rs[i].fr.toNat rs[i].sz.toNat hcb
          unfold subA at this
          rw [if_neg g4] at this
          simpa [Addr.add_lit] using this
        have HLN := HLEN.out
        clear hsn hlen hp hpl hfit hok h hv hb
        have hbr : b < wr.heap.size := Nat.lt_of_lt_of_le hbw hB.size
        have hw := IntWalk.i64_in (rs[i].fr + rs[i].sz) (by omega)
        have g5 : 0 ≤ rs[i].fr + rs[i].sz := by omega
        have g6 : rs[i].fr ≤ ((rs[i].fr + rs[i].sz).toNat : Int) := by omega
        have g7 : rs[i].fr ≤ rs[i].fr + rs[i].sz := by omega
        have g8 : rs[i].fr ≤ max (rs[i].fr + rs[i].sz) 0 := by omega
        go_wp2
        go_region_held3 (fun w' => w'.cell? ⟨b, o + i * 3, none⟩ = some (.int .i64 rs[i].fr) ∧ w'.cell? ⟨b, o + i * 3 + 1, none⟩ = some (.int .i64 rs[i].sz)) (first | go_keep | (exact ⟨(hg'.cell_far _ hbr hne).trans c0, (hg'.cell_far _ hbr hne).trans c1⟩))
          ((refine step_append_any _ (by rfl) _ _ _ (by rfl) w.heap.size 5 i0 _ 1 1 Try.underlying23 hi0 hz0 hz1 hz2 rfl (by omega) _ n _ (by rfl) hown.drew S (some ⟨ab, ao + rs[i].fr.toNat, none⟩) ((rs[i].fr + rs[i].sz).toNat - rs[i].fr.toNat) (cb - rs[i].fr.toNat) _ (by rfl) hbt (by rw [List.length_map]; omega) (byteV_one _) (by unfold maxLen; omega) (by omega) hB.size ?_; intro v' w' hown' hg' hat'))
        go_wp2
        go_roundw
        case rel => exact ⟨i + 1, _, by omega, by go_num, by rw [HS.out, List.map_append]; exact hown', by omega, own_below hB.drew hown.drew hg' hown'⟩
        case measure => simp [intOf]; omega
      · obtain ⟨g0, g1, g2⟩ := fits_ins hfit hz
        have hp : pieceS base rs[i] = rs[i].dat := by unfold pieceS; rw [if_neg hz]
        rw [hp] at hsn hpl
        have HS := hid hsn
        have hbt := hok.bts
        clear hsn hp hfit hok h hv hb g0 g1
        go_wp2_with (at_builtin; refine wpList_append_any _ rfl _ _ _ rfl w.heap.size 5 i0 _ 1 1 Try.underlying23 hi0 hz0 hz1 hz2 rfl (by omega) _ n _ (by exact rfl) hown S rs[i].ad rs[i].dat.length rs[i].cap _ rfl hbt (by simp) (byteV_one _) (by unfold maxLen; omega) (by omega) hB.size ?_; intro v' w' hown' hg' hat')
        go_roundw
        case rel => exact ⟨i + 1, _, by omega, by go_num, by rw [HS.out, List.map_append]; exact hown', by omega, own_below hB hown hg' hown'⟩
        case measure => simp [intOf]; omega
    · go_wp2
      go_ret
      rw [show i = rs.length by omega, List.take_length] at hown
      exact BytesRet.of_own hown hB

@[irreducible] def applyS (base : List UInt8) (rs : List OpR) : List UInt8 := if checkS base.length rs = 0 then madeS base rs else []

/-- What Apply hands back. -/
def ApplyRet (w : World) (base : List UInt8) (rs : List OpR) (e : Ending) (w' : World) : Prop :=
  ∃ A c, ∃ l : List UInt8, e = .returned (.tuple #[.slice A l.length c, .int .i64 (checkS base.length rs)]) ∧ l = applyS base rs ∧ l.length ≤ c ∧ c ≤ maxLen ∧ Bts (fun b => b < w.heap.size) w' A l ∧ Below w.heap.size w w'

set_option maxHeartbeats 1000000 in
theorem rapply_any (S : Nat → Prop) (A : Option Addr) (base : List UInt8) (cb : Nat) (hcb : base.length ≤ cb) (hcm : cb ≤ 9223372036854775807) (B : Option Addr) (rs : List OpR) (c : Nat) (hn : rs.length ≤ 9223372036854775807) (w : World) (hb : Bts S w A base) (h : OpsAt S w B rs) :
    Calls Try.prog 16 #[.slice A base.length cb, .slice B rs.length c] w (ApplyRet w base rs) := by
  have HC := fun W : World => fun hh : Below w.heap.size w W => rcheck_any S A base.length cb (by omega) B rs c hn W (h.below hh)
  have HK := hid (HC w (Below.refl _ _))
  clear HC
  by_cases hz : checkS base.length rs = 0
  · have HZ := hid hz
    rw [hz] at HK
    clear hz
    go_enter Try.func16, Try.ntmps16
    go_wp2_with (go_at_call 20; refine HK.out.mono ?_; rintro e w1 ⟨rfl, hB1⟩)
    refine (made_any S A base cb hcb hcm B rs c w1 (hb.below hB1) (h.below hB1) (valid_of_check HZ.out)).mono ?_
    rintro e w2 ⟨A2, c2, rfl, hc2, hm2, hb2, hB2⟩
    go_wp2_with fail
    go_ret2
    refine ⟨A2, c2, madeS base rs, by rw [HZ.out]; rfl, by unfold applyS; rw [if_pos HZ.out], hc2, hm2, hb2.mono (fun k hk => Nat.lt_of_lt_of_le hk hB1.size), hB1.trans (hB2.mono hB1.size)⟩
  · have hz' : (checkS base.length rs == 0) = false := by simpa using hz
    go_enter Try.func16, Try.ntmps16
    go_wp2_with (go_at_call 20; refine HK.out.mono ?_; rintro e w1 ⟨rfl, hB1⟩)
    go_ret2
    exact ⟨none, 0, [], rfl, by unfold applyS; rw [if_neg hz], Nat.le_refl _, by unfold maxLen; omega, Cells.nil _ _ _, hB1⟩

set_option maxHeartbeats 2000000 in
theorem apply_any (S : Nat → Prop) (A : Option Addr) (base : List UInt8) (cb : Nat) (hcb : base.length ≤ cb) (hcm : cb ≤ 9223372036854775807) (B : Option Addr) (rs : List OpR) (c : Nat) (hn : rs.length ≤ 9223372036854775807) (w : World) (hb : Bts S w A base) (h : OpsAt S w B rs) :
    Calls Try.prog 15 #[.slice A base.length cb, .slice B rs.length c] w (ApplyRet w base rs) := by
  have HK := hid (check_any S A base.length cb (by omega) B rs c hn w h)
  by_cases hz : checkS base.length rs = 0
  · have HZ := hid hz
    have hv := valid_of_check hz
    rw [hz] at HK
    clear hz
    have hfew := hv.few
    obtain ⟨i0, hi0, hz0, hz1, hz2⟩ := info_parts Try.info5
    go_enter Try.func15, Try.ntmps15
    go_wp2_with (go_at_call 17; refine HK.out.mono ?_; rintro e w1 ⟨rfl, hB1⟩)
    have hb1 := hb.below hB1
    have h1 := h.below hB1
    clear hb h HK
    go_loopw [7, 18] (fun v iv wr => ∃ (i n : Nat), i ≤ rs.length ∧ iv = .int .i64 (i : Int) ∧ wr.ownsRow w1.heap.size 5 1 v n ((madeS base (rs.take i)).map byteV) ∧ n ≤ i * 65536 ∧ Below w1.heap.size w1 wr) (fun _ iv _ => rs.length - (intOf iv).toNat)
    case atStart => exact ⟨0, 0, by omega, rfl, by rw [List.take_zero, madeS_nil]; exact World.ownsRow_nil _ _ _ _, by omega, Below.refl _ _⟩
    case round =>
      obtain ⟨i, n, hi, rfl, hown, hn', hB⟩ := hrel
      by_cases hlt : i < rs.length
      · obtain ⟨b, o, rfl, hs, c0, c1, c2⟩ := (h1.below hB).at_ i hlt
        have hmem : rs[i] ∈ rs := List.getElem_mem _
        have hfit := hv.fits _ hmem
        have hpl := piece_len hv _ hmem
        have hok := (h1.below hB).ok _ hmem
        have hsn := madeS_snoc base rs i hlt
        have hsm := hv.small
        have hD := (h1.ok _ hmem).bts
        by_cases hz : 0 < rs[i].sz
        · obtain ⟨g0, g1, g2⟩ := fits_copy hfit hz
          have hp : pieceS base rs[i] = (base.drop rs[i].fr.toNat).take rs[i].sz.toNat := by unfold pieceS; rw [if_pos hz]
          have hlen : ((base.drop rs[i].fr.toNat).take rs[i].sz.toNat).length = (rs[i].fr + rs[i].sz).toNat - rs[i].fr.toNat := by simp; omega
          have hdat : rs[i].dat = [] := List.eq_nil_of_length_eq_zero g2
          have g3 : rs[i].fr + rs[i].sz ≤ (cb : Int) := by omega
          have g4 : ¬ cb = rs[i].fr.toNat := by omega
          have hw := IntWalk.i64_in (rs[i].fr + rs[i].sz) (by omega)
          have g5 : 0 ≤ rs[i].fr + rs[i].sz := by omega
          have g9 : (rs[i].fr + rs[i].sz).toNat - rs[i].fr.toNat ≤ 65536 := by omega
          have g6 : rs[i].fr ≤ ((rs[i].fr + rs[i].sz).toNat : Int) := by omega
          have g7 : rs[i].fr ≤ rs[i].fr + rs[i].sz := by omega
          have g8 : rs[i].fr ≤ max (rs[i].fr + rs[i].sz) 0 := by omega
          obtain ⟨ab, ao, rfl, _, _⟩ := Cells.plain hb1 (by simp; omega)
          have hbt0 : Bts S wr (some ⟨ab, ao + rs[i].fr.toNat, none⟩) ((base.drop rs[i].fr.toNat).take rs[i].sz.toNat) := by
            have := (hb1.below hB).cut cb rs[i].fr.toNat rs[i].sz.toNat hcb
            unfold subA at this
            rw [if_neg g4] at this
            simpa [Addr.add_lit] using this
          have HD := hid hdat
          have g2' : rs[i].dat.length ≤ 0 := by omega
          rw [hp] at hsn hpl
          clear g2 hp hdat
          obtain ⟨W8, hW8⟩ : ∃ W8, wr.alloc (.cells #[.int .i64 rs[i].fr, .int .i64 rs[i].sz, .slice rs[i].ad rs[i].dat.length rs[i].cap] 42) = W8 := ⟨_, rfl⟩
          have hx : Blk W8 wr.heap.size 42 #[.int .i64 rs[i].fr, .int .i64 rs[i].sz, .slice rs[i].ad rs[i].dat.length rs[i].cap] := by rw [← hW8]; exact Blk.new _ _ _
          have hs8 : W8.heap.size = wr.heap.size + 1 := by rw [← hW8]; simp
          have hB8 : Below w1.heap.size w1 W8 := by rw [← hW8]; exact hB.alloc hB.size _
          have hwr : Below wr.heap.size wr W8 := by rw [← hW8]; exact (Below.refl _ _).alloc (Nat.le_refl _) _
          have hown8 := ownsRow_below hown hwr
          have hne : some wr.heap.size ≠ Value.ownBlock _ := fun e => absurd (hown.lt _ e.symm).2 (by omega)
          have hd8 := hok.bts.below hwr
          have d0 := hx.cell 0
          have d1 := hx.cell 1
          have d2 := hx.cell 2
          simp at d0 d1 d2
          have hbt := hbt0.below hwr
          have hbr : wr.heap.size < W8.drew.heap.size := by show wr.heap.size < W8.heap.size; omega
          have hs8' : w1.heap.size ≤ W8.heap.size := by have := hB.size; omega
          have hdl : rs[i].dat.length ≤ 65536 := by omega
          have H8 := hid hs8
          have HS := hid hsn
          clear hsn hfit hok hv hb1 h1 hz hs8 hpl
          go_wp2
          clear c0 c1 c2
          go_region_held3 (fun w' => w'.cell? ⟨wr.heap.size, 0, none⟩ = some (.int .i64 rs[i].fr) ∧ w'.cell? ⟨wr.heap.size, 1, none⟩ = some (.int .i64 rs[i].sz) ∧ w'.cell? ⟨wr.heap.size, 2, none⟩ = some (.slice rs[i].ad rs[i].dat.length rs[i].cap))
            (first | go_keep | (exact ⟨(hg1.cell_far _ hbr hne).trans d0, (hg1.cell_far _ hbr hne).trans d1, (hg1.cell_far _ hbr hne).trans d2⟩) | (exact ⟨(hg2.cell_far _ hbr2 hne2).trans e0, (hg2.cell_far _ hbr2 hne2).trans e1, (hg2.cell_far _ hbr2 hne2).trans e2⟩))
            ((first
              | (refine step_append_any _ (by rfl) (.tmp 22) (.tmp 31) _ (by rfl) w1.heap.size 5 i0 _ 1 1 Try.underlying23 hi0 hz0 hz1 hz2 rfl (by omega) _ n _ (by rfl) hown8.drew S (some ⟨ab, ao + rs[i].fr.toNat, none⟩) ((rs[i].fr + rs[i].sz).toNat - rs[i].fr.toNat) (cb - rs[i].fr.toNat) _ (by rfl) hbt (by rw [List.length_map]; omega) (byteV_one _) (by unfold maxLen; omega) (by omega) hs8' ?_; intro v1 w2 hown1 hg1 hat1
                 have hbr2 : wr.heap.size < w2.heap.size := Nat.lt_of_lt_of_le hbr hg1.size
                 have e0 := (hg1.cell_far ⟨wr.heap.size, 0, none⟩ hbr hne).trans d0
                 have e1 := (hg1.cell_far ⟨wr.heap.size, 1, none⟩ hbr hne).trans d1
                 have e2 := (hg1.cell_far ⟨wr.heap.size, 2, none⟩ hbr hne).trans d2
                 have hne2 : some wr.heap.size ≠ Value.ownBlock v1 := by
                   rcases hat1 with e | e
                   · rw [e]; exact hne
                   · rw [e]; intro e'; injection e' with e'; have : W8.drew.heap.size = wr.heap.size + 1 := H8.out; omega
                 have hB2 : Below w1.heap.size w1 w2 := own_below hB8.drew hown8.drew hg1 hown1
                 have hd2 : Bts S w2 rs[i].ad rs[i].dat := hD.below hB2)
              | (refine step_append_any _ (by rfl) (.tmp 32) (.tmp 34) _ (by rfl) w1.heap.size 5 i0 _ 1 1 Try.underlying23 hi0 hz0 hz1 hz2 rfl (by omega) _ _ _ (by rfl) hown1 S rs[i].ad rs[i].dat.length rs[i].cap _ (by rfl) hd2 (by simp) (byteV_one _) (by unfold maxLen; omega) (by omega) hB2.size ?_; intro v3 w3 hown2 hg2 hat2)))
          go_wp2
          go_roundw
          case rel => exact ⟨i + 1, _, by omega, by go_num, by rw [HS.out, List.map_append]; have h2 := hown2; rw [HD.out, List.map_nil, List.append_nil, List.length_nil, Nat.add_zero] at h2; exact h2, by omega, own_below hB2 hown1 hg2 hown2⟩
          case measure => simp [intOf]; omega
        · obtain ⟨g0, g1, g2⟩ := fits_ins hfit hz
          have hp : pieceS base rs[i] = rs[i].dat := by unfold pieceS; rw [if_neg hz]
          rw [hp] at hsn hpl
          rw [g1] at c0
          rw [g0] at c1
          clear hp g0 g1
          obtain ⟨W8, hW8⟩ : ∃ W8, wr.alloc (.cells #[.int .i64 0, .int .i64 0, .slice rs[i].ad rs[i].dat.length rs[i].cap] 42) = W8 := ⟨_, rfl⟩
          have hx : Blk W8 wr.heap.size 42 #[.int .i64 0, .int .i64 0, .slice rs[i].ad rs[i].dat.length rs[i].cap] := by rw [← hW8]; exact Blk.new _ _ _
          have hs8 : W8.heap.size = wr.heap.size + 1 := by rw [← hW8]; simp
          have hB8 : Below w1.heap.size w1 W8 := by rw [← hW8]; exact hB.alloc hB.size _
          have hwr : Below wr.heap.size wr W8 := by rw [← hW8]; exact (Below.refl _ _).alloc (Nat.le_refl _) _
          have hown8 := ownsRow_below hown hwr
          have hne : some wr.heap.size ≠ Value.ownBlock _ := fun e => absurd (hown.lt _ e.symm).2 (by omega)
          have hd8 := hok.bts.below hwr
          have d0 := hx.cell 0
          have d1 := hx.cell 1
          have d2 := hx.cell 2
          simp at d0 d1 d2
          have hcb0 : (0 : Int) ≤ (cb : Int) := by omega
          have hw0 : IntKind.i64.wrap 0 = 0 := rfl
          have hw1 : IntKind.i64.wrap (0 + 0) = 0 := rfl
          have hbr : wr.heap.size < W8.drew.heap.size := by show wr.heap.size < W8.heap.size; omega
          have hs8' : w1.heap.size ≤ W8.heap.size := by have := hB.size; omega
          have hdl : rs[i].dat.length ≤ 65536 := by omega
          have H8 := hid hs8
          have HS := hid hsn
          clear hsn hfit hok hv hb1 h1 hz hs8 hpl
          go_wp2
          clear c0 c1 c2
          go_region_held3 (fun w' => w'.cell? ⟨wr.heap.size, 0, none⟩ = some (.int .i64 0) ∧ w'.cell? ⟨wr.heap.size, 1, none⟩ = some (.int .i64 0) ∧ w'.cell? ⟨wr.heap.size, 2, none⟩ = some (.slice rs[i].ad rs[i].dat.length rs[i].cap))
            (first | go_keep | (exact ⟨(hg1.cell_far _ hbr hne).trans d0, (hg1.cell_far _ hbr hne).trans d1, (hg1.cell_far _ hbr hne).trans d2⟩) | (exact ⟨(hg2.cell_far _ hbr2 hne2).trans e0, (hg2.cell_far _ hbr2 hne2).trans e1, (hg2.cell_far _ hbr2 hne2).trans e2⟩))
            ((first
              | (refine step_append_any _ (by rfl) (.tmp 22) (.tmp 31) _ (by rfl) w1.heap.size 5 i0 _ 1 1 Try.underlying23 hi0 hz0 hz1 hz2 rfl (by omega) _ n _ (by rfl) hown8.drew S _ _ _ [] (by rfl) (Cells.nil _ _ _) (by simp) (by simp) (by unfold maxLen; omega) (by omega) hs8' ?_; intro v1 w2 hown1 hg1 hat1
                 have hbr2 : wr.heap.size < w2.heap.size := Nat.lt_of_lt_of_le hbr hg1.size
                 have e0 := (hg1.cell_far ⟨wr.heap.size, 0, none⟩ hbr hne).trans d0
                 have e1 := (hg1.cell_far ⟨wr.heap.size, 1, none⟩ hbr hne).trans d1
                 have e2 := (hg1.cell_far ⟨wr.heap.size, 2, none⟩ hbr hne).trans d2
                 have hne2 : some wr.heap.size ≠ Value.ownBlock v1 := by
                   rcases hat1 with e | e
                   · rw [e]; exact hne
                   · rw [e]; intro e'; injection e' with e'; have : W8.drew.heap.size = wr.heap.size + 1 := H8.out; omega
                 have hB2 : Below w1.heap.size w1 w2 := own_below hB8.drew hown8.drew hg1 hown1
                 have hd2 : Bts S w2 rs[i].ad rs[i].dat := hD.below hB2)
              | (refine step_append_any _ (by rfl) (.tmp 32) (.tmp 34) _ (by rfl) w1.heap.size 5 i0 _ 1 1 Try.underlying23 hi0 hz0 hz1 hz2 rfl (by omega) _ _ _ (by rfl) hown1 S rs[i].ad rs[i].dat.length rs[i].cap _ (by rfl) hd2 (by simp) (byteV_one _) (by unfold maxLen; omega) (by omega) hB2.size ?_; intro v3 w3 hown2 hg2 hat2)))
          go_wp2
          go_roundw
          case rel => exact ⟨i + 1, _, by omega, by go_num, by rw [HS.out, List.map_append]; have h2 := hown2; rw [List.append_nil] at h2; exact h2, by omega, own_below hB2 hown1 hg2 hown2⟩
          case measure => simp [intOf]; omega
      · go_wp2
        go_ret2
        rw [show i = rs.length by omega, List.take_length] at hown
        obtain ⟨A2, c2, e2, hc2, hm2, hb2, hB2⟩ := BytesRet.of_own hown hB
        injection e2 with e2
        subst e2
        exact ⟨A2, c2, madeS base rs, by rw [HZ.out]; rfl, by unfold applyS; rw [if_pos HZ.out], hc2, hm2, hb2.mono (fun k hk => Nat.lt_of_lt_of_le hk hB1.size), hB1.trans (hB2.mono hB1.size)⟩
  · have hz' : (checkS base.length rs == 0) = false := by simpa using hz
    go_enter Try.func15, Try.ntmps15
    go_wp2_with (go_at_call 17; refine HK.out.mono ?_; rintro e w1 ⟨rfl, hB1⟩)
    go_ret2
    exact ⟨none, 0, [], rfl, by unfold applyS; rw [if_neg hz], Nat.le_refl _, by unfold maxLen; omega, Cells.nil _ _ _, hB1⟩
end Go.Proofs.Ytohgjljcdnjajaa
