/- The walk of DeltaWhole. -/
import Derived.Test.YtohgjljcdnjajaaWhole
import Derived.Test.YtohgjljcdnjajaaAwake
set_option linter.unusedVariables false
namespace Go.Proofs.Ytohgjljcdnjajaa
open Go.RowKit Go.Shelf

theorem bstr_add (a b : List UInt8) : bstr (a ++ b) = bstr a ++ bstr b := by
  unfold bstr
  apply ByteArray.ext
  rw [ByteArray.data_append]
  simp

theorem bstr_size (l : List UInt8) : (bstr l).size = l.length := by rfl
theorem apply_len (base : List UInt8) (rs : List OpR) (h : checkS base.length rs = 0) : (applyS base rs).length ≤ 200 * 65536 := by
  have hv := valid_of_check h
  have := made_len hv rs.length (Nat.le_refl _)
  have hf := hv.few
  rw [List.take_length] at this
  unfold applyS
  rw [if_pos h]
  exact Nat.le_trans this (Nat.mul_le_mul_right _ hf)
theorem ops_new (w : World) (r : OpR) (cs : Array Value) (hcs : cs.toList = r.cells) (hr : r.Ok (fun _ => False) (w.alloc (.cells cs 42))) : OpsAt (fun _ => False) (w.alloc (.cells cs 42)) (some ⟨w.heap.size, 0, none⟩) [r] := by
  refine ⟨?_, fun x hx => by simp at hx; rw [hx]; exact hr⟩
  have := Cells.new w cs 42
  rw [hcs] at this
  simpa using this

set_option maxHeartbeats 4000000 in
theorem whole_walk (a0 : Option Addr) (len0 cap0 : Nat) (z0 : List Int) (w : World) (w0 : IsRow .i64 w a0 len0 cap0 z0) :
    Calls Try.prog 4 #[.slice a0 len0 cap0] w fun e w' => e = .returned (.bool true) ∧ Below w.heap.size w w' := by
  obtain ⟨i0, hi, hz0, hz1, hz2⟩ := info_parts Try.info42
  have ht : TapeOK 27 (w.alloc (.cells #[.slice a0 len0 cap0, .int .i64 0] 27)) w.heap.size := w0.tape
  go_enter Try.func4, Try.ntmps4
  go_wp2_with fail
  refine (next_any _ _ _ ht (by omega) (by omega)).mono ?_
  rintro e w1 ⟨x, rfl, hx0, hx1, ht1, hk1⟩
  have hs1 : w.heap.size < w1.heap.size := by have := hk1.size; simp at this; omega
  have hE1 : Below w.heap.size w w1 := ((Below.refl _ _).alloc (Nat.le_refl _) _).trans (hk1.to_below (fun k hk => by omega))
  clear ht hk1
  have hw := IntWalk.i64_in (1 + x) (by omega)
  go_wp2_with fail
  refine (bytes_out _ _ _ ht1 (by omega) (by omega) hs1).mono ?_
  rintro e w2 ⟨AO, cO, lO, rfl, hlO, hcO, hbO, ht2, hk2⟩
  have hlO2 : 1 ≤ lO.length ∧ lO.length ≤ 20 := by omega
  have hs2 := hk2.size
  have hE2 : Below w.heap.size w w2 := hE1.trans (hk2.to_below (fun k hk => by rcases hk with hk | hk <;> omega))
  have hO2 : Bts (fun b => b = w.heap.size) w2 AO lO := hbO.other (fun k h1 h2 => by omega)
  clear hlO ht1 hk2 hbO hE1 hw hx0 hx1
  go_wp2_with fail
  refine (next_any _ _ _ ht2 (by omega) (by omega)).mono ?_
  rintro e w3 ⟨y, rfl, hy0, hy1, ht3, hk3⟩
  have hs3 := hk3.size
  have hE3 : Below w.heap.size w w3 := hE2.trans (hk3.to_below (fun k hk => by omega))
  have hO3 : Bts (fun b => b = w.heap.size) w3 AO lO := hO2.keep hk3 (fun k h1 h2 => h2)
  clear ht2 hk3 hO2 hE2
  have hw := IntWalk.i64_in (1 + y) (by omega)
  go_wp2_with fail
  refine (bytes_out _ _ _ ht3 (by omega) (by omega) (by omega)).mono ?_
  rintro e w4 ⟨AT, cT, lT, rfl, hlT, hcT, hbT, ht4, hk4⟩
  have hlT2 : 1 ≤ lT.length ∧ lT.length ≤ 20 := by omega
  have hs4 := hk4.size
  have hE4 : Below w.heap.size w w4 := hE3.trans (hk4.to_below (fun k hk => by rcases hk with hk | hk <;> omega))
  have hO4 : Bts (fun b => b = w.heap.size) w4 AO lO := hO3.keep hk4 (fun k h1 h2 => by rcases h2 with h2 | h2 <;> omega)
  have hT4 : Bts (fun b => b = w.heap.size) w4 AT lT := hbT.other (fun k h1 h2 => by omega)
  clear hlT ht3 hk4 hbT hE3 hO3 hw hy0 hy1
  go_wp2_with fail
  refine (ops_any _ _ lO.length ht4 (by omega) (by omega)).mono ?_
  rintro e w5 ⟨AA, cA, rsA, rfl, hcA, hA5, hA, hfA, ht5, hk5⟩
  have hs5 := hk5.size
  have hE5 : Below w.heap.size w w5 := hE4.trans (hk5.to_below (fun k hk => by rcases hk with hk | hk <;> omega))
  have hO5 : Bts (fun b => b = w.heap.size) w5 AO lO := hO4.keep hk5 (fun k h1 h2 => by rcases h2 with h2 | h2 <;> omega)
  have hT5 : Bts (fun b => b = w.heap.size) w5 AT lT := hT4.keep hk5 (fun k h1 h2 => by rcases h2 with h2 | h2 <;> omega)
  have hA5' : OpsAt (fun b => b = w.heap.size) w5 AA rsA := ⟨hA.cells.other (fun k h1 h2 => by omega), fun r hr => Ok.other (hA.ok r hr) (fun k h1 h2 => by omega)⟩
  clear ht4 hk5 hA hE4 hO4 hT4
  go_wp2_with fail
  refine (ops_any _ _ lO.length ht5 (by omega) (by omega)).mono ?_
  rintro e w6 ⟨AB, cB, rsB, rfl, hcB, hB5, hB, hfB, ht6, hk6⟩
  have hs6 := hk6.size
  have hE6 : Below w.heap.size w w6 := hE5.trans (hk6.to_below (fun k hk => by rcases hk with hk | hk <;> omega))
  have hO6 : Bts (fun _ => False) w6 AO lO := (hO5.keep hk6 (S := fun b => b = w.heap.size) (fun k h1 h2 => by rcases h2 with h2 | h2 <;> omega)).mono (fun _ h => h.elim)
  have hT6 : Bts (fun _ => False) w6 AT lT := (hT5.keep hk6 (S := fun b => b = w.heap.size) (fun k h1 h2 => by rcases h2 with h2 | h2 <;> omega)).mono (fun _ h => h.elim)
  have hA6 : OpsAt (fun _ => False) w6 AA rsA := (hA5'.keep hk6 (S := fun b => b = w.heap.size) (fun k h1 h2 => by rcases h2 with h2 | h2 <;> omega)).mono (fun _ h => h.elim)
  have hB6 : OpsAt (fun _ => False) w6 AB rsB := hB.mono (fun _ h => h.elim)
  clear ht5 hk6 hB hE5 hO5 hT5 hA5' ht6
  -- the plain law
  obtain ⟨kI, vI⟩ := whole_ins lO lT AT cT (by omega) (by omega) (by omega)
  obtain ⟨kC, vC⟩ := whole_copy lO (by omega) (by omega)
  obtain ⟨kA, vA⟩ := whole_few lO rsA (by omega) (by omega) hfA
  obtain ⟨kB, vB⟩ := whole_few lO rsB (by omega) (by omega) hfB
  obtain ⟨kZ, vZ⟩ := whole_few lO (rsA ++ rsB) (by omega) (by simp; omega) (fun r hr => (List.mem_append.1 hr).elim (hfA r) (hfB r))
  rw [made_two, ← vA, ← vB] at vZ
  have hcO' : cO ≤ 9223372036854775807 := by have := hcO.2; unfold maxLen at this; omega
  have KI := hid kI
  have KC := hid kC
  have KA := hid kA
  have KB := hid kB
  have KZ := hid kZ
  have VI := hid vI
  have VC := hid vC
  have VZ := hid vZ
  clear kI kC kA kB kZ vI vC vA vB vZ hfA hfB
  go_wp2_with fail
  obtain ⟨w7, hw7⟩ : ∃ w7, w6.alloc (.cells #[.int .i64 0, .int .i64 0, .slice AT lT.length cT] 42) = w7 := ⟨_, rfl⟩
  rw [hw7]
  have hB67 : Below w6.heap.size w6 w7 := by rw [← hw7]; exact (Below.refl _ _).alloc (Nat.le_refl _) _
  have hI7 : OpsAt (fun _ => False) w7 (some ⟨w6.heap.size, 0, none⟩) [⟨0, 0, AT, lT, cT⟩] := by
    have hT7 := hT6.below hB67
    rw [← hw7] at hT7 ⊢
    exact ops_new w6 ⟨0, 0, AT, lT, cT⟩ _ rfl ⟨hT7, hcT.1, hcT.2, by simp, by simp⟩
  have hE7 := hE6.trans (hB67.mono hE6.size)
  have hO7 := hO6.below hB67
  clear hw7
  refine (apply_any _ _ _ cO hcO.1 hcO' _ _ 1 (by simp) w7 hO7 hI7).mono ?_
  rintro e w8 ⟨AU, cU, lU, rfl, hlU, hcU, hcU2, hU8, hB8⟩
  rw [KI.out]
  have hB68 := hB67.trans (hB8.mono hB67.size)
  have hE8 := hE7.trans (hB8.mono hE7.size)
  have hO8 := hO7.below hB8
  have hU8' : Bts (fun _ => False) w8 AU lU := hU8.mono (fun _ h => h.elim)
  rw [VI.out] at hlU
  have HU := hid hlU
  clear hI7 hB8 hE7 hO7 hU8 hB67 hlU
  go_wp2_with fail
  obtain ⟨w9, hw9⟩ : ∃ w9, w8.alloc (.cells #[.int .i64 0, .int .i64 (lO.length : Int), .slice none 0 0] 42) = w9 := ⟨_, rfl⟩
  rw [hw9]
  have hB89 : Below w8.heap.size w8 w9 := by rw [← hw9]; exact (Below.refl _ _).alloc (Nat.le_refl _) _
  have hI9 : OpsAt (fun _ => False) w9 (some ⟨w8.heap.size, 0, none⟩) [⟨0, (lO.length : Int), none, [], 0⟩] := by
    rw [← hw9]
    exact ops_new w8 ⟨0, (lO.length : Int), none, [], 0⟩ _ rfl ⟨Cells.nil _ _ _, Nat.le_refl _, by unfold maxLen; simp, by simp, by simp only; omega⟩
  have hE9 := hE8.trans (hB89.mono hE8.size)
  have hO9 := hO8.below hB89
  clear hw9
  refine (apply_any _ _ _ cO hcO.1 hcO' _ _ 1 (by simp) w9 hO9 hI9).mono ?_
  rintro e w10 ⟨AV, cV, lV, rfl, hlV, hcV, hcV2, hV10, hB10⟩
  rw [KC.out]
  have hB810 := hB89.trans (hB10.mono hB89.size)
  have hB610 := hB68.trans (hB810.mono hB68.size)
  have hE10 := hE9.trans (hB10.mono hE9.size)
  have hO10 := hO9.below hB10
  have hV10' : Bts (fun _ => False) w10 AV lV := hV10.mono (fun _ h => h.elim)
  have hU10 := hU8'.below hB810
  have hA10 := hA6.below hB610
  have hBB10 := hB6.below hB610
  have hT10 := hT6.below hB610
  rw [VC.out] at hlV
  have HV := hid hlV
  clear hI9 hB10 hE9 hO9 hV10 hB89 hB810 hB610 hB68 hU8' hlV hA6 hB6 hT6 hO6 hE6 hE8 hO8
  go_wp2_with fail
  refine (apply_any _ _ _ cO hcO.1 hcO' _ _ cA (by omega) w10 hO10 hA10).mono ?_
  rintro e w11 ⟨AX, cX, lX, rfl, hlX, hcX, hcX2, hX11, hB11⟩
  rw [KA.out]
  have hX11' : Bts (fun _ => False) w11 AX lX := hX11.mono (fun _ h => h.elim)
  have hE11 := hE10.trans (hB11.mono hE10.size)
  have hO11 := hO10.below hB11
  have hA11 := hA10.below hB11
  have hBB11 := hBB10.below hB11
  have hT11 := hT10.below hB11
  have hU11 := hU10.below hB11
  have hV11 := hV10'.below hB11
  have HX := hid hlX
  clear hX11 hlX hE10 hO10 hA10 hBB10 hT10 hU10 hV10' hB11
  go_wp2_with fail
  refine (apply_any _ _ _ cO hcO.1 hcO' _ _ cB (by omega) w11 hO11 hBB11).mono ?_
  rintro e w12 ⟨AY, cY, lY, rfl, hlY, hcY, hcY2, hY12, hB12⟩
  rw [KB.out]
  have hY12' : Bts (fun _ => False) w12 AY lY := hY12.mono (fun _ h => h.elim)
  have hE12 := hE11.trans (hB12.mono hE11.size)
  have hO12 := hO11.below hB12
  have hA12 := hA11.below hB12
  have hBB12 := hBB11.below hB12
  have hT12 := hT11.below hB12
  have hU12 := hU11.below hB12
  have hV12 := hV11.below hB12
  have hX12 := hX11'.below hB12
  have HY := hid hlY
  clear hY12 hlY hE11 hO11 hA11 hBB11 hT11 hU11 hV11 hX11' hB12
  have hcl := hA12.cells
  have HLEN := hid (flat_len OpR.cells 3 OpR.cells_len rsA)
  have HLENB := hid (flat_len OpR.cells 3 OpR.cells_len rsB)
  go_wp2_with (first
    | (at_builtin; refine wpList_append_any _ rfl _ _ _ rfl w12.heap.size 42 i0 _ 3 40 Try.underlying24 hi hz0 hz1 hz2 (by rfl) (by omega) (.slice (some ⟨w12.heap.size, 0, none⟩) 0 0) 0 [] rfl (World.ownsRow_lit w12 #[] 0 (Nat.le_refl _) (by simp) rfl) (fun _ => False) AA rsA.length cA _ rfl (Cells.alloc hcl _) HLEN.out (ops_one rsA) (by unfold maxLen; omega) (by omega) (by simp) ?_; intro v13 w13 hown13 hg13 hat13
       have hk13 : Below w12.heap.size w12 w13 := ((Below.refl _ w12).alloc (Nat.le_refl _) _).grown hg13 (by simp) (fun k hk => by simp [Value.ownBlock] at hk; omega)
       rw [Nat.zero_add, List.nil_append] at hown13
       have hB13 := hBB12.below hk13
       clear hcl hg13 hat13)
    | (at_builtin; refine wpList_append_any _ rfl _ _ _ rfl w12.heap.size 42 i0 _ 3 40 Try.underlying24 hi hz0 hz1 hz2 (by rfl) (by omega) v13 rsA.length _ rfl hown13 (fun _ => False) AB rsB.length cB _ rfl hB13.cells HLENB.out (ops_one rsB) (by unfold maxLen; omega) (by omega) hk13.size ?_; intro v14 w14 hown14 hg14 hat14))
  have hk14 : Below w12.heap.size w12 w14 := own_below hk13 hown13 hg14 hown14
  have e1 : rsA.flatMap OpR.cells ++ rsB.flatMap OpR.cells = (rsA ++ rsB).flatMap OpR.cells := by simp
  have e2 : rsA.length + rsB.length = (rsA ++ rsB).length := by simp
  rw [e1, e2] at hown14
  clear e1 e2
  obtain ⟨AZ0, cZ0, rfl, hcZ0, hcmZ0, _⟩ := own_form hown14
  have hZ14 : OpsAt (fun _ => False) w14 (AZ0) (rsA ++ rsB) := ⟨Cells.of_own hown14 (fun k h1 _ h3 => h3), fun r hr => (List.mem_append.1 hr).elim (fun h => (hA12.below hk14).ok r h) (fun h => (hBB12.below hk14).ok r h)⟩
  have hO14 := hO12.below hk14
  have hT14 := hT12.below hk14
  have hU14 := hU12.below hk14
  have hV14 := hV12.below hk14
  have hX14 := hX12.below hk14
  have hY14 := hY12'.below hk14
  have hE14 := hE12.trans (hk14.mono hE12.size)
  clear hown13 hk13 hB13 hown14 hg14 hat14 hk14 hO12 hT12 hU12 hV12 hX12 hY12' hE12 hA12 hBB12
  refine (apply_any _ _ _ cO hcO.1 hcO' _ _ cZ0 (by simp; omega) w14 hO14 hZ14).mono ?_
  rintro e w15 ⟨AZ, cZ, lZ, rfl, hlZ, hcZ, hcZ2, hZ15, hB15⟩
  rw [KZ.out]
  have hE15 := hE14.trans (hB15.mono hE14.size)
  have sO := Bts.string (P := Try.prog) (hO14.below hB15) 23 9 5 cO Try.underlying23 Try.underlying5 Try.underlying9
  have sT := Bts.string (P := Try.prog) (hT14.below hB15) 23 9 5 cT Try.underlying23 Try.underlying5 Try.underlying9
  have sU := Bts.string (P := Try.prog) (hU14.below hB15) 23 9 5 cU Try.underlying23 Try.underlying5 Try.underlying9
  have sV := Bts.string (P := Try.prog) (hV14.below hB15) 23 9 5 cV Try.underlying23 Try.underlying5 Try.underlying9
  have sX := Bts.string (P := Try.prog) (hX14.below hB15) 23 9 5 cX Try.underlying23 Try.underlying5 Try.underlying9
  have sY := Bts.string (P := Try.prog) (hY14.below hB15) 23 9 5 cY Try.underlying23 Try.underlying5 Try.underlying9
  have sZ := Bts.string (P := Try.prog) hZ15 23 9 5 cZ Try.underlying23 Try.underlying5 Try.underlying9
  have hub : bstr lU = bstr lT := by rw [HU.out]
  have hvb : bstr lV = bstr lO := by rw [HV.out]
  have hzb : bstr lZ = bstr lX ++ bstr lY := by rw [hlZ, VZ.out, ← HX.out, ← HY.out, bstr_add]
  rw [hub] at sU
  rw [hvb] at sV
  rw [hzb] at sZ
  have hlZ' := hid hlZ
  have hsz : (bstr lX).size + (bstr lY).size ≤ 9223372036854775807 := by
    have h1 := apply_len lO rsA KA.out
    have h2 := apply_len lO rsB KB.out
    rw [← HX.out] at h1
    rw [← HY.out] at h2
    rw [bstr_size, bstr_size]
    omega
  have HSZ := hid hsz
  clear hub hvb hzb hsz
  clear hO14 hT14 hU14 hV14 hX14 hY14 hZ14 hZ15 hE14 hB15 hlZ
  go_wp2_with (go_at_call 18; refine (awake_any _).mono ?_; rintro e w' ⟨rfl, hB'⟩)
  · have := HSZ.out
    exfalso
    omega
  go_ret
  exact ⟨rfl, hE15.trans (hB'.mono hE15.size)⟩
end Go.Proofs.Ytohgjljcdnjajaa
