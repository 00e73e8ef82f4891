/- Apply and awake, walked below. -/
import Derived.Test.YtbnmcdnkeipdhaaTq
import Derived.Deep.RegionHeld3
set_option linter.all false
set_option maxRecDepth 20000
namespace Go.Proofs.Ytbnmcdnkeipdhaa.Old
open Go.RowKit Go.Shelf
theorem Try.info5 : (Try.prog.info? 5).map (fun i => (i.zero, i.size, i.bytes)) = some (some (.int .u8 0), 1, 1) := by kernel_rfl
open Go.RowKit

@[irreducible] def rightB (fr sz : Int) (n : Nat) : Bool := if sz = 0 then decide (fr = 0) && decide (0 < n) else decide (0 < sz) && decide (0 ≤ fr) && decide (n = 0)
@[irreducible] def fitsB (fr sz : Int) (n base : Nat) : Bool := rightB fr sz n && (decide (sz = 0) || (decide (fr ≤ base) && decide (sz ≤ base - fr)))

set_option maxHeartbeats 400000 in
theorem right_any (fr sz : Int) (A : Option Addr) (n c : Nat) (hn : n ≤ 9223372036854775807) (w : World) :
    Calls Try.prog 57 #[.agg #[.int .i64 fr, .int .i64 sz, .slice A n c]] w fun e w' => e = .returned (.bool (rightB fr sz n)) ∧ Below w.heap.size w w' := by
  by_cases h1 : sz = 0
  · subst h1
    by_cases h2 : fr = 0
    · subst h2
      go_enter Try.func57, Try.ntmps57
      go_wp2
      go_ret
      exact ⟨ret_bool (by unfold rightB; rw [Bool.eq_iff_iff]; simp), (Below.refl _ _).alloc (Nat.le_refl _) _⟩
    · go_enter Try.func57, Try.ntmps57
      go_wp2
      go_ret
      exact ⟨ret_bool (by unfold rightB; rw [Bool.eq_iff_iff]; simp; omega), (Below.refl _ _).alloc (Nat.le_refl _) _⟩
  · by_cases h2 : 0 < sz
    · by_cases h3 : 0 ≤ fr
      all_goals
        go_enter Try.func57, Try.ntmps57
        go_wp2
        go_ret
        exact ⟨ret_bool (by unfold rightB; rw [if_neg h1, Bool.eq_iff_iff]; simp; omega), (Below.refl _ _).alloc (Nat.le_refl _) _⟩
    · go_enter Try.func57, Try.ntmps57
      go_wp2
      go_ret
      exact ⟨ret_bool (by unfold rightB; rw [if_neg h1, Bool.eq_iff_iff]; simp; omega), (Below.refl _ _).alloc (Nat.le_refl _) _⟩

set_option maxHeartbeats 400000 in
theorem fits_any (fr sz : Int) (A : Option Addr) (n c base : Nat) (hn : n ≤ 9223372036854775807) (hb : base ≤ 9223372036854775807) (w : World) :
    Calls Try.prog 74 #[.agg #[.int .i64 fr, .int .i64 sz, .slice A n c], .int .i64 (base : Int)] w fun e w' => e = .returned (.bool (fitsB fr sz n base)) ∧ Below w.heap.size w w' := by
  have R := fun w => right_any fr sz A n c hn w
  by_cases h0 : rightB fr sz n = true
  · by_cases h1 : sz = 0
    · subst h1
      go_enter Try.func74, Try.ntmps74
      go_wp2_with (go_at_call 57; refine (R _).mono ?_; rintro e w' ⟨rfl, hB⟩; have hN := new_later hB; have c0 := hN.cell 0; have c1 := hN.cell 1; have c2 := hN.cell 2; simp at c0 c1 c2)
      go_ret
      refine ⟨ret_bool ?_, ((Below.refl _ _).alloc (Nat.le_refl _) _).trans (hB.mono (by simp))⟩
      unfold fitsB
      rw [h0, Bool.eq_iff_iff]
      simp
    · obtain ⟨g1, g2⟩ : 0 < sz ∧ 0 ≤ fr := by
        unfold rightB at h0
        rw [if_neg h1] at h0
        simp at h0
        omega
      by_cases g3 : fr ≤ base
      all_goals
        go_enter Try.func74, Try.ntmps74
        go_wp2_with (go_at_call 57; refine (R _).mono ?_; rintro e w' ⟨rfl, hB⟩; have hN := new_later hB; have c0 := hN.cell 0; have c1 := hN.cell 1; have c2 := hN.cell 2; simp at c0 c1 c2)
        go_ret
        refine ⟨ret_bool ?_, ((Below.refl _ _).alloc (Nat.le_refl _) _).trans (hB.mono (by simp))⟩
        unfold fitsB
        rw [h0, Bool.eq_iff_iff]
        simp
        omega
  · have h0' : rightB fr sz n = false := by simpa using h0
    go_enter Try.func74, Try.ntmps74
    go_wp2_with (go_at_call 57; refine (R _).mono ?_; rintro e w' ⟨rfl, hB⟩; have hN := new_later hB; have c0 := hN.cell 0; have c1 := hN.cell 1; have c2 := hN.cell 2; simp at c0 c1 c2)
    go_ret
    refine ⟨ret_bool ?_, ((Below.refl _ _).alloc (Nat.le_refl _) _).trans (hB.mono (by simp))⟩
    unfold fitsB
    rw [h0']
    simp

structure OpR where
  fr : Int
  sz : Int
  ad : Option Addr
  dat : List UInt8
  cap : Nat
def OpR.cells (r : OpR) : List Value := [.int .i64 r.fr, .int .i64 r.sz, .slice r.ad r.dat.length r.cap]
abbrev OpR.val (r : OpR) : Value := .agg #[.int .i64 r.fr, .int .i64 r.sz, .slice r.ad r.dat.length r.cap]
structure OpR.Ok (S : Nat → Prop) (w : World) (r : OpR) : Prop where
  bts : Bts S w r.ad r.dat
  cap1 : r.dat.length ≤ r.cap
  cap2 : r.cap ≤ maxLen
  fr1 : -9223372036854775808 ≤ r.fr ∧ r.fr ≤ 9223372036854775807
  sz1 : -9223372036854775808 ≤ r.sz ∧ r.sz ≤ 9223372036854775807

theorem flat_len {α : Type} (f : α → List Value) (k : Nat) (hf : ∀ x, (f x).length = k) (xs : List α) : (xs.flatMap f).length = xs.length * k := by
  induction xs with
  | nil => simp
  | cons x xs ih => simp [hf, ih, Nat.add_mul, Nat.add_comm]
theorem flat_get {α : Type} (f : α → List Value) (k : Nat) (hf : ∀ x, (f x).length = k) (xs : List α) (i j : Nat) (hi : i < xs.length) (hj : j < k) : (xs.flatMap f)[i * k + j]? = (f xs[i])[j]? := by
  induction xs generalizing i with
  | nil => simp at hi
  | cons x xs ih =>
    rw [List.flatMap_cons]
    cases i with
    | zero => rw [Nat.zero_mul, Nat.zero_add, List.getElem?_append_left (by rw [hf]; exact hj)]; rfl
    | succ i =>
      rw [List.getElem?_append_right (by rw [hf, Nat.add_mul]; omega), hf]
      have e : (i + 1) * k + j - k = i * k + j := by rw [Nat.add_mul]; omega
      rw [e, ih i (by simpa using hi)]
      rfl

structure OpsAt (S : Nat → Prop) (w : World) (A : Option Addr) (rs : List OpR) : Prop where
  cells : Cells S w A (rs.flatMap OpR.cells)
  ok : ∀ r ∈ rs, r.Ok S w
theorem OpR.cells_len (r : OpR) : r.cells.length = 3 := rfl
theorem OpsAt.below {S : Nat → Prop} {w w' : World} {A : Option Addr} {rs : List OpR} (h : OpsAt S w A rs) (hB : Below w.heap.size w w') : OpsAt S w' A rs :=
  ⟨h.cells.below hB, fun r hr => ⟨(h.ok r hr).bts.below hB, (h.ok r hr).cap1, (h.ok r hr).cap2, (h.ok r hr).fr1, (h.ok r hr).sz1⟩⟩
theorem OpsAt.keep {S S' : Nat → Prop} {w w' : World} {A : Option Addr} {rs : List OpR} (h : OpsAt S w A rs) (hk : Keep S' w w') (hS : ∀ k, k < w.heap.size → S' k → S k) : OpsAt S w' A rs :=
  ⟨h.cells.keep hk hS, fun r hr => ⟨(h.ok r hr).bts.keep hk hS, (h.ok r hr).cap1, (h.ok r hr).cap2, (h.ok r hr).fr1, (h.ok r hr).sz1⟩⟩
theorem OpsAt.mono {S S' : Nat → Prop} {w : World} {A : Option Addr} {rs : List OpR} (h : OpsAt S w A rs) (hS : ∀ k, S' k → S k) : OpsAt S' w A rs :=
  ⟨h.cells.mono hS, fun r hr => ⟨(h.ok r hr).bts.mono hS, (h.ok r hr).cap1, (h.ok r hr).cap2, (h.ok r hr).fr1, (h.ok r hr).sz1⟩⟩
theorem OpsAt.nil (S : Nat → Prop) (w : World) (A : Option Addr) : OpsAt S w A [] := ⟨Cells.nil _ _ _, by simp⟩
theorem OpsAt.at_ {S : Nat → Prop} {w : World} {A : Option Addr} {rs : List OpR} (h : OpsAt S w A rs) (i : Nat) (hi : i < rs.length) : ∃ b o, A = some ⟨b, o, none⟩ ∧ ¬ S b ∧
    w.cell? ⟨b, o + i * 3, none⟩ = some (.int .i64 rs[i].fr) ∧ w.cell? ⟨b, o + i * 3 + 1, none⟩ = some (.int .i64 rs[i].sz) ∧ w.cell? ⟨b, o + i * 3 + 2, none⟩ = some (.slice rs[i].ad rs[i].dat.length rs[i].cap) := by
  have hl := flat_len OpR.cells 3 OpR.cells_len rs
  obtain ⟨b, o, e, hs, hc⟩ := h.cells.plain (by omega)
  refine ⟨b, o, e, hs, hc _ _ ?_, ?_, ?_⟩
  · exact (flat_get OpR.cells 3 OpR.cells_len rs i 0 hi (by omega)).trans rfl
  · exact hc (i * 3 + 1) _ ((flat_get OpR.cells 3 OpR.cells_len rs i 1 hi (by omega)).trans rfl)
  · exact hc (i * 3 + 2) _ ((flat_get OpR.cells 3 OpR.cells_len rs i 2 hi (by omega)).trans rfl)

def Found (b : Bool) (w : World) (e : Ending) (w' : World) : Prop := ∃ k : Int, e = .returned (.int .i64 k) ∧ decide (0 ≤ k) = b ∧ Below w.heap.size w w'

set_option maxHeartbeats 1000000 in
theorem index_any (S : Nat → Prop) (A : Option Addr) (rs : List OpR) (c : Nat) (g : Nat) (cap : Array Value) (p : OpR → Bool) (hn : rs.length ≤ 9223372036854775807) (w : World) (h : OpsAt S w A rs)
    (eg : ∀ args w, (callFunc g args).run Try.prog w = .ok (.enter g args) w)
    (hf : ∀ i (hi : i < rs.length) w', Below w.heap.size w w' → Calls Try.prog g (#[rs[i].val] ++ cap) w' fun e w'' => e = .returned (.bool (p rs[i])) ∧ Below w'.heap.size w' w'') :
    Calls Try.prog 75 #[.slice A rs.length c, .func (.func g) #[] cap] w (Found (rs.any p) w) := by
  go_enter Try.func75, Try.ntmps75
  go_wp2
  go_loopw [8] (fun iv wr => ∃ i : Nat, i ≤ rs.length ∧ iv = .int .i64 (i : Int) ∧ (rs.take i).any p = false ∧ Below w.heap.size w wr) (fun iv _ => rs.length - (intOf iv).toNat)
  case atStart => exact ⟨0, by omega, rfl, by simp, Below.refl _ _⟩
  case round =>
    obtain ⟨i, hi, rfl, hp, hB⟩ := hrel
    have HP := hid hp
    clear hp
    by_cases hlt : i < rs.length
    · obtain ⟨b, o, rfl, hs, c0, c1, c2⟩ := (h.below hB).at_ i hlt
      have F := hid (hf i hlt wr hB)
      have hsn : rs.take (i + 1) = rs.take i ++ [rs[i]] := by rw [List.take_succ_eq_append_getElem hlt]
      have HS := hid hsn
      clear hsn h
      go_wp2
      refine F.out.mono ?_
      rintro e w' ⟨rfl, hB'⟩
      have hB2 := hB.trans (hB'.mono hB.size)
      obtain ⟨v, hv⟩ : ∃ v, p rs[i] = v := ⟨_, rfl⟩
      rw [hv]
      have HV := hid hv
      clear hv hB' hB F
      cases v with
      | true =>
        go_wp2
        go_ret
        refine ⟨i, rfl, ?_, hB2⟩
        have : rs.any p = true := List.any_eq_true.2 ⟨rs[i], List.getElem_mem _, HV.out⟩
        rw [this]
        simp
      | false =>
        go_wp2
        go_roundw
        case rel => exact ⟨i + 1, by omega, by go_num, by rw [HS.out, List.any_append, HP.out]; simp [HV.out], hB2⟩
        case measure => simp [intOf]; omega
    · go_wp2
      go_ret
      have : i = rs.length := by omega
      have h1 := HP.out
      rw [this, List.take_length] at h1
      exact ⟨-1, rfl, by rw [h1]; rfl, hB⟩

set_option maxHeartbeats 400000 in
theorem contains_any (S : Nat → Prop) (A : Option Addr) (rs : List OpR) (c : Nat) (g : Nat) (cap : Array Value) (p : OpR → Bool) (hn : rs.length ≤ 9223372036854775807) (w : World) (h : OpsAt S w A rs)
    (eg : ∀ args w, (callFunc g args).run Try.prog w = .ok (.enter g args) w)
    (hf : ∀ i (hi : i < rs.length) w', Below w.heap.size w w' → Calls Try.prog g (#[rs[i].val] ++ cap) w' fun e w'' => e = .returned (.bool (p rs[i])) ∧ Below w'.heap.size w' w'') :
    Calls Try.prog 55 #[.slice A rs.length c, .func (.func g) #[] cap] w fun e w' => e = .returned (.bool (rs.any p)) ∧ Below w.heap.size w w' := by
  have C := hid (index_any S A rs c g cap p hn w h eg hf)
  clear hf h eg
  go_enter Try.func55, Try.ntmps55
  go_wp2_with (go_at_call 75; refine C.out.mono ?_; rintro e w' ⟨k, rfl, hk, hB⟩)
  go_ret
  exact ⟨rfl, hB⟩

set_option maxHeartbeats 400000 in
theorem bad_any (bb : Nat) (A : Option Addr) (n c : Nat) (hn : n ≤ 9223372036854775807) (r : OpR) (hr : r.dat.length ≤ 9223372036854775807) (w : World) (hc : w.cell? ⟨bb, 0, none⟩ = some (.slice A n c)) :
    Calls Try.prog 73 (#[r.val] ++ #[.pointer (some ⟨bb, 0, none⟩)]) w fun e w' => e = .returned (.bool (!fitsB r.fr r.sz r.dat.length n)) ∧ Below w.heap.size w w' := by
  have hc' := cell_new hc
  have F := fun w => fits_any r.fr r.sz r.ad r.dat.length r.cap n hr hn w
  show Calls Try.prog 73 #[.agg #[.int .i64 r.fr, .int .i64 r.sz, .slice r.ad r.dat.length r.cap], .pointer (some ⟨bb, 0, none⟩)] w _
  go_enter Try.func73, Try.ntmps73
  go_wp2_with (go_at_call 74; go_must (refine (F _).mono ?_; rintro e w' ⟨rfl, hB⟩))
  go_ret
  exact ⟨rfl, ((Below.refl _ _).alloc (Nat.le_refl _) _).trans (hB.mono (by simp))⟩

open Go.RowKit Go.Shelf

def amountZ (r : OpR) : Int := if 1 ≤ r.sz then r.sz else (r.dat.length : Int)
def limB : Int → List OpR → Bool
  | _, [] => false
  | left, r :: rs => if left < amountZ r then true else limB (left - amountZ r) rs
def badB (base : Nat) (r : OpR) : Bool := !fitsB r.fr r.sz r.dat.length base
@[irreducible] def checkS (base : Nat) (rs : List OpR) : Int :=
  if 200 < rs.length ∨ 65536 < base then 3 else if limB 65536 rs = true then 3 else if rs.any (badB base) = true then 2 else 0

theorem limB_cons (left : Int) (r : OpR) (rs : List OpR) : limB left (r :: rs) = if left < amountZ r then true else limB (left - amountZ r) rs := rfl
theorem amount_pos (r : OpR) : 0 ≤ amountZ r := by unfold amountZ; split <;> omega
theorem lim_step {rs : List OpR} {left : Int} {i : Nat} (hi : i < rs.length) (h : limB 65536 rs = limB left (rs.drop i)) (hl : amountZ rs[i] ≤ left) : limB 65536 rs = limB (left - amountZ rs[i]) (rs.drop (i + 1)) := by
  rw [h, List.drop_eq_getElem_cons hi, limB_cons, if_neg (by omega)]
theorem lim_over {rs : List OpR} {left : Int} {i : Nat} (hi : i < rs.length) (h : limB 65536 rs = limB left (rs.drop i)) (hl : left < amountZ rs[i]) : limB 65536 rs = true := by
  rw [h, List.drop_eq_getElem_cons hi, limB_cons, if_pos hl]

set_option maxHeartbeats 2000000 in
theorem check_any (S : Nat → Prop) (A : Option Addr) (base : Nat) (cb : Nat) (hbase : base ≤ 9223372036854775807) (B : Option Addr) (rs : List OpR) (c : Nat) (hn : rs.length ≤ 9223372036854775807) (w : World) (h : OpsAt S w B rs) :
    Calls Try.prog 53 #[.slice A base cb, .slice B rs.length c] w fun e w' => e = .returned (.int .i64 (checkS base rs)) ∧ Below w.heap.size w w' := by
  by_cases hlim : 200 < rs.length ∨ 65536 < base
  · have hS : checkS base rs = 3 := by unfold checkS; rw [if_pos hlim]
    rw [hS]
    by_cases h2 : 200 < rs.length
    · clear h
      go_enter Try.func53, Try.ntmps53
      go_wp2
      go_ret
      exact ⟨rfl, (Below.refl _ _).alloc (Nat.le_refl _) _⟩
    · have h3 : 65536 < base := by omega
      clear h
      go_enter Try.func53, Try.ntmps53
      go_wp2
      go_ret
      exact ⟨rfl, (Below.refl _ _).alloc (Nat.le_refl _) _⟩
  · have b1 : rs.length ≤ 200 := by omega
    have b2 : base ≤ 65536 := by omega
    have HL0 := hid hlim
    clear hlim
    go_enter Try.func53, Try.ntmps53
    go_wp2
    go_loopw [5, 19] (fun lv iv wr => ∃ (i : Nat) (left : Int), i ≤ rs.length ∧ iv = .int .i64 (i : Int) ∧ lv = .int .i64 left ∧ 0 ≤ left ∧ left ≤ 65536 ∧ limB 65536 rs = limB left (rs.drop i) ∧ Blk wr w.heap.size 23 #[.slice A base cb] ∧ Below w.heap.size w wr) (fun _ iv _ => rs.length - (intOf iv).toNat)
    case atStart => exact ⟨0, 65536, by omega, rfl, rfl, by omega, by omega, rfl, Blk.new _ _ _, (Below.refl _ _).alloc (Nat.le_refl _) _⟩
    case round =>
      obtain ⟨i, left, hi, rfl, rfl, hl0, hl1, hlim, hbx, hB⟩ := hrel
      have HL := hid hlim
      have HX := hid hbx
      clear hlim hbx
      by_cases hlt : i < rs.length
      · obtain ⟨b, o, rfl, hs, c0, c1, c2⟩ := (h.below hB).at_ i hlt
        have hm : rs[i].dat.length ≤ 9223372036854775807 := by have := (h.ok _ (List.getElem_mem hlt)).cap1; have := (h.ok _ (List.getElem_mem hlt)).cap2; unfold maxLen at this; omega
        clear h
        by_cases hz : 1 ≤ rs[i].sz
        · have ha : amountZ rs[i] = rs[i].sz := by unfold amountZ; rw [if_pos hz]
          have HA := hid ha
          clear ha
          by_cases hov : left < rs[i].sz
          · go_wp2
            go_ret
            refine ⟨ret_int ?_, hB.alloc hB.size _⟩
            unfold checkS
            rw [if_neg HL0.out, if_pos (lim_over hlt HL.out (by rw [HA.out]; exact hov))]
          · go_wp2
            go_roundw
            case rel => exact ⟨i + 1, left - rs[i].sz, by omega, by go_num, rfl, by omega, by omega, by rw [lim_step hlt HL.out (by rw [HA.out]; omega), HA.out], HX.out.alloc _, hB.alloc hB.size _⟩
            case measure => simp [intOf]; omega
        · have ha : amountZ rs[i] = rs[i].dat.length := by unfold amountZ; rw [if_neg hz]
          have HA := hid ha
          clear ha
          by_cases hov : left < rs[i].dat.length
          · go_wp2
            go_ret
            refine ⟨ret_int ?_, hB.alloc hB.size _⟩
            unfold checkS
            rw [if_neg HL0.out, if_pos (lim_over hlt HL.out (by rw [HA.out]; exact hov))]
          · go_wp2
            go_roundw
            case rel => exact ⟨i + 1, left - rs[i].dat.length, by omega, by go_num, rfl, by omega, by omega, by rw [lim_step hlt HL.out (by rw [HA.out]; omega), HA.out], HX.out.alloc _, hB.alloc hB.size _⟩
            case measure => simp [intOf]; omega
      · have hnl : limB 65536 rs = false := by
          rw [HL.out, List.drop_of_length_le (by omega)]; rfl
        have HN := hid hnl
        clear hnl
        have hC := contains_any S B rs c 73 #[.pointer (some ⟨w.heap.size, 0, none⟩)] (badB base) (by omega) wr (h.below hB) (enters_of Try.func73 (by kernel_rfl) rfl)
          (fun j hj w' hw' => bad_any w.heap.size A base cb (by omega) rs[j] (by have := (h.ok _ (List.getElem_mem hj)).cap1; have := (h.ok _ (List.getElem_mem hj)).cap2; unfold maxLen at this; omega) w' (cell_later hw' (by have := HX.out.cell 0; simpa using this)))
        have HC := hid hC
        clear hC h
        obtain ⟨v, hv⟩ : ∃ v, rs.any (badB base) = v := ⟨_, rfl⟩
        cases v with
        | true =>
          go_wp2_with (go_at_call 55; refine HC.out.mono ?_; rintro e w' ⟨rfl, hB'⟩)
          go_ret
          refine ⟨ret_int ?_, hB.trans (hB'.mono hB.size)⟩
          unfold checkS
          rw [if_neg HL0.out, HN.out, hv]
          rfl
        | false =>
          go_wp2_with (go_at_call 55; refine HC.out.mono ?_; rintro e w' ⟨rfl, hB'⟩)
          go_ret
          refine ⟨ret_int ?_, hB.trans (hB'.mono hB.size)⟩
          unfold checkS
          rw [if_neg HL0.out, HN.out, hv]
          rfl

open Go.RowKit Go.Shelf

def pieceS (base : List UInt8) (r : OpR) : List UInt8 := if 0 < r.sz then (base.drop r.fr.toNat).take r.sz.toNat else r.dat
@[irreducible] def madeS (base : List UInt8) (rs : List OpR) : List UInt8 := rs.flatMap (pieceS base)
theorem madeS_nil (base : List UInt8) : madeS base [] = [] := by unfold madeS; rfl
theorem madeS_snoc (base : List UInt8) (rs : List OpR) (i : Nat) (hi : i < rs.length) : madeS base (rs.take (i + 1)) = madeS base (rs.take i) ++ pieceS base rs[i] := by
  unfold madeS
  rw [List.take_succ_eq_append_getElem hi, List.flatMap_append]
  simp

structure ValidOps (base : List UInt8) (rs : List OpR) : Prop where
  few : rs.length ≤ 200
  small : base.length ≤ 65536
  fits : ∀ r ∈ rs, fitsB r.fr r.sz r.dat.length base.length = true
  amount : ∀ r ∈ rs, amountZ r ≤ 65536

theorem limB_amount (rs : List OpR) : ∀ left, left ≤ 65536 → limB left rs = false → ∀ r ∈ rs, amountZ r ≤ 65536 := by
  induction rs with
  | nil => intro _ _ _ r hr; simp at hr
  | cons a rs ih =>
    intro left hl h r hr
    rw [limB_cons] at h
    split at h
    · cases h
    · have := amount_pos a
      rcases List.mem_cons.1 hr with rfl | hr
      · omega
      · exact ih _ (by omega) h r hr

theorem valid_of_check {base : List UInt8} {rs : List OpR} (h : checkS base.length rs = 0) : ValidOps base rs := by
  unfold checkS at h
  split at h
  · omega
  · rename_i h1
    split at h
    · omega
    · rename_i h2
      split at h
      · omega
      · rename_i h3
        refine ⟨by omega, by omega, fun r hr => ?_, limB_amount rs 65536 (by omega) (by simpa using h2)⟩
        have h4 : rs.any (badB base.length) = false := by simpa using h3
        have := List.any_eq_false.1 h4 r hr
        unfold badB at this
        simpa using this

theorem fits_copy {fr sz : Int} {n base : Nat} (h : fitsB fr sz n base = true) (hz : 0 < sz) : 0 ≤ fr ∧ fr + sz ≤ base ∧ n = 0 := by
  unfold fitsB rightB at h
  rw [if_neg (by omega)] at h
  simp at h
  omega
theorem fits_ins {fr sz : Int} {n base : Nat} (h : fitsB fr sz n base = true) (hz : ¬ 0 < sz) : sz = 0 ∧ fr = 0 ∧ 0 < n := by
  unfold fitsB rightB at h
  split at h
  · simp at h; omega
  · simp at h; omega
theorem piece_len {base : List UInt8} {rs : List OpR} (h : ValidOps base rs) (r : OpR) (hr : r ∈ rs) : (pieceS base r).length ≤ 65536 := by
  have h1 := h.amount r hr
  have h2 := h.small
  unfold pieceS
  unfold amountZ at h1
  split
  · simp; omega
  · rw [if_neg (by omega)] at h1; omega
def BytesRet (w : World) (l : List UInt8) (e : Ending) (w' : World) : Prop :=
  ∃ A c, e = .returned (.slice A l.length c) ∧ l.length ≤ c ∧ c ≤ maxLen ∧ Bts (fun b => b < w.heap.size) w' A l ∧ Below w.heap.size w w'

theorem BytesRet.of_own {w w' : World} {v : Value} {n : Nat} {l : List UInt8} (h : w'.ownsRow w.heap.size 5 1 v n (l.map byteV)) (hB : Below w.heap.size w w') : BytesRet w l (.returned v) w' := by
  have hl : n = l.length := by have := h.1; simp at this; omega
  subst hl
  obtain ⟨A, c, rfl, hc, hm, _⟩ := own_form h
  exact ⟨A, c, rfl, hc, hm, Cells.of_own h (fun k h1 _ h3 => by omega), hB⟩

theorem own_below {w wr w' : World} {v v' : Value} {n : Nat} {xs xs' : List Value} {e : TypeId} {size m : Nat} (hB : Below w.heap.size w wr) (hown : wr.ownsRow w.heap.size e size v n xs) (hg : wr.grownBy w' v.ownBlock) (_ : w'.ownsRow w.heap.size e size v' m xs') : Below w.heap.size w w' :=
  hB.grown hg hB.size (fun k hk => (hown.lt k hk).1)


@[irreducible] def applyS (base : List UInt8) (rs : List OpR) : List UInt8 := if checkS base.length rs = 0 then madeS base rs else []

def ApplyRet (w : World) (base : List UInt8) (rs : List OpR) (e : Ending) (w' : World) : Prop :=
  ∃ A c, ∃ l : List UInt8, e = .returned (.tuple #[.slice A l.length c, .int .i64 (checkS base.length rs)]) ∧ l = applyS base rs ∧ l.length ≤ c ∧ c ≤ maxLen ∧ Bts (fun b => b < w.heap.size) w' A l ∧ Below w.heap.size w w'


set_option maxHeartbeats 2000000 in
theorem apply_any (S : Nat → Prop) (A : Option Addr) (base : List UInt8) (cb : Nat) (hcb : base.length ≤ cb) (hcm : cb ≤ 9223372036854775807) (B : Option Addr) (rs : List OpR) (c : Nat) (hn : rs.length ≤ 9223372036854775807) (w : World) (hb : Bts S w A base) (h : OpsAt S w B rs) :
    Calls Try.prog 20 #[.slice A base.length cb, .slice B rs.length c] w (ApplyRet w base rs) := by
  have HK := hid (check_any S A base.length cb (by omega) B rs c hn w h)
  by_cases hz : checkS base.length rs = 0
  · have HZ := hid hz
    have hv := valid_of_check hz
    rw [hz] at HK
    clear hz
    have hfew := hv.few
    obtain ⟨i0, hi0, hz0, hz1, hz2⟩ := info_parts Try.info5
    go_enter Try.func20, Try.ntmps20
    go_wp2_with (go_at_call 53; refine HK.out.mono ?_; rintro e w1 ⟨rfl, hB1⟩)
    have hb1 := hb.below hB1
    have h1 := h.below hB1
    clear hb h HK
    go_loopw [7, 18] (fun v iv wr => ∃ (i n : Nat), i ≤ rs.length ∧ iv = .int .i64 (i : Int) ∧ wr.ownsRow w1.heap.size 5 1 v n ((madeS base (rs.take i)).map byteV) ∧ n ≤ i * 65536 ∧ Below w1.heap.size w1 wr) (fun _ iv _ => rs.length - (intOf iv).toNat)
    case atStart => exact ⟨0, 0, by omega, rfl, by rw [List.take_zero, madeS_nil]; exact World.ownsRow_nil _ _ _ _, by omega, Below.refl _ _⟩
    case round =>
      obtain ⟨i, n, hi, rfl, hown, hn', hB⟩ := hrel
      by_cases hlt : i < rs.length
      · obtain ⟨b, o, rfl, hs, c0, c1, c2⟩ := (h1.below hB).at_ i hlt
        have hmem : rs[i] ∈ rs := List.getElem_mem _
        have hfit := hv.fits _ hmem
        have hpl := piece_len hv _ hmem
        have hok := (h1.below hB).ok _ hmem
        have hsn := madeS_snoc base rs i hlt
        have hsm := hv.small
        have hD := (h1.ok _ hmem).bts
        by_cases hz : 0 < rs[i].sz
        · obtain ⟨g0, g1, g2⟩ := fits_copy hfit hz
          have hp : pieceS base rs[i] = (base.drop rs[i].fr.toNat).take rs[i].sz.toNat := by unfold pieceS; rw [if_pos hz]
          have hlen : ((base.drop rs[i].fr.toNat).take rs[i].sz.toNat).length = (rs[i].fr + rs[i].sz).toNat - rs[i].fr.toNat := by simp; omega
          have hdat : rs[i].dat = [] := List.eq_nil_of_length_eq_zero g2
          have g3 : rs[i].fr + rs[i].sz ≤ (cb : Int) := by omega
          have g4 : ¬ cb = rs[i].fr.toNat := by omega
          have hw := IntWalk.i64_in (rs[i].fr + rs[i].sz) (by omega)
          have g5 : 0 ≤ rs[i].fr + rs[i].sz := by omega
          have g9 : (rs[i].fr + rs[i].sz).toNat - rs[i].fr.toNat ≤ 65536 := by omega
          have g6 : rs[i].fr ≤ ((rs[i].fr + rs[i].sz).toNat : Int) := by omega
          have g7 : rs[i].fr ≤ rs[i].fr + rs[i].sz := by omega
          have g8 : rs[i].fr ≤ max (rs[i].fr + rs[i].sz) 0 := by omega
          obtain ⟨ab, ao, rfl, _, _⟩ := Cells.plain hb1 (by simp; omega)
          have hbt0 : Bts S wr (some ⟨ab, ao + rs[i].fr.toNat, none⟩) ((base.drop rs[i].fr.toNat).take rs[i].sz.toNat) := by
            have := (hb1.below hB).cut cb rs[i].fr.toNat rs[i].sz.toNat hcb
            unfold subA at this
            rw [if_neg g4] at this
            simpa [Addr.add_lit] using this
          have HD := hid hdat
          have g2' : rs[i].dat.length ≤ 0 := by omega
          rw [hp] at hsn hpl
          clear g2 hp hdat
          obtain ⟨W8, hW8⟩ : ∃ W8, wr.alloc (.cells #[.int .i64 rs[i].fr, .int .i64 rs[i].sz, .slice rs[i].ad rs[i].dat.length rs[i].cap] 72) = W8 := ⟨_, rfl⟩
          have hx : Blk W8 wr.heap.size 72 #[.int .i64 rs[i].fr, .int .i64 rs[i].sz, .slice rs[i].ad rs[i].dat.length rs[i].cap] := by rw [← hW8]; exact Blk.new _ _ _
          have hs8 : W8.heap.size = wr.heap.size + 1 := by rw [← hW8]; simp
          have hB8 : Below w1.heap.size w1 W8 := by rw [← hW8]; exact hB.alloc hB.size _
          have hwr : Below wr.heap.size wr W8 := by rw [← hW8]; exact (Below.refl _ _).alloc (Nat.le_refl _) _
          have hown8 := ownsRow_below hown hwr
          have hne : some wr.heap.size ≠ Value.ownBlock _ := fun e => absurd (hown.lt _ e.symm).2 (by omega)
          have hd8 := hok.bts.below hwr
          have d0 := hx.cell 0
          have d1 := hx.cell 1
          have d2 := hx.cell 2
          simp at d0 d1 d2
          have hbt := hbt0.below hwr
          have hbr : wr.heap.size < W8.drew.heap.size := by show wr.heap.size < W8.heap.size; omega
          have hs8' : w1.heap.size ≤ W8.heap.size := by have := hB.size; omega
          have hdl : rs[i].dat.length ≤ 65536 := by omega
          have H8 := hid hs8
          have HS := hid hsn
          clear hsn hfit hok hv hb1 h1 hz hs8 hpl
          go_wp2
          clear c0 c1 c2
          go_region_held3 (fun w' => w'.cell? ⟨wr.heap.size, 0, none⟩ = some (.int .i64 rs[i].fr) ∧ w'.cell? ⟨wr.heap.size, 1, none⟩ = some (.int .i64 rs[i].sz) ∧ w'.cell? ⟨wr.heap.size, 2, none⟩ = some (.slice rs[i].ad rs[i].dat.length rs[i].cap))
            (first | go_keep | (exact ⟨(hg1.cell_far _ hbr hne).trans d0, (hg1.cell_far _ hbr hne).trans d1, (hg1.cell_far _ hbr hne).trans d2⟩) | (exact ⟨(hg2.cell_far _ hbr2 hne2).trans e0, (hg2.cell_far _ hbr2 hne2).trans e1, (hg2.cell_far _ hbr2 hne2).trans e2⟩))
            ((first
              | (refine step_append_any _ (by rfl) (.tmp 22) (.tmp 31) _ (by rfl) w1.heap.size 5 i0 _ 1 1 Try.underlying23 hi0 hz0 hz1 hz2 rfl (by omega) _ n _ (by rfl) hown8.drew S (some ⟨ab, ao + rs[i].fr.toNat, none⟩) ((rs[i].fr + rs[i].sz).toNat - rs[i].fr.toNat) (cb - rs[i].fr.toNat) _ (by rfl) hbt (by rw [List.length_map]; omega) (byteV_one _) (by unfold maxLen; omega) (by omega) hs8' ?_; intro v1 w2 hown1 hg1 hat1
                 have hbr2 : wr.heap.size < w2.heap.size := Nat.lt_of_lt_of_le hbr hg1.size
                 have e0 := (hg1.cell_far ⟨wr.heap.size, 0, none⟩ hbr hne).trans d0
                 have e1 := (hg1.cell_far ⟨wr.heap.size, 1, none⟩ hbr hne).trans d1
                 have e2 := (hg1.cell_far ⟨wr.heap.size, 2, none⟩ hbr hne).trans d2
                 have hne2 : some wr.heap.size ≠ Value.ownBlock v1 := by
                   rcases hat1 with e | e
                   · rw [e]; exact hne
                   · rw [e]; intro e'; injection e' with e'; have : W8.drew.heap.size = wr.heap.size + 1 := H8.out; omega
                 have hB2 : Below w1.heap.size w1 w2 := own_below hB8.drew hown8.drew hg1 hown1
                 have hd2 : Bts S w2 rs[i].ad rs[i].dat := hD.below hB2)
              | (refine step_append_any _ (by rfl) (.tmp 32) (.tmp 34) _ (by rfl) w1.heap.size 5 i0 _ 1 1 Try.underlying23 hi0 hz0 hz1 hz2 rfl (by omega) _ _ _ (by rfl) hown1 S rs[i].ad rs[i].dat.length rs[i].cap _ (by rfl) hd2 (by simp) (byteV_one _) (by unfold maxLen; omega) (by omega) hB2.size ?_; intro v3 w3 hown2 hg2 hat2)))
          go_wp2
          go_roundw
          case rel => exact ⟨i + 1, _, by omega, by go_num, by rw [HS.out, List.map_append]; have h2 := hown2; rw [HD.out, List.map_nil, List.append_nil, List.length_nil, Nat.add_zero] at h2; exact h2, by omega, own_below hB2 hown1 hg2 hown2⟩
          case measure => simp [intOf]; omega
        · obtain ⟨g0, g1, g2⟩ := fits_ins hfit hz
          have hp : pieceS base rs[i] = rs[i].dat := by unfold pieceS; rw [if_neg hz]
          rw [hp] at hsn hpl
          rw [g1] at c0
          rw [g0] at c1
          clear hp g0 g1
          obtain ⟨W8, hW8⟩ : ∃ W8, wr.alloc (.cells #[.int .i64 0, .int .i64 0, .slice rs[i].ad rs[i].dat.length rs[i].cap] 72) = W8 := ⟨_, rfl⟩
          have hx : Blk W8 wr.heap.size 72 #[.int .i64 0, .int .i64 0, .slice rs[i].ad rs[i].dat.length rs[i].cap] := by rw [← hW8]; exact Blk.new _ _ _
          have hs8 : W8.heap.size = wr.heap.size + 1 := by rw [← hW8]; simp
          have hB8 : Below w1.heap.size w1 W8 := by rw [← hW8]; exact hB.alloc hB.size _
          have hwr : Below wr.heap.size wr W8 := by rw [← hW8]; exact (Below.refl _ _).alloc (Nat.le_refl _) _
          have hown8 := ownsRow_below hown hwr
          have hne : some wr.heap.size ≠ Value.ownBlock _ := fun e => absurd (hown.lt _ e.symm).2 (by omega)
          have hd8 := hok.bts.below hwr
          have d0 := hx.cell 0
          have d1 := hx.cell 1
          have d2 := hx.cell 2
          simp at d0 d1 d2
          have hcb0 : (0 : Int) ≤ (cb : Int) := by omega
          have hw0 : IntKind.i64.wrap 0 = 0 := rfl
          have hw1 : IntKind.i64.wrap (0 + 0) = 0 := rfl
          have hbr : wr.heap.size < W8.drew.heap.size := by show wr.heap.size < W8.heap.size; omega
          have hs8' : w1.heap.size ≤ W8.heap.size := by have := hB.size; omega
          have hdl : rs[i].dat.length ≤ 65536 := by omega
          have H8 := hid hs8
          have HS := hid hsn
          clear hsn hfit hok hv hb1 h1 hz hs8 hpl
          go_wp2
          clear c0 c1 c2
          go_region_held3 (fun w' => w'.cell? ⟨wr.heap.size, 0, none⟩ = some (.int .i64 0) ∧ w'.cell? ⟨wr.heap.size, 1, none⟩ = some (.int .i64 0) ∧ w'.cell? ⟨wr.heap.size, 2, none⟩ = some (.slice rs[i].ad rs[i].dat.length rs[i].cap))
            (first | go_keep | (exact ⟨(hg1.cell_far _ hbr hne).trans d0, (hg1.cell_far _ hbr hne).trans d1, (hg1.cell_far _ hbr hne).trans d2⟩) | (exact ⟨(hg2.cell_far _ hbr2 hne2).trans e0, (hg2.cell_far _ hbr2 hne2).trans e1, (hg2.cell_far _ hbr2 hne2).trans e2⟩))
            ((first
              | (refine step_append_any _ (by rfl) (.tmp 22) (.tmp 31) _ (by rfl) w1.heap.size 5 i0 _ 1 1 Try.underlying23 hi0 hz0 hz1 hz2 rfl (by omega) _ n _ (by rfl) hown8.drew S _ _ _ [] (by rfl) (Cells.nil _ _ _) (by simp) (by simp) (by unfold maxLen; omega) (by omega) hs8' ?_; intro v1 w2 hown1 hg1 hat1
                 have hbr2 : wr.heap.size < w2.heap.size := Nat.lt_of_lt_of_le hbr hg1.size
                 have e0 := (hg1.cell_far ⟨wr.heap.size, 0, none⟩ hbr hne).trans d0
                 have e1 := (hg1.cell_far ⟨wr.heap.size, 1, none⟩ hbr hne).trans d1
                 have e2 := (hg1.cell_far ⟨wr.heap.size, 2, none⟩ hbr hne).trans d2
                 have hne2 : some wr.heap.size ≠ Value.ownBlock v1 := by
                   rcases hat1 with e | e
                   · rw [e]; exact hne
                   · rw [e]; intro e'; injection e' with e'; have : W8.drew.heap.size = wr.heap.size + 1 := H8.out; omega
                 have hB2 : Below w1.heap.size w1 w2 := own_below hB8.drew hown8.drew hg1 hown1
                 have hd2 : Bts S w2 rs[i].ad rs[i].dat := hD.below hB2)
              | (refine step_append_any _ (by rfl) (.tmp 32) (.tmp 34) _ (by rfl) w1.heap.size 5 i0 _ 1 1 Try.underlying23 hi0 hz0 hz1 hz2 rfl (by omega) _ _ _ (by rfl) hown1 S rs[i].ad rs[i].dat.length rs[i].cap _ (by rfl) hd2 (by simp) (byteV_one _) (by unfold maxLen; omega) (by omega) hB2.size ?_; intro v3 w3 hown2 hg2 hat2)))
          go_wp2
          go_roundw
          case rel => exact ⟨i + 1, _, by omega, by go_num, by rw [HS.out, List.map_append]; have h2 := hown2; rw [List.append_nil] at h2; exact h2, by omega, own_below hB2 hown1 hg2 hown2⟩
          case measure => simp [intOf]; omega
      · go_wp2
        go_ret2
        rw [show i = rs.length by omega, List.take_length] at hown
        obtain ⟨A2, c2, e2, hc2, hm2, hb2, hB2⟩ := BytesRet.of_own hown hB
        injection e2 with e2
        subst e2
        exact ⟨A2, c2, madeS base rs, by rw [HZ.out]; rfl, by unfold applyS; rw [if_pos HZ.out], hc2, hm2, hb2.mono (fun k hk => Nat.lt_of_lt_of_le hk hB1.size), hB1.trans (hB2.mono hB1.size)⟩
  · have hz' : (checkS base.length rs == 0) = false := by simpa using hz
    go_enter Try.func20, Try.ntmps20
    go_wp2_with (go_at_call 53; refine HK.out.mono ?_; rintro e w1 ⟨rfl, hB1⟩)
    go_ret2
    exact ⟨none, 0, [], rfl, by unfold applyS; rw [if_neg hz], Nat.le_refl _, by unfold maxLen; omega, Cells.nil _ _ _, hB1⟩

theorem awake_check (A : Option Addr) : checkS 3 [⟨1, 2, none, [], 0⟩, ⟨0, 0, A, [120], 1⟩] = 0 := by
  unfold checkS
  simp [limB, amountZ, badB, fitsB, rightB]
theorem awake_apply (A : Option Addr) : applyS [97, 98, 99] [⟨1, 2, none, [], 0⟩, ⟨0, 0, A, [120], 1⟩] = [98, 99, 120] := by
  unfold applyS
  rw [if_pos (show checkS ([97, 98, 99] : List UInt8).length _ = 0 from awake_check A)]
  unfold madeS pieceS
  simp

theorem Bts.mark (w : World) (l : List UInt8) (t : TypeId) (fr : Nat × Nat) : Bts (fun _ => False) (w.alloc (.cells (l.map byteV).toArray t fr)) (some ⟨w.heap.size, 0, none⟩) l := fun j u hu => by
  refine ⟨_, rfl, fun h => h, ?_⟩
  rw [Addr.add_lit, Nat.zero_add, World.cell?_alloc_mark]
  simpa using hu

set_option maxHeartbeats 1000000 in
theorem awake_any (w : World) : Calls Try.prog 19 #[] w fun e w' => e = .returned (.bool true) ∧ Below w.heap.size w w' := by
  have kc := fun (w : World) (C : Array Value) (n c : Nat) => Lib.run_convert_bytes_const (P := Try.prog) w 23 5 C n c Try.underlying23 Try.underlying5
  have kc2 := kc (w.alloc (.cells #[.int .u8 97, .int .u8 98, .int .u8 99] 5 (3, 4))) #[.int .u8 120] 1 1
  rw [World.size_alloc] at kc2
  go_enter Try.func19, Try.ntmps19
  go_wp2_with fail
  obtain ⟨w1, hw1⟩ : ∃ w1, ((w.alloc (.cells #[.int .u8 97, .int .u8 98, .int .u8 99] 5 (3, 4))).alloc (.cells #[.int .u8 120] 5 (1, 2))).alloc (.cells #[.int .i64 1, .int .i64 2, .slice none 0 0, .int .i64 0, .int .i64 0, .slice (some ⟨w.heap.size + 1, 0, none⟩) 1 1] 72) = w1 := ⟨_, rfl⟩
  rw [hw1]
  have hb : Bts (fun _ => False) w1 (some ⟨w.heap.size, 0, none⟩) [97, 98, 99] := by
    rw [← hw1]
    exact Cells.alloc (Cells.alloc (Bts.mark w [97, 98, 99] 5 (3, 4)) _) _
  have hd : Bts (fun _ => False) w1 (some ⟨w.heap.size + 1, 0, none⟩) [120] := by
    rw [← hw1]
    have := Bts.mark (w.alloc (.cells #[.int .u8 97, .int .u8 98, .int .u8 99] 5 (3, 4))) [120] 5 (1, 2)
    rw [World.size_alloc] at this
    exact Cells.alloc this _
  have ho : OpsAt (fun _ => False) w1 (some ⟨w.heap.size + 2, 0, none⟩) [⟨1, 2, none, [], 0⟩, ⟨0, 0, some ⟨w.heap.size + 1, 0, none⟩, [120], 1⟩] := by
    refine ⟨?_, ?_⟩
    · rw [← hw1]
      have := Cells.new ((w.alloc (.cells #[.int .u8 97, .int .u8 98, .int .u8 99] 5 (3, 4))).alloc (.cells #[.int .u8 120] 5 (1, 2))) #[.int .i64 1, .int .i64 2, .slice none 0 0, .int .i64 0, .int .i64 0, .slice (some ⟨w.heap.size + 1, 0, none⟩) 1 1] 72
      rw [World.size_alloc, World.size_alloc] at this
      exact this
    · intro r hr
      rcases List.mem_cons.1 hr with rfl | hr
      · exact ⟨Cells.nil _ _ _, Nat.le_refl _, by unfold maxLen; simp, by simp, by simp⟩
      · simp at hr
        subst hr
        exact ⟨hd, Nat.le_refl _, by unfold maxLen; simp, by simp, by simp⟩
  have hB : Below w.heap.size w w1 := by rw [← hw1]; exact (((Below.refl _ w).alloc (Nat.le_refl _) _).alloc (by simp) _).alloc (by simp; omega) _
  clear hw1 kc kc2
  refine (apply_any _ _ _ 3 (Nat.le_refl _) (by omega) _ _ 2 (by simp) w1 hb ho).mono ?_
  rintro e w2 ⟨A, c, l, rfl, hl, hlc, _, hbl, hB2⟩
  rw [awake_apply] at hl
  have hck := awake_check (some ⟨w.heap.size + 1, 0, none⟩)
  have HK := hid hck
  clear hck
  rw [show ([97, 98, 99] : List UInt8).length = 3 from rfl, HK.out]
  have cs := Bts.string (P := Try.prog) hbl 23 9 5 c Try.underlying23 Try.underlying5 Try.underlying9
  have hl3 : bstr l = ⟨#[98, 99, 120]⟩ := by rw [hl]; rfl
  rw [hl3] at cs
  clear hl hl3
  go_wp2_with fail
  go_ret
  exact ⟨rfl, hB.trans (hB2.mono hB.size)⟩

end Go.Proofs.Ytbnmcdnkeipdhaa.Old
