/- Apply. -/
import Derived.Test.YtpneplgaeiomkaaWn
set_option linter.all false
set_option maxRecDepth 20000
set_option maxHeartbeats 4000000
namespace Go.Proofs.Ytpneplgaeiomkaa
open Go.RowKit Go.Shelf
theorem set_get {α : Type _} {l : List α} {i : Nat} {a : α} (h : i < l.length) : (l.set i a)[i]? = some a := by simp [h]
structure XvR where
  kind : Int
  rep : Int
  snap : Int
  bits : Int
def XvR.row (x : XvR) : List Cell := [.int .i64 x.kind, .int .i64 x.rep, .int .i64 x.snap, .int .i64 x.bits]
abbrev XvR.v (x : XvR) : SV := .agg (x.row.map .d)
def Cl.none_ : Cl := ⟨false, [], [], []⟩
/-- The error of an event: 0, 39 or 3. -/
def applyE (c : Cl) (x : XvR) : Int :=
  if validB c = true then
    if x.kind = 1 then
      if x.rep = 0 ∧ x.snap = 0 ∧ inB x.bits 0 3 = true then (if 120 < c.sets.length then 3 else 0) else 39
    else if x.kind = 2 ∨ x.kind = 3 ∨ x.kind = 4 then
      if x.bits = 0 ∧ (x.kind = 4 ∨ x.snap = 0) ∧ inB x.rep 0 ((c.reps.length : Int) - 1) = true ∧ (x.kind = 4 → inB x.snap 0 ((c.snaps.length : Int) - 1) = true) then
        (if x.kind = 3 ∧ 120 ≤ c.snaps.length then 3 else 0)
      else 39
    else 39
  else 39
/-- The cluster behind an event without an error. -/
def applyM (c : Cl) (x : XvR) : Cl :=
  if x.kind = 1 then { c with sets := c.sets ++ [x.bits] }
  else if x.kind = 2 then { c with reps := c.reps.set x.rep.toNat ⟨(c.sets.length : Int) - 1, true⟩ }
  else if x.kind = 3 then { c with snaps := c.snaps ++ [(c.rep x.rep).gen] }
  else { c with reps := c.reps.set x.rep.toNat ⟨c.snaps.getD x.snap.toNat 0, !c.fence⟩ }
def applyC (c : Cl) (x : XvR) : Cl := if applyE c x = 0 then applyM c x else Cl.none_
theorem xv_eqT : eqT Try.prog 57 = some [.i, .i, .i, .i] := by decide +kernel
def xvEq (x y : XvR) : Bool := decide (x.kind = y.kind) && (decide (x.rep = y.rep) && (decide (x.snap = y.snap) && (decide (x.bits = y.bits) && true)))
theorem xv_cells (x y : XvR) : cellsEq [.i, .i, .i, .i] (x.row.map .d) (y.row.map .d) = some (xvEq x y) := by
  simp [cellsEq, XvR.row, cellEq, xvEq]
theorem E1 {c : Cl} {x : XvR} (hv : validB c = true) (h : x.kind = 1) : applyE c x = if x.rep = 0 ∧ x.snap = 0 ∧ inB x.bits 0 3 = true then (if 120 < c.sets.length then 3 else 0) else 39 := by
  simp [applyE, hv, h]
theorem E2 {c : Cl} {x : XvR} (hv : validB c = true) (h : x.kind = 2) : applyE c x = if x.bits = 0 ∧ x.snap = 0 ∧ inB x.rep 0 ((c.reps.length : Int) - 1) = true then 0 else 39 := by
  simp [applyE, hv, h]
theorem E3 {c : Cl} {x : XvR} (hv : validB c = true) (h : x.kind = 3) : applyE c x = if x.bits = 0 ∧ x.snap = 0 ∧ inB x.rep 0 ((c.reps.length : Int) - 1) = true then (if 120 ≤ c.snaps.length then 3 else 0) else 39 := by
  simp [applyE, hv, h]
theorem E4 {c : Cl} {x : XvR} (hv : validB c = true) (h : x.kind = 4) : applyE c x = if x.bits = 0 ∧ inB x.rep 0 ((c.reps.length : Int) - 1) = true ∧ inB x.snap 0 ((c.snaps.length : Int) - 1) = true then 0 else 39 := by
  simp [applyE, hv, h]
theorem E0 {c : Cl} {x : XvR} (h1 : ¬ x.kind = 1) (h2 : ¬ x.kind = 2) (h3 : ¬ x.kind = 3) (h4 : ¬ x.kind = 4) : applyE c x = 39 := by
  simp [applyE, h1, h2, h3, h4]
theorem fin_err {c : Cl} {x : XvR} {e : Int} (h : applyE c x = e) (he : e ≠ 0) : SV.tup [.agg [.d (.bool false), .d (.list []), .d (.list []), .d (.list [])], iv e] = .tup [(applyC c x).v, iv (applyE c x)] := by
  simp only [applyC, h, he, if_false]; rfl
theorem fin_ok {c c' : Cl} {x : XvR} (h : applyE c x = 0) (hm : applyM c x = c') : SV.tup [c'.v, iv 0] = .tup [(applyC c x).v, iv (applyE c x)] := by
  simp only [applyC, h, hm, if_true]
theorem xvEq_a {x : XvR} (h : x.bits = 0 ∧ x.snap = 0) : xvEq x ⟨x.kind, x.rep, 0, 0⟩ = true := by simp [xvEq, h.1, h.2]
theorem xvEq_b {x : XvR} (h : ¬ (x.bits = 0 ∧ x.snap = 0)) : xvEq x ⟨x.kind, x.rep, 0, 0⟩ = false := by
  rw [Bool.eq_false_iff]; intro hh; simp [xvEq] at hh; exact h ⟨hh.2, hh.1⟩
theorem xvEq_c {x : XvR} (h : x.bits = 0) : xvEq x ⟨x.kind, x.rep, x.snap, 0⟩ = true := by simp [xvEq, h]
theorem xvEq_d {x : XvR} (h : ¬ x.bits = 0) : xvEq x ⟨x.kind, x.rep, x.snap, 0⟩ = false := by
  rw [Bool.eq_false_iff]; intro hh; simp [xvEq] at hh; exact h hh
theorem xvEq_e (x : XvR) {b : Int} (h : ¬ (x.rep = 0 ∧ x.snap = 0 ∧ x.bits = b)) : xvEq x ⟨x.kind, 0, 0, b⟩ = false := by
  rw [Bool.eq_false_iff]; intro hh; simp [xvEq] at hh; exact h hh
theorem rep_get {c : Cl} {i : Int} (h : i.toNat < c.reps.length) : (c.reps[i.toNat]'h) = c.rep i := by unfold Cl.rep; simp [h]
theorem Apply_ic (c : Cl) (x : XvR) : ICt 40 [c.v, x.v] (fun v => v = .tup [(applyC c x).v, iv (applyE c x)]) := by
  refine ic_wk (K 147) Try.func40 rfl rfl rfl rfl (fun w0 => ?_)
  refine k_agg (x := 0) 2 rfl rfl fun ho => ?_
  have hl1 := ho.map.1
  refine k_agg (x := 0) 1 rfl rfl fun ho => ?_
  have hl2 := ho.map.1
  refine k_agg (x := 0) 3 rfl rfl fun ho => ?_
  have hl3 := ho.map.1
  by_cases hv : validB c = true
  · have hsm := valid_small hv
    have hlen := valid_len hv
    by_cases h1 : x.kind = 1
    · have e1 : decide (x.kind = 1) = true := by simp [h1]
      repeat' (first
    | ((with_reducible apply c_l1); exact rfl; exact rfl)
    | ((with_reducible apply c_l2); exact rfl; exact rfl)
    | ((with_reducible apply c_l3); exact rfl)
    | (with_reducible (first | apply c_seq | apply c_rg | apply j_nil | apply q_n | apply g_tt | apply g_ff | apply c_ct | apply c_cf | apply c_bl | apply c_ex | apply c_ret | apply c_sk | apply q_r | apply q_e | apply b_r | apply b_e | apply b_n | apply n_n | apply n_r | apply n_e))
    | ((with_reducible apply j_v); exact rfl; exact rfl)
    | ((with_reducible apply j_h); exact rfl; exact rfl)
    | ((with_reducible apply j_s); exact rfl)
    | ((with_reducible apply j_g); exact rfl; exact rfl; (first | with_reducible assumption | with_reducible exact Eq.refl true | with_reducible exact Eq.refl false | (with_reducible refine not_t ?_; with_reducible assumption) | (with_reducible refine not_f ?_; with_reducible assumption) | (refine dec_t ?_; decide) | (refine dec_f ?_; decide)))
    | ((with_reducible apply g_tf); exact rfl)
    | ((with_reducible apply g_ft); exact rfl)
    | ((with_reducible apply j_gz); exact rfl; exact rfl; exact rfl)
    | ((with_reducible apply j_lenm); exact rfl; exact rfl; exact rfl)
    | ((with_reducible apply j_lens); exact rfl; exact rfl; exact rfl)
    | ((with_reducible apply j_len); exact rfl; exact rfl; exact rfl)
    | ((with_reducible apply j_len0); exact rfl; exact rfl; exact rfl)
    | ((with_reducible apply j_pk); exact rfl; exact rfl; (first | with_reducible assumption | with_reducible exact Eq.refl true | with_reducible exact Eq.refl false | (with_reducible refine not_t ?_; with_reducible assumption) | (with_reducible refine not_f ?_; with_reducible assumption) | (refine dec_t ?_; decide) | (refine dec_f ?_; decide)); exact rfl)
    | ((with_reducible apply j_ld_el1); exact rfl; exact rfl; exact rfl; exact rfl; (first | with_reducible assumption | exact map_get (by omega) | exact set_get (by simp; omega) | exact rfl); exact rfl)
    | ((with_reducible apply j_sub); exact rfl; exact rfl; exact rfl; exact Go.IntWalk.i64_in _ (by omega))
    | ((with_reducible apply j_ia); exact rfl; exact rfl; exact rfl; exact rfl; omega; (first | with_reducible exact Int.toNat_natCast _ | exact rfl); (first | with_reducible assumption | exact map_get (by omega) | exact set_get (by simp; omega) | exact rfl); exact rfl; exact rfl)
    | ((with_reducible apply j_ia_sl); exact rfl; exact rfl; exact rfl; exact rfl; omega; omega; (first | with_reducible exact Int.toNat_natCast _ | exact rfl))
    | ((with_reducible apply j_ia_ar); exact rfl; exact rfl; exact rfl; exact rfl; omega; omega; (first | with_reducible exact Int.toNat_natCast _ | exact rfl))
    | ((with_reducible apply j_ste); exact rfl; exact rfl; exact rfl; exact rfl; exact rfl; exact rfl; (first | with_reducible assumption | exact map_get (by omega) | exact set_get (by simp; omega) | exact rfl); exact Nat.le_of_ble_eq_true rfl; exact rfl)
    | ((with_reducible apply j_ap); exact rfl; exact rfl; exact rfl; exact rfl; exact rfl; exact rfl; exact rfl; exact rfl; exact rfl; (first | exact rfl | exact (List.length_map _).symm | omega | (simp only [List.length_set, List.length_map, List.length_append] <;> omega) | (simp; done)); (first | (apply src_sl; exact rfl; exact rfl; exact rfl) | (apply src_sl; exact rfl; exact rfl; rw [List.length_map]; omega) | (apply src_nil; exact rfl) | (apply src_d; exact rfl; (intro row hrow; obtain ⟨q, _, rfl⟩ := List.mem_map.1 hrow; rfl))); exact rfl; (first | decide | (show (_ + 1) * _ ≤ _; rw [List.length_map]; omega) | omega | (simp only [List.length_set, List.length_map, List.length_append]; done) | (simp; omega)); exact rfl)
    | ((with_reducible apply j_ap0); exact rfl; exact rfl; exact rfl; exact rfl; exact rfl; exact rfl; (first | (apply src_sl; exact rfl; exact rfl; exact rfl) | (apply src_sl; exact rfl; exact rfl; rw [List.length_map]; omega) | (apply src_nil; exact rfl) | (apply src_d; exact rfl; (intro row hrow; obtain ⟨q, _, rfl⟩ := List.mem_map.1 hrow; rfl))); exact rfl; (first | decide | (show (_ + 1) * _ ≤ _; rw [List.length_map]; omega) | omega | (simp only [List.length_set, List.length_map, List.length_append]; done) | (simp; omega)); exact rfl)
    | ((with_reducible apply c_c); exact rfl; (first | with_reducible assumption | with_reducible exact Eq.refl true | with_reducible exact Eq.refl false | (with_reducible refine not_t ?_; with_reducible assumption) | (with_reducible refine not_f ?_; with_reducible assumption) | (refine dec_t ?_; decide) | (refine dec_f ?_; decide)))
    | ((with_reducible apply b_o); exact rfl)
    | ((with_reducible apply r_g); exact rfl; (· repeat' (first | exact True.intro | refine And.intro ?_ ?_ | (first | exact rfl | exact (List.length_map _).symm | omega | (simp only [List.length_set, List.length_map, List.length_append] <;> omega) | (simp; done)))))
    | refine Copy_j c hsm rfl (by repeat' (first | exact .nil _ | refine .cons ?_ ?_ | exact .one (.d _ _) | exact .one (.nil _) | exact .one (.tape _) | exact .one (.fn _ _) | exact .agg (.same _ _) | refine .agg ?_ | exact .d _ _ | exact .one (.sl rfl rfl) | exact .sl rfl rfl | refine .one (PsC.ref rfl ?_) | refine PsC.ref rfl ?_ | refine .one (PsC.rp ?_) | refine PsC.rp ?_ | refine .one (PsC.clo ?_) | refine PsC.clo ?_ | exact .same _ _)) rfl rfl ?_
    | refine j_sne xv_eqT rfl rfl rfl (xv_cells x ⟨x.kind, 0, 0, x.bits⟩) ?_
    | ((with_reducible apply j_call (pu := false)); exact rfl; exact valid_ic c; (focus ((repeat' (first | exact .nil _ | refine .cons ?_ ?_ | exact .one (.d _ _) | exact .one (.nil _) | exact .one (.tape _) | exact .one (.fn _ _) | exact .agg (.same _ _) | refine .agg ?_ | exact .d _ _ | exact .one (.sl rfl rfl) | exact .sl rfl rfl | exact .same _ _)) <;> fail)); exact .inr rfl)
    | ((with_reducible apply j_call (pu := false)); exact rfl; apply (in_ic _ _ _); rotate_left 3; (focus ((repeat' (first | exact .nil _ | refine .cons ?_ ?_ | exact .one (.d _ _) | exact .one (.nil _) | exact .one (.tape _) | exact .one (.fn _ _) | exact .agg (.same _ _) | refine .agg ?_ | exact .d _ _ | exact .one (.sl rfl rfl) | exact .sl rfl rfl | exact .same _ _)) <;> fail)); exact .inr rfl)
    | (with_reducible rfl)
    | ((with_reducible apply j_gs); exact rfl; exact rfl; all_goals intro hg)
    | ((with_reducible apply c_if); exact rfl; all_goals intro hc))
      · refine fin_err ((E1 hv h1).trans (if_neg ?_)) (by decide)
        rintro ⟨q1, q2, _⟩; simp [xvEq, q1, q2] at hg
      · refine fin_err ((E1 hv h1).trans (if_neg ?_)) (by decide)
        rintro ⟨q1, q2, q3⟩; simp [q3] at hc
      · simp [xvEq] at hg
        rename_i hc1
        simp at hc1 hc
        refine fin_err ((E1 hv h1).trans ((if_pos ⟨hg.1, hg.2, hc1⟩).trans (if_pos (by omega)))) (by decide)
      · simp [xvEq] at hg
        rename_i hc1
        simp at hc1 hc
        refine Eq.trans ?_ (fin_ok (c' := { c with sets := c.sets ++ [x.bits] }) ((E1 hv h1).trans ((if_pos ⟨hg.1, hg.2, hc1⟩).trans (if_neg (by omega)))) (by simp [applyM, h1]))
        simp only [Cl.v, Cl.row, ints, List.map_append]
        rfl
    have e1 : decide (x.kind = 1) = false := by simp [h1]
    by_cases h2 : x.kind = 2
    · have e2 : decide (x.kind = 2) = true := by simp [h2]
      have e3 : decide (x.kind = 3) = false := by simp [h2]
      have e4 : decide (x.kind = 4) = false := by simp [h2]
      have hk : inB x.kind 2 4 = true := by rw [h2]; rfl
      by_cases hx : x.bits = 0 ∧ x.snap = 0
      · have hq := xvEq_a hx
        by_cases hin : inB x.rep 0 ((c.reps.length : Int) - 1) = true
        · have hi := (inB_iff _ _ _).1 hin
          repeat' (first
    | ((with_reducible apply c_l1); exact rfl; exact rfl)
    | ((with_reducible apply c_l2); exact rfl; exact rfl)
    | ((with_reducible apply c_l3); exact rfl)
    | (with_reducible (first | apply c_seq | apply c_rg | apply j_nil | apply q_n | apply g_tt | apply g_ff | apply c_ct | apply c_cf | apply c_bl | apply c_ex | apply c_ret | apply c_sk | apply q_r | apply q_e | apply b_r | apply b_e | apply b_n | apply n_n | apply n_r | apply n_e))
    | ((with_reducible apply j_v); exact rfl; exact rfl)
    | ((with_reducible apply j_h); exact rfl; exact rfl)
    | ((with_reducible apply j_s); exact rfl)
    | ((with_reducible apply j_g); exact rfl; exact rfl; (first | with_reducible assumption | with_reducible exact Eq.refl true | with_reducible exact Eq.refl false | (with_reducible refine not_t ?_; with_reducible assumption) | (with_reducible refine not_f ?_; with_reducible assumption) | (refine dec_t ?_; decide) | (refine dec_f ?_; decide)))
    | ((with_reducible apply g_tf); exact rfl)
    | ((with_reducible apply g_ft); exact rfl)
    | ((with_reducible apply j_gz); exact rfl; exact rfl; exact rfl)
    | ((with_reducible apply j_lenm); exact rfl; exact rfl; exact rfl)
    | ((with_reducible apply j_lens); exact rfl; exact rfl; exact rfl)
    | ((with_reducible apply j_len); exact rfl; exact rfl; exact rfl)
    | ((with_reducible apply j_len0); exact rfl; exact rfl; exact rfl)
    | ((with_reducible apply j_pk); exact rfl; exact rfl; (first | with_reducible assumption | with_reducible exact Eq.refl true | with_reducible exact Eq.refl false | (with_reducible refine not_t ?_; with_reducible assumption) | (with_reducible refine not_f ?_; with_reducible assumption) | (refine dec_t ?_; decide) | (refine dec_f ?_; decide)); exact rfl)
    | ((with_reducible apply j_ld_el1); exact rfl; exact rfl; exact rfl; exact rfl; (first | with_reducible assumption | exact map_get (by omega) | exact set_get (by simp; omega) | exact rfl); exact rfl)
    | ((with_reducible apply j_sub); exact rfl; exact rfl; exact rfl; exact Go.IntWalk.i64_in _ (by omega))
    | ((with_reducible apply j_ia); exact rfl; exact rfl; exact rfl; exact rfl; omega; (first | with_reducible exact Int.toNat_natCast _ | exact rfl); (first | with_reducible assumption | exact map_get (by omega) | exact set_get (by simp; omega) | exact rfl); exact rfl; exact rfl)
    | ((with_reducible apply j_ia_sl); exact rfl; exact rfl; exact rfl; exact rfl; omega; omega; (first | with_reducible exact Int.toNat_natCast _ | exact rfl))
    | ((with_reducible apply j_ia_ar); exact rfl; exact rfl; exact rfl; exact rfl; omega; omega; (first | with_reducible exact Int.toNat_natCast _ | exact rfl))
    | ((with_reducible apply j_ste); exact rfl; exact rfl; exact rfl; exact rfl; exact rfl; exact rfl; (first | with_reducible assumption | exact map_get (by omega) | exact set_get (by simp; omega) | exact rfl); exact Nat.le_of_ble_eq_true rfl; exact rfl)
    | ((with_reducible apply j_ap); exact rfl; exact rfl; exact rfl; exact rfl; exact rfl; exact rfl; exact rfl; exact rfl; exact rfl; (first | exact rfl | exact (List.length_map _).symm | omega | (simp only [List.length_set, List.length_map, List.length_append] <;> omega) | (simp; done)); (first | (apply src_sl; exact rfl; exact rfl; exact rfl) | (apply src_sl; exact rfl; exact rfl; rw [List.length_map]; omega) | (apply src_nil; exact rfl) | (apply src_d; exact rfl; (intro row hrow; obtain ⟨q, _, rfl⟩ := List.mem_map.1 hrow; rfl))); exact rfl; (first | decide | (show (_ + 1) * _ ≤ _; rw [List.length_map]; omega) | omega | (simp only [List.length_set, List.length_map, List.length_append]; done) | (simp; omega)); exact rfl)
    | ((with_reducible apply j_ap0); exact rfl; exact rfl; exact rfl; exact rfl; exact rfl; exact rfl; (first | (apply src_sl; exact rfl; exact rfl; exact rfl) | (apply src_sl; exact rfl; exact rfl; rw [List.length_map]; omega) | (apply src_nil; exact rfl) | (apply src_d; exact rfl; (intro row hrow; obtain ⟨q, _, rfl⟩ := List.mem_map.1 hrow; rfl))); exact rfl; (first | decide | (show (_ + 1) * _ ≤ _; rw [List.length_map]; omega) | omega | (simp only [List.length_set, List.length_map, List.length_append]; done) | (simp; omega)); exact rfl)
    | ((with_reducible apply c_c); exact rfl; (first | with_reducible assumption | with_reducible exact Eq.refl true | with_reducible exact Eq.refl false | (with_reducible refine not_t ?_; with_reducible assumption) | (with_reducible refine not_f ?_; with_reducible assumption) | (refine dec_t ?_; decide) | (refine dec_f ?_; decide)))
    | ((with_reducible apply b_o); exact rfl)
    | ((with_reducible apply r_g); exact rfl; (· repeat' (first | exact True.intro | refine And.intro ?_ ?_ | (first | exact rfl | exact (List.length_map _).symm | omega | (simp only [List.length_set, List.length_map, List.length_append] <;> omega) | (simp; done)))))
    | refine Copy_j c hsm rfl (by repeat' (first | exact .nil _ | refine .cons ?_ ?_ | exact .one (.d _ _) | exact .one (.nil _) | exact .one (.tape _) | exact .one (.fn _ _) | exact .agg (.same _ _) | refine .agg ?_ | exact .d _ _ | exact .one (.sl rfl rfl) | exact .sl rfl rfl | refine .one (PsC.ref rfl ?_) | refine PsC.ref rfl ?_ | refine .one (PsC.rp ?_) | refine PsC.rp ?_ | refine .one (PsC.clo ?_) | refine PsC.clo ?_ | exact .same _ _)) rfl rfl ?_
    | refine j_sne xv_eqT rfl rfl rfl (xv_cells x ⟨x.kind, x.rep, 0, 0⟩) ?_
    | ((with_reducible apply j_call (pu := false)); exact rfl; exact valid_ic c; (focus ((repeat' (first | exact .nil _ | refine .cons ?_ ?_ | exact .one (.d _ _) | exact .one (.nil _) | exact .one (.tape _) | exact .one (.fn _ _) | exact .agg (.same _ _) | refine .agg ?_ | exact .d _ _ | exact .one (.sl rfl rfl) | exact .sl rfl rfl | exact .same _ _)) <;> fail)); exact .inr rfl)
    | ((with_reducible apply j_call (pu := false)); exact rfl; apply (in_ic _ _ _); rotate_left 3; (focus ((repeat' (first | exact .nil _ | refine .cons ?_ ?_ | exact .one (.d _ _) | exact .one (.nil _) | exact .one (.tape _) | exact .one (.fn _ _) | exact .agg (.same _ _) | refine .agg ?_ | exact .d _ _ | exact .one (.sl rfl rfl) | exact .sl rfl rfl | exact .same _ _)) <;> fail)); exact .inr rfl)
    | (with_reducible rfl)
    | ((with_reducible apply j_gs); exact rfl; exact rfl; all_goals intro hg)
    | ((with_reducible apply c_if); exact rfl; all_goals intro hc))
          refine Eq.trans ?_ (fin_ok (c' := { c with reps := c.reps.set x.rep.toNat ⟨(c.sets.length : Int) - 1, true⟩ }) ((E2 hv h2).trans (if_pos ⟨hx.1, hx.2, hin⟩)) (by simp [applyM, h2]))
          simp only [Cl.v, Cl.row, List.map_set, List.set_set]
          rfl
        · simp only [Bool.not_eq_true] at hin
          repeat' (first
    | ((with_reducible apply c_l1); exact rfl; exact rfl)
    | ((with_reducible apply c_l2); exact rfl; exact rfl)
    | ((with_reducible apply c_l3); exact rfl)
    | (with_reducible (first | apply c_seq | apply c_rg | apply j_nil | apply q_n | apply g_tt | apply g_ff | apply c_ct | apply c_cf | apply c_bl | apply c_ex | apply c_ret | apply c_sk | apply q_r | apply q_e | apply b_r | apply b_e | apply b_n | apply n_n | apply n_r | apply n_e))
    | ((with_reducible apply j_v); exact rfl; exact rfl)
    | ((with_reducible apply j_h); exact rfl; exact rfl)
    | ((with_reducible apply j_s); exact rfl)
    | ((with_reducible apply j_g); exact rfl; exact rfl; (first | with_reducible assumption | with_reducible exact Eq.refl true | with_reducible exact Eq.refl false | (with_reducible refine not_t ?_; with_reducible assumption) | (with_reducible refine not_f ?_; with_reducible assumption) | (refine dec_t ?_; decide) | (refine dec_f ?_; decide)))
    | ((with_reducible apply g_tf); exact rfl)
    | ((with_reducible apply g_ft); exact rfl)
    | ((with_reducible apply j_gz); exact rfl; exact rfl; exact rfl)
    | ((with_reducible apply j_lenm); exact rfl; exact rfl; exact rfl)
    | ((with_reducible apply j_lens); exact rfl; exact rfl; exact rfl)
    | ((with_reducible apply j_len); exact rfl; exact rfl; exact rfl)
    | ((with_reducible apply j_len0); exact rfl; exact rfl; exact rfl)
    | ((with_reducible apply j_pk); exact rfl; exact rfl; (first | with_reducible assumption | with_reducible exact Eq.refl true | with_reducible exact Eq.refl false | (with_reducible refine not_t ?_; with_reducible assumption) | (with_reducible refine not_f ?_; with_reducible assumption) | (refine dec_t ?_; decide) | (refine dec_f ?_; decide)); exact rfl)
    | ((with_reducible apply j_ld_el1); exact rfl; exact rfl; exact rfl; exact rfl; (first | with_reducible assumption | exact map_get (by omega) | exact set_get (by simp; omega) | exact rfl); exact rfl)
    | ((with_reducible apply j_sub); exact rfl; exact rfl; exact rfl; exact Go.IntWalk.i64_in _ (by omega))
    | ((with_reducible apply j_ia); exact rfl; exact rfl; exact rfl; exact rfl; omega; (first | with_reducible exact Int.toNat_natCast _ | exact rfl); (first | with_reducible assumption | exact map_get (by omega) | exact set_get (by simp; omega) | exact rfl); exact rfl; exact rfl)
    | ((with_reducible apply j_ia_sl); exact rfl; exact rfl; exact rfl; exact rfl; omega; omega; (first | with_reducible exact Int.toNat_natCast _ | exact rfl))
    | ((with_reducible apply j_ia_ar); exact rfl; exact rfl; exact rfl; exact rfl; omega; omega; (first | with_reducible exact Int.toNat_natCast _ | exact rfl))
    | ((with_reducible apply j_ste); exact rfl; exact rfl; exact rfl; exact rfl; exact rfl; exact rfl; (first | with_reducible assumption | exact map_get (by omega) | exact set_get (by simp; omega) | exact rfl); exact Nat.le_of_ble_eq_true rfl; exact rfl)
    | ((with_reducible apply j_ap); exact rfl; exact rfl; exact rfl; exact rfl; exact rfl; exact rfl; exact rfl; exact rfl; exact rfl; (first | exact rfl | exact (List.length_map _).symm | omega | (simp only [List.length_set, List.length_map, List.length_append] <;> omega) | (simp; done)); (first | (apply src_sl; exact rfl; exact rfl; exact rfl) | (apply src_sl; exact rfl; exact rfl; rw [List.length_map]; omega) | (apply src_nil; exact rfl) | (apply src_d; exact rfl; (intro row hrow; obtain ⟨q, _, rfl⟩ := List.mem_map.1 hrow; rfl))); exact rfl; (first | decide | (show (_ + 1) * _ ≤ _; rw [List.length_map]; omega) | omega | (simp only [List.length_set, List.length_map, List.length_append]; done) | (simp; omega)); exact rfl)
    | ((with_reducible apply j_ap0); exact rfl; exact rfl; exact rfl; exact rfl; exact rfl; exact rfl; (first | (apply src_sl; exact rfl; exact rfl; exact rfl) | (apply src_sl; exact rfl; exact rfl; rw [List.length_map]; omega) | (apply src_nil; exact rfl) | (apply src_d; exact rfl; (intro row hrow; obtain ⟨q, _, rfl⟩ := List.mem_map.1 hrow; rfl))); exact rfl; (first | decide | (show (_ + 1) * _ ≤ _; rw [List.length_map]; omega) | omega | (simp only [List.length_set, List.length_map, List.length_append]; done) | (simp; omega)); exact rfl)
    | ((with_reducible apply c_c); exact rfl; (first | with_reducible assumption | with_reducible exact Eq.refl true | with_reducible exact Eq.refl false | (with_reducible refine not_t ?_; with_reducible assumption) | (with_reducible refine not_f ?_; with_reducible assumption) | (refine dec_t ?_; decide) | (refine dec_f ?_; decide)))
    | ((with_reducible apply b_o); exact rfl)
    | ((with_reducible apply r_g); exact rfl; (· repeat' (first | exact True.intro | refine And.intro ?_ ?_ | (first | exact rfl | exact (List.length_map _).symm | omega | (simp only [List.length_set, List.length_map, List.length_append] <;> omega) | (simp; done)))))
    | refine Copy_j c hsm rfl (by repeat' (first | exact .nil _ | refine .cons ?_ ?_ | exact .one (.d _ _) | exact .one (.nil _) | exact .one (.tape _) | exact .one (.fn _ _) | exact .agg (.same _ _) | refine .agg ?_ | exact .d _ _ | exact .one (.sl rfl rfl) | exact .sl rfl rfl | refine .one (PsC.ref rfl ?_) | refine PsC.ref rfl ?_ | refine .one (PsC.rp ?_) | refine PsC.rp ?_ | refine .one (PsC.clo ?_) | refine PsC.clo ?_ | exact .same _ _)) rfl rfl ?_
    | refine j_sne xv_eqT rfl rfl rfl (xv_cells x ⟨x.kind, x.rep, 0, 0⟩) ?_
    | ((with_reducible apply j_call (pu := false)); exact rfl; exact valid_ic c; (focus ((repeat' (first | exact .nil _ | refine .cons ?_ ?_ | exact .one (.d _ _) | exact .one (.nil _) | exact .one (.tape _) | exact .one (.fn _ _) | exact .agg (.same _ _) | refine .agg ?_ | exact .d _ _ | exact .one (.sl rfl rfl) | exact .sl rfl rfl | exact .same _ _)) <;> fail)); exact .inr rfl)
    | ((with_reducible apply j_call (pu := false)); exact rfl; apply (in_ic _ _ _); rotate_left 3; (focus ((repeat' (first | exact .nil _ | refine .cons ?_ ?_ | exact .one (.d _ _) | exact .one (.nil _) | exact .one (.tape _) | exact .one (.fn _ _) | exact .agg (.same _ _) | refine .agg ?_ | exact .d _ _ | exact .one (.sl rfl rfl) | exact .sl rfl rfl | exact .same _ _)) <;> fail)); exact .inr rfl)
    | (with_reducible rfl)
    | ((with_reducible apply j_gs); exact rfl; exact rfl; all_goals intro hg)
    | ((with_reducible apply c_if); exact rfl; all_goals intro hc))
          refine fin_err ((E2 hv h2).trans (if_neg fun q => ?_)) (by decide)
          rw [q.2.2] at hin; cases hin
      · have hq := xvEq_b hx
        repeat' (first
    | ((with_reducible apply c_l1); exact rfl; exact rfl)
    | ((with_reducible apply c_l2); exact rfl; exact rfl)
    | ((with_reducible apply c_l3); exact rfl)
    | (with_reducible (first | apply c_seq | apply c_rg | apply j_nil | apply q_n | apply g_tt | apply g_ff | apply c_ct | apply c_cf | apply c_bl | apply c_ex | apply c_ret | apply c_sk | apply q_r | apply q_e | apply b_r | apply b_e | apply b_n | apply n_n | apply n_r | apply n_e))
    | ((with_reducible apply j_v); exact rfl; exact rfl)
    | ((with_reducible apply j_h); exact rfl; exact rfl)
    | ((with_reducible apply j_s); exact rfl)
    | ((with_reducible apply j_g); exact rfl; exact rfl; (first | with_reducible assumption | with_reducible exact Eq.refl true | with_reducible exact Eq.refl false | (with_reducible refine not_t ?_; with_reducible assumption) | (with_reducible refine not_f ?_; with_reducible assumption) | (refine dec_t ?_; decide) | (refine dec_f ?_; decide)))
    | ((with_reducible apply g_tf); exact rfl)
    | ((with_reducible apply g_ft); exact rfl)
    | ((with_reducible apply j_gz); exact rfl; exact rfl; exact rfl)
    | ((with_reducible apply j_lenm); exact rfl; exact rfl; exact rfl)
    | ((with_reducible apply j_lens); exact rfl; exact rfl; exact rfl)
    | ((with_reducible apply j_len); exact rfl; exact rfl; exact rfl)
    | ((with_reducible apply j_len0); exact rfl; exact rfl; exact rfl)
    | ((with_reducible apply j_pk); exact rfl; exact rfl; (first | with_reducible assumption | with_reducible exact Eq.refl true | with_reducible exact Eq.refl false | (with_reducible refine not_t ?_; with_reducible assumption) | (with_reducible refine not_f ?_; with_reducible assumption) | (refine dec_t ?_; decide) | (refine dec_f ?_; decide)); exact rfl)
    | ((with_reducible apply j_ld_el1); exact rfl; exact rfl; exact rfl; exact rfl; (first | with_reducible assumption | exact map_get (by omega) | exact set_get (by simp; omega) | exact rfl); exact rfl)
    | ((with_reducible apply j_sub); exact rfl; exact rfl; exact rfl; exact Go.IntWalk.i64_in _ (by omega))
    | ((with_reducible apply j_ia); exact rfl; exact rfl; exact rfl; exact rfl; omega; (first | with_reducible exact Int.toNat_natCast _ | exact rfl); (first | with_reducible assumption | exact map_get (by omega) | exact set_get (by simp; omega) | exact rfl); exact rfl; exact rfl)
    | ((with_reducible apply j_ia_sl); exact rfl; exact rfl; exact rfl; exact rfl; omega; omega; (first | with_reducible exact Int.toNat_natCast _ | exact rfl))
    | ((with_reducible apply j_ia_ar); exact rfl; exact rfl; exact rfl; exact rfl; omega; omega; (first | with_reducible exact Int.toNat_natCast _ | exact rfl))
    | ((with_reducible apply j_ste); exact rfl; exact rfl; exact rfl; exact rfl; exact rfl; exact rfl; (first | with_reducible assumption | exact map_get (by omega) | exact set_get (by simp; omega) | exact rfl); exact Nat.le_of_ble_eq_true rfl; exact rfl)
    | ((with_reducible apply j_ap); exact rfl; exact rfl; exact rfl; exact rfl; exact rfl; exact rfl; exact rfl; exact rfl; exact rfl; (first | exact rfl | exact (List.length_map _).symm | omega | (simp only [List.length_set, List.length_map, List.length_append] <;> omega) | (simp; done)); (first | (apply src_sl; exact rfl; exact rfl; exact rfl) | (apply src_sl; exact rfl; exact rfl; rw [List.length_map]; omega) | (apply src_nil; exact rfl) | (apply src_d; exact rfl; (intro row hrow; obtain ⟨q, _, rfl⟩ := List.mem_map.1 hrow; rfl))); exact rfl; (first | decide | (show (_ + 1) * _ ≤ _; rw [List.length_map]; omega) | omega | (simp only [List.length_set, List.length_map, List.length_append]; done) | (simp; omega)); exact rfl)
    | ((with_reducible apply j_ap0); exact rfl; exact rfl; exact rfl; exact rfl; exact rfl; exact rfl; (first | (apply src_sl; exact rfl; exact rfl; exact rfl) | (apply src_sl; exact rfl; exact rfl; rw [List.length_map]; omega) | (apply src_nil; exact rfl) | (apply src_d; exact rfl; (intro row hrow; obtain ⟨q, _, rfl⟩ := List.mem_map.1 hrow; rfl))); exact rfl; (first | decide | (show (_ + 1) * _ ≤ _; rw [List.length_map]; omega) | omega | (simp only [List.length_set, List.length_map, List.length_append]; done) | (simp; omega)); exact rfl)
    | ((with_reducible apply c_c); exact rfl; (first | with_reducible assumption | with_reducible exact Eq.refl true | with_reducible exact Eq.refl false | (with_reducible refine not_t ?_; with_reducible assumption) | (with_reducible refine not_f ?_; with_reducible assumption) | (refine dec_t ?_; decide) | (refine dec_f ?_; decide)))
    | ((with_reducible apply b_o); exact rfl)
    | ((with_reducible apply r_g); exact rfl; (· repeat' (first | exact True.intro | refine And.intro ?_ ?_ | (first | exact rfl | exact (List.length_map _).symm | omega | (simp only [List.length_set, List.length_map, List.length_append] <;> omega) | (simp; done)))))
    | refine Copy_j c hsm rfl (by repeat' (first | exact .nil _ | refine .cons ?_ ?_ | exact .one (.d _ _) | exact .one (.nil _) | exact .one (.tape _) | exact .one (.fn _ _) | exact .agg (.same _ _) | refine .agg ?_ | exact .d _ _ | exact .one (.sl rfl rfl) | exact .sl rfl rfl | refine .one (PsC.ref rfl ?_) | refine PsC.ref rfl ?_ | refine .one (PsC.rp ?_) | refine PsC.rp ?_ | refine .one (PsC.clo ?_) | refine PsC.clo ?_ | exact .same _ _)) rfl rfl ?_
    | refine j_sne xv_eqT rfl rfl rfl (xv_cells x ⟨x.kind, x.rep, 0, 0⟩) ?_
    | ((with_reducible apply j_call (pu := false)); exact rfl; exact valid_ic c; (focus ((repeat' (first | exact .nil _ | refine .cons ?_ ?_ | exact .one (.d _ _) | exact .one (.nil _) | exact .one (.tape _) | exact .one (.fn _ _) | exact .agg (.same _ _) | refine .agg ?_ | exact .d _ _ | exact .one (.sl rfl rfl) | exact .sl rfl rfl | exact .same _ _)) <;> fail)); exact .inr rfl)
    | ((with_reducible apply j_call (pu := false)); exact rfl; apply (in_ic _ _ _); rotate_left 3; (focus ((repeat' (first | exact .nil _ | refine .cons ?_ ?_ | exact .one (.d _ _) | exact .one (.nil _) | exact .one (.tape _) | exact .one (.fn _ _) | exact .agg (.same _ _) | refine .agg ?_ | exact .d _ _ | exact .one (.sl rfl rfl) | exact .sl rfl rfl | exact .same _ _)) <;> fail)); exact .inr rfl)
    | (with_reducible rfl)
    | ((with_reducible apply j_gs); exact rfl; exact rfl; all_goals intro hg)
    | ((with_reducible apply c_if); exact rfl; all_goals intro hc))
        refine fin_err ((E2 hv h2).trans (if_neg fun q => hx ⟨q.1, q.2.1⟩)) (by decide)
    have e2 : decide (x.kind = 2) = false := by simp [h2]
    by_cases h3 : x.kind = 3
    · have e3 : decide (x.kind = 3) = true := by simp [h3]
      have e4 : decide (x.kind = 4) = false := by simp [h3]
      have hk : inB x.kind 2 4 = true := by rw [h3]; rfl
      by_cases hx : x.bits = 0 ∧ x.snap = 0
      · have hq := xvEq_a hx
        by_cases hin : inB x.rep 0 ((c.reps.length : Int) - 1) = true
        · have hi := (inB_iff _ _ _).1 hin
          repeat' (first
    | ((with_reducible apply c_l1); exact rfl; exact rfl)
    | ((with_reducible apply c_l2); exact rfl; exact rfl)
    | ((with_reducible apply c_l3); exact rfl)
    | (with_reducible (first | apply c_seq | apply c_rg | apply j_nil | apply q_n | apply g_tt | apply g_ff | apply c_ct | apply c_cf | apply c_bl | apply c_ex | apply c_ret | apply c_sk | apply q_r | apply q_e | apply b_r | apply b_e | apply b_n | apply n_n | apply n_r | apply n_e))
    | ((with_reducible apply j_v); exact rfl; exact rfl)
    | ((with_reducible apply j_h); exact rfl; exact rfl)
    | ((with_reducible apply j_s); exact rfl)
    | ((with_reducible apply j_g); exact rfl; exact rfl; (first | with_reducible assumption | with_reducible exact Eq.refl true | with_reducible exact Eq.refl false | (with_reducible refine not_t ?_; with_reducible assumption) | (with_reducible refine not_f ?_; with_reducible assumption) | (refine dec_t ?_; decide) | (refine dec_f ?_; decide)))
    | ((with_reducible apply g_tf); exact rfl)
    | ((with_reducible apply g_ft); exact rfl)
    | ((with_reducible apply j_gz); exact rfl; exact rfl; exact rfl)
    | ((with_reducible apply j_lenm); exact rfl; exact rfl; exact rfl)
    | ((with_reducible apply j_lens); exact rfl; exact rfl; exact rfl)
    | ((with_reducible apply j_len); exact rfl; exact rfl; exact rfl)
    | ((with_reducible apply j_len0); exact rfl; exact rfl; exact rfl)
    | ((with_reducible apply j_pk); exact rfl; exact rfl; (first | with_reducible assumption | with_reducible exact Eq.refl true | with_reducible exact Eq.refl false | (with_reducible refine not_t ?_; with_reducible assumption) | (with_reducible refine not_f ?_; with_reducible assumption) | (refine dec_t ?_; decide) | (refine dec_f ?_; decide)); exact rfl)
    | ((with_reducible apply j_ld_el1); exact rfl; exact rfl; exact rfl; exact rfl; (first | with_reducible assumption | exact map_get (by omega) | exact set_get (by simp; omega) | exact rfl); exact rfl)
    | ((with_reducible apply j_sub); exact rfl; exact rfl; exact rfl; exact Go.IntWalk.i64_in _ (by omega))
    | ((with_reducible apply j_ia); exact rfl; exact rfl; exact rfl; exact rfl; omega; (first | with_reducible exact Int.toNat_natCast _ | exact rfl); (first | with_reducible assumption | exact map_get (by omega) | exact set_get (by simp; omega) | exact rfl); exact rfl; exact rfl)
    | ((with_reducible apply j_ia_sl); exact rfl; exact rfl; exact rfl; exact rfl; omega; omega; (first | with_reducible exact Int.toNat_natCast _ | exact rfl))
    | ((with_reducible apply j_ia_ar); exact rfl; exact rfl; exact rfl; exact rfl; omega; omega; (first | with_reducible exact Int.toNat_natCast _ | exact rfl))
    | ((with_reducible apply j_ste); exact rfl; exact rfl; exact rfl; exact rfl; exact rfl; exact rfl; (first | with_reducible assumption | exact map_get (by omega) | exact set_get (by simp; omega) | exact rfl); exact Nat.le_of_ble_eq_true rfl; exact rfl)
    | ((with_reducible apply j_ap); exact rfl; exact rfl; exact rfl; exact rfl; exact rfl; exact rfl; exact rfl; exact rfl; exact rfl; (first | exact rfl | exact (List.length_map _).symm | omega | (simp only [List.length_set, List.length_map, List.length_append] <;> omega) | (simp; done)); (first | (apply src_sl; exact rfl; exact rfl; exact rfl) | (apply src_sl; exact rfl; exact rfl; rw [List.length_map]; omega) | (apply src_nil; exact rfl) | (apply src_d; exact rfl; (intro row hrow; obtain ⟨q, _, rfl⟩ := List.mem_map.1 hrow; rfl))); exact rfl; (first | decide | (show (_ + 1) * _ ≤ _; rw [List.length_map]; omega) | omega | (simp only [List.length_set, List.length_map, List.length_append]; done) | (simp; omega)); exact rfl)
    | ((with_reducible apply j_ap0); exact rfl; exact rfl; exact rfl; exact rfl; exact rfl; exact rfl; (first | (apply src_sl; exact rfl; exact rfl; exact rfl) | (apply src_sl; exact rfl; exact rfl; rw [List.length_map]; omega) | (apply src_nil; exact rfl) | (apply src_d; exact rfl; (intro row hrow; obtain ⟨q, _, rfl⟩ := List.mem_map.1 hrow; rfl))); exact rfl; (first | decide | (show (_ + 1) * _ ≤ _; rw [List.length_map]; omega) | omega | (simp only [List.length_set, List.length_map, List.length_append]; done) | (simp; omega)); exact rfl)
    | ((with_reducible apply c_c); exact rfl; (first | with_reducible assumption | with_reducible exact Eq.refl true | with_reducible exact Eq.refl false | (with_reducible refine not_t ?_; with_reducible assumption) | (with_reducible refine not_f ?_; with_reducible assumption) | (refine dec_t ?_; decide) | (refine dec_f ?_; decide)))
    | ((with_reducible apply b_o); exact rfl)
    | ((with_reducible apply r_g); exact rfl; (· repeat' (first | exact True.intro | refine And.intro ?_ ?_ | (first | exact rfl | exact (List.length_map _).symm | omega | (simp only [List.length_set, List.length_map, List.length_append] <;> omega) | (simp; done)))))
    | refine Copy_j c hsm rfl (by repeat' (first | exact .nil _ | refine .cons ?_ ?_ | exact .one (.d _ _) | exact .one (.nil _) | exact .one (.tape _) | exact .one (.fn _ _) | exact .agg (.same _ _) | refine .agg ?_ | exact .d _ _ | exact .one (.sl rfl rfl) | exact .sl rfl rfl | refine .one (PsC.ref rfl ?_) | refine PsC.ref rfl ?_ | refine .one (PsC.rp ?_) | refine PsC.rp ?_ | refine .one (PsC.clo ?_) | refine PsC.clo ?_ | exact .same _ _)) rfl rfl ?_
    | refine j_sne xv_eqT rfl rfl rfl (xv_cells x ⟨x.kind, x.rep, 0, 0⟩) ?_
    | ((with_reducible apply j_call (pu := false)); exact rfl; exact valid_ic c; (focus ((repeat' (first | exact .nil _ | refine .cons ?_ ?_ | exact .one (.d _ _) | exact .one (.nil _) | exact .one (.tape _) | exact .one (.fn _ _) | exact .agg (.same _ _) | refine .agg ?_ | exact .d _ _ | exact .one (.sl rfl rfl) | exact .sl rfl rfl | exact .same _ _)) <;> fail)); exact .inr rfl)
    | ((with_reducible apply j_call (pu := false)); exact rfl; apply (in_ic _ _ _); rotate_left 3; (focus ((repeat' (first | exact .nil _ | refine .cons ?_ ?_ | exact .one (.d _ _) | exact .one (.nil _) | exact .one (.tape _) | exact .one (.fn _ _) | exact .agg (.same _ _) | refine .agg ?_ | exact .d _ _ | exact .one (.sl rfl rfl) | exact .sl rfl rfl | exact .same _ _)) <;> fail)); exact .inr rfl)
    | (with_reducible rfl)
    | ((with_reducible apply j_gs); exact rfl; exact rfl; all_goals intro hg)
    | ((with_reducible apply c_if); exact rfl; all_goals intro hc))
          · simp at hc
            refine fin_err ((E3 hv h3).trans ((if_pos ⟨hx.1, hx.2, hin⟩).trans (if_pos (by omega)))) (by decide)
          simp at hc
          (refine n_start (by kernel_rfl) ?_; (refine n_quiet none #[true, true, true, true, true, true, true, false, false, false] [0, 1, 2, 3, 4, 5, 6] 3 rfl ?_; (repeat' (first | ((with_reducible apply (d_e (some []))); exact rfl; exact rfl; kernel_rfl; kernel_rfl; exact rfl; exact rfl; (first | ((with_reducible apply e_v); exact rfl) | ((with_reducible apply e_ld_el1); exact rfl; exact rfl; exact rfl; (first | with_reducible assumption | exact map_get (by omega) | exact set_get (by simp; omega) | exact rfl); exact rfl) | ((with_reducible apply e_ld_eln); exact rfl; exact rfl; exact rfl; (first | with_reducible assumption | exact map_get (by omega) | exact set_get (by simp; omega) | exact rfl); exact Nat.le_of_ble_eq_true rfl) | ((with_reducible apply e_ia); exact rfl; exact rfl; exact rfl; omega; (first | with_reducible exact Int.toNat_natCast _ | exact rfl); (first | with_reducible assumption | exact map_get (by omega) | exact set_get (by simp; omega) | exact rfl); exact rfl; exact rfl) | ((with_reducible apply e_ia_sl); exact rfl; exact rfl; exact rfl; omega; omega; (first | with_reducible exact Int.toNat_natCast _ | exact rfl)) | ((with_reducible apply e_ia_ar); exact rfl; exact rfl; exact rfl; omega; omega; (first | with_reducible exact Int.toNat_natCast _ | exact rfl)))) | ((with_reducible apply d_bs); exact rfl; exact rfl; exact (by decide +kernel); exact rfl; exact rfl; exact rfl; exact rfl; exact rfl; exact rfl; exact rfl; exact rfl; exact rfl) | ((with_reducible apply d_leaf); exact (by decide +kernel)))); all_goals (refine n_one 7 (by decide +kernel) rfl ?_; (repeat' (first | ((with_reducible apply c_l1); exact rfl; exact rfl) | ((with_reducible apply c_l2); exact rfl; exact rfl) | ((with_reducible apply c_l3); exact rfl) | (with_reducible (first | apply c_seq | apply c_rg | apply j_nil | apply q_n | apply c_bl | apply c_ex | apply c_ret | apply c_sk | apply q_r | apply q_e | apply b_r | apply b_e | apply b_n | apply n_n | apply n_r | apply n_e)) | ((with_reducible apply j_v); exact rfl; exact rfl) | ((with_reducible apply j_h); exact rfl; exact rfl) | ((with_reducible apply j_s); exact rfl) | ((with_reducible apply j_ld_el1); exact rfl; exact rfl; exact rfl; exact rfl; (first | with_reducible assumption | exact map_get (by omega) | exact set_get (by simp; omega) | exact rfl); exact rfl) | ((with_reducible apply j_ia); exact rfl; exact rfl; exact rfl; exact rfl; omega; (first | with_reducible exact Int.toNat_natCast _ | exact rfl); (first | with_reducible assumption | exact map_get (by omega) | exact set_get (by simp; omega) | exact rfl); exact rfl; exact rfl) | ((with_reducible apply j_ia_sl); exact rfl; exact rfl; exact rfl; exact rfl; omega; omega; (first | with_reducible exact Int.toNat_natCast _ | exact rfl)) | ((with_reducible apply j_ia_ar); exact rfl; exact rfl; exact rfl; exact rfl; omega; omega; (first | with_reducible exact Int.toNat_natCast _ | exact rfl)) | ((with_reducible apply j_ste); exact rfl; exact rfl; exact rfl; exact rfl; exact rfl; exact rfl; (first | with_reducible assumption | exact map_get (by omega) | exact set_get (by simp; omega) | exact rfl); exact Nat.le_of_ble_eq_true rfl; exact rfl) | ((with_reducible apply j_ap); exact rfl; exact rfl; exact rfl; exact rfl; exact rfl; exact rfl; exact rfl; exact rfl; exact rfl; (first | exact rfl | exact (List.length_map _).symm | omega | (simp only [List.length_set, List.length_map, List.length_append] <;> omega) | (simp; done)); (first | (apply src_sl; exact rfl; exact rfl; exact rfl) | (apply src_sl; exact rfl; exact rfl; rw [List.length_map]; omega) | (apply src_nil; exact rfl) | (apply src_d; exact rfl; (intro row hrow; obtain ⟨q, _, rfl⟩ := List.mem_map.1 hrow; rfl))); exact rfl; (first | decide | (show (_ + 1) * _ ≤ _; rw [List.length_map]; omega) | omega | (simp only [List.length_set, List.length_map, List.length_append]; done) | (simp; omega)); exact rfl) | ((with_reducible apply j_ap0); exact rfl; exact rfl; exact rfl; exact rfl; exact rfl; exact rfl; (first | (apply src_sl; exact rfl; exact rfl; exact rfl) | (apply src_sl; exact rfl; exact rfl; rw [List.length_map]; omega) | (apply src_nil; exact rfl) | (apply src_d; exact rfl; (intro row hrow; obtain ⟨q, _, rfl⟩ := List.mem_map.1 hrow; rfl))); exact rfl; (first | decide | (show (_ + 1) * _ ≤ _; rw [List.length_map]; omega) | omega | (simp only [List.length_set, List.length_map, List.length_append]; done) | (simp; omega)); exact rfl) | ((with_reducible apply b_o); exact rfl))); all_goals (refine n_quiet none #[false, false, false, false, false, false, false, false, true, true] [8, 9] 0 rfl ?_; (repeat' (first | ((with_reducible apply (d_e (some []))); exact rfl; exact rfl; kernel_rfl; exact (by decide +kernel); exact rfl; exact rfl; (first | ((with_reducible apply e_v); exact rfl) | ((with_reducible apply e_ld_el1); exact rfl; exact rfl; exact rfl; (first | with_reducible assumption | exact map_get (by omega) | exact set_get (by simp; omega) | exact rfl); exact rfl) | ((with_reducible apply e_ld_eln); exact rfl; exact rfl; exact rfl; (first | with_reducible assumption | exact map_get (by omega) | exact set_get (by simp; omega) | exact rfl); exact Nat.le_of_ble_eq_true rfl) | ((with_reducible apply e_ia); exact rfl; exact rfl; exact rfl; omega; (first | with_reducible exact Int.toNat_natCast _ | exact rfl); (first | with_reducible assumption | exact map_get (by omega) | exact set_get (by simp; omega) | exact rfl); exact rfl; exact rfl) | ((with_reducible apply e_ia_sl); exact rfl; exact rfl; exact rfl; omega; omega; (first | with_reducible exact Int.toNat_natCast _ | exact rfl)) | ((with_reducible apply e_ia_ar); exact rfl; exact rfl; exact rfl; omega; omega; (first | with_reducible exact Int.toNat_natCast _ | exact rfl)))) | ((with_reducible apply (d_e none)); exact rfl; exact rfl; kernel_rfl; kernel_rfl; exact rfl; exact rfl; (first | ((with_reducible apply e_v); exact rfl) | ((with_reducible apply e_ld_el1); exact rfl; exact rfl; exact rfl; (first | with_reducible assumption | exact map_get (by omega) | exact set_get (by simp; omega) | exact rfl); exact rfl) | ((with_reducible apply e_ld_eln); exact rfl; exact rfl; exact rfl; (first | with_reducible assumption | exact map_get (by omega) | exact set_get (by simp; omega) | exact rfl); exact Nat.le_of_ble_eq_true rfl) | ((with_reducible apply e_ia); exact rfl; exact rfl; exact rfl; omega; (first | with_reducible exact Int.toNat_natCast _ | exact rfl); (first | with_reducible assumption | exact map_get (by omega) | exact set_get (by simp; omega) | exact rfl); exact rfl; exact rfl) | ((with_reducible apply e_ia_sl); exact rfl; exact rfl; exact rfl; omega; omega; (first | with_reducible exact Int.toNat_natCast _ | exact rfl)) | ((with_reducible apply e_ia_ar); exact rfl; exact rfl; exact rfl; omega; omega; (first | with_reducible exact Int.toNat_natCast _ | exact rfl)))) | ((with_reducible apply d_st); exact rfl; exact (by decide +kernel); exact rfl; exact rfl; exact rfl; exact rfl; exact rfl; exact rfl; exact rfl) | ((with_reducible apply d_ste); exact rfl; exact (by decide +kernel); exact rfl; exact rfl; exact rfl; exact rfl; exact rfl; exact rfl; exact rfl; (first | with_reducible assumption | exact map_get (by omega) | exact set_get (by simp; omega) | exact rfl); exact Nat.le_of_ble_eq_true rfl) | ((with_reducible apply d_leaf); exact (by decide +kernel)))); all_goals ((with_reducible apply n_doneZ); exact rfl; exact (by decide +kernel))))))
          repeat' (first
    | ((with_reducible apply c_l1); exact rfl; exact rfl)
    | ((with_reducible apply c_l2); exact rfl; exact rfl)
    | ((with_reducible apply c_l3); exact rfl)
    | (with_reducible (first | apply c_seq | apply c_rg | apply j_nil | apply q_n | apply g_tt | apply g_ff | apply c_ct | apply c_cf | apply c_bl | apply c_ex | apply c_ret | apply c_sk | apply q_r | apply q_e | apply b_r | apply b_e | apply b_n | apply n_n | apply n_r | apply n_e))
    | ((with_reducible apply j_v); exact rfl; exact rfl)
    | ((with_reducible apply j_h); exact rfl; exact rfl)
    | ((with_reducible apply j_s); exact rfl)
    | ((with_reducible apply j_g); exact rfl; exact rfl; (first | with_reducible assumption | with_reducible exact Eq.refl true | with_reducible exact Eq.refl false | (with_reducible refine not_t ?_; with_reducible assumption) | (with_reducible refine not_f ?_; with_reducible assumption) | (refine dec_t ?_; decide) | (refine dec_f ?_; decide)))
    | ((with_reducible apply g_tf); exact rfl)
    | ((with_reducible apply g_ft); exact rfl)
    | ((with_reducible apply j_gz); exact rfl; exact rfl; exact rfl)
    | ((with_reducible apply j_lenm); exact rfl; exact rfl; exact rfl)
    | ((with_reducible apply j_lens); exact rfl; exact rfl; exact rfl)
    | ((with_reducible apply j_len); exact rfl; exact rfl; exact rfl)
    | ((with_reducible apply j_len0); exact rfl; exact rfl; exact rfl)
    | ((with_reducible apply j_pk); exact rfl; exact rfl; (first | with_reducible assumption | with_reducible exact Eq.refl true | with_reducible exact Eq.refl false | (with_reducible refine not_t ?_; with_reducible assumption) | (with_reducible refine not_f ?_; with_reducible assumption) | (refine dec_t ?_; decide) | (refine dec_f ?_; decide)); exact rfl)
    | ((with_reducible apply j_ld_el1); exact rfl; exact rfl; exact rfl; exact rfl; (first | with_reducible assumption | exact map_get (by omega) | exact set_get (by simp; omega) | exact rfl); exact rfl)
    | ((with_reducible apply j_sub); exact rfl; exact rfl; exact rfl; exact Go.IntWalk.i64_in _ (by omega))
    | ((with_reducible apply j_ia); exact rfl; exact rfl; exact rfl; exact rfl; omega; (first | with_reducible exact Int.toNat_natCast _ | exact rfl); (first | with_reducible assumption | exact map_get (by omega) | exact set_get (by simp; omega) | exact rfl); exact rfl; exact rfl)
    | ((with_reducible apply j_ia_sl); exact rfl; exact rfl; exact rfl; exact rfl; omega; omega; (first | with_reducible exact Int.toNat_natCast _ | exact rfl))
    | ((with_reducible apply j_ia_ar); exact rfl; exact rfl; exact rfl; exact rfl; omega; omega; (first | with_reducible exact Int.toNat_natCast _ | exact rfl))
    | ((with_reducible apply j_ste); exact rfl; exact rfl; exact rfl; exact rfl; exact rfl; exact rfl; (first | with_reducible assumption | exact map_get (by omega) | exact set_get (by simp; omega) | exact rfl); exact Nat.le_of_ble_eq_true rfl; exact rfl)
    | ((with_reducible apply j_ap); exact rfl; exact rfl; exact rfl; exact rfl; exact rfl; exact rfl; exact rfl; exact rfl; exact rfl; (first | exact rfl | exact (List.length_map _).symm | omega | (simp only [List.length_set, List.length_map, List.length_append] <;> omega) | (simp; done)); (first | (apply src_sl; exact rfl; exact rfl; exact rfl) | (apply src_sl; exact rfl; exact rfl; rw [List.length_map]; omega) | (apply src_nil; exact rfl) | (apply src_d; exact rfl; (intro row hrow; obtain ⟨q, _, rfl⟩ := List.mem_map.1 hrow; rfl))); exact rfl; (first | decide | (show (_ + 1) * _ ≤ _; rw [List.length_map]; omega) | omega | (simp only [List.length_set, List.length_map, List.length_append]; done) | (simp; omega)); exact rfl)
    | ((with_reducible apply j_ap0); exact rfl; exact rfl; exact rfl; exact rfl; exact rfl; exact rfl; (first | (apply src_sl; exact rfl; exact rfl; exact rfl) | (apply src_sl; exact rfl; exact rfl; rw [List.length_map]; omega) | (apply src_nil; exact rfl) | (apply src_d; exact rfl; (intro row hrow; obtain ⟨q, _, rfl⟩ := List.mem_map.1 hrow; rfl))); exact rfl; (first | decide | (show (_ + 1) * _ ≤ _; rw [List.length_map]; omega) | omega | (simp only [List.length_set, List.length_map, List.length_append]; done) | (simp; omega)); exact rfl)
    | ((with_reducible apply c_c); exact rfl; (first | with_reducible assumption | with_reducible exact Eq.refl true | with_reducible exact Eq.refl false | (with_reducible refine not_t ?_; with_reducible assumption) | (with_reducible refine not_f ?_; with_reducible assumption) | (refine dec_t ?_; decide) | (refine dec_f ?_; decide)))
    | ((with_reducible apply b_o); exact rfl)
    | ((with_reducible apply r_g); exact rfl; (· repeat' (first | exact True.intro | refine And.intro ?_ ?_ | (first | exact rfl | exact (List.length_map _).symm | omega | (simp only [List.length_set, List.length_map, List.length_append] <;> omega) | (simp; done)))))
    | (with_reducible rfl)
    | ((with_reducible apply j_gs); exact rfl; exact rfl; all_goals intro hg)
    | ((with_reducible apply c_if); exact rfl; all_goals intro hc))
          refine Eq.trans ?_ (fin_ok (c' := { c with snaps := c.snaps ++ [(c.rep x.rep).gen] }) ((E3 hv h3).trans ((if_pos ⟨hx.1, hx.2, hin⟩).trans (if_neg (by omega)))) (by simp [applyM, h3]))
          simp only [Cl.v, Cl.row, ints, List.map_append]
          rw [← rep_get (c := c) (i := x.rep) (by omega)]
          rfl
        · simp only [Bool.not_eq_true] at hin
          repeat' (first
    | ((with_reducible apply c_l1); exact rfl; exact rfl)
    | ((with_reducible apply c_l2); exact rfl; exact rfl)
    | ((with_reducible apply c_l3); exact rfl)
    | (with_reducible (first | apply c_seq | apply c_rg | apply j_nil | apply q_n | apply g_tt | apply g_ff | apply c_ct | apply c_cf | apply c_bl | apply c_ex | apply c_ret | apply c_sk | apply q_r | apply q_e | apply b_r | apply b_e | apply b_n | apply n_n | apply n_r | apply n_e))
    | ((with_reducible apply j_v); exact rfl; exact rfl)
    | ((with_reducible apply j_h); exact rfl; exact rfl)
    | ((with_reducible apply j_s); exact rfl)
    | ((with_reducible apply j_g); exact rfl; exact rfl; (first | with_reducible assumption | with_reducible exact Eq.refl true | with_reducible exact Eq.refl false | (with_reducible refine not_t ?_; with_reducible assumption) | (with_reducible refine not_f ?_; with_reducible assumption) | (refine dec_t ?_; decide) | (refine dec_f ?_; decide)))
    | ((with_reducible apply g_tf); exact rfl)
    | ((with_reducible apply g_ft); exact rfl)
    | ((with_reducible apply j_gz); exact rfl; exact rfl; exact rfl)
    | ((with_reducible apply j_lenm); exact rfl; exact rfl; exact rfl)
    | ((with_reducible apply j_lens); exact rfl; exact rfl; exact rfl)
    | ((with_reducible apply j_len); exact rfl; exact rfl; exact rfl)
    | ((with_reducible apply j_len0); exact rfl; exact rfl; exact rfl)
    | ((with_reducible apply j_pk); exact rfl; exact rfl; (first | with_reducible assumption | with_reducible exact Eq.refl true | with_reducible exact Eq.refl false | (with_reducible refine not_t ?_; with_reducible assumption) | (with_reducible refine not_f ?_; with_reducible assumption) | (refine dec_t ?_; decide) | (refine dec_f ?_; decide)); exact rfl)
    | ((with_reducible apply j_ld_el1); exact rfl; exact rfl; exact rfl; exact rfl; (first | with_reducible assumption | exact map_get (by omega) | exact set_get (by simp; omega) | exact rfl); exact rfl)
    | ((with_reducible apply j_sub); exact rfl; exact rfl; exact rfl; exact Go.IntWalk.i64_in _ (by omega))
    | ((with_reducible apply j_ia); exact rfl; exact rfl; exact rfl; exact rfl; omega; (first | with_reducible exact Int.toNat_natCast _ | exact rfl); (first | with_reducible assumption | exact map_get (by omega) | exact set_get (by simp; omega) | exact rfl); exact rfl; exact rfl)
    | ((with_reducible apply j_ia_sl); exact rfl; exact rfl; exact rfl; exact rfl; omega; omega; (first | with_reducible exact Int.toNat_natCast _ | exact rfl))
    | ((with_reducible apply j_ia_ar); exact rfl; exact rfl; exact rfl; exact rfl; omega; omega; (first | with_reducible exact Int.toNat_natCast _ | exact rfl))
    | ((with_reducible apply j_ste); exact rfl; exact rfl; exact rfl; exact rfl; exact rfl; exact rfl; (first | with_reducible assumption | exact map_get (by omega) | exact set_get (by simp; omega) | exact rfl); exact Nat.le_of_ble_eq_true rfl; exact rfl)
    | ((with_reducible apply j_ap); exact rfl; exact rfl; exact rfl; exact rfl; exact rfl; exact rfl; exact rfl; exact rfl; exact rfl; (first | exact rfl | exact (List.length_map _).symm | omega | (simp only [List.length_set, List.length_map, List.length_append] <;> omega) | (simp; done)); (first | (apply src_sl; exact rfl; exact rfl; exact rfl) | (apply src_sl; exact rfl; exact rfl; rw [List.length_map]; omega) | (apply src_nil; exact rfl) | (apply src_d; exact rfl; (intro row hrow; obtain ⟨q, _, rfl⟩ := List.mem_map.1 hrow; rfl))); exact rfl; (first | decide | (show (_ + 1) * _ ≤ _; rw [List.length_map]; omega) | omega | (simp only [List.length_set, List.length_map, List.length_append]; done) | (simp; omega)); exact rfl)
    | ((with_reducible apply j_ap0); exact rfl; exact rfl; exact rfl; exact rfl; exact rfl; exact rfl; (first | (apply src_sl; exact rfl; exact rfl; exact rfl) | (apply src_sl; exact rfl; exact rfl; rw [List.length_map]; omega) | (apply src_nil; exact rfl) | (apply src_d; exact rfl; (intro row hrow; obtain ⟨q, _, rfl⟩ := List.mem_map.1 hrow; rfl))); exact rfl; (first | decide | (show (_ + 1) * _ ≤ _; rw [List.length_map]; omega) | omega | (simp only [List.length_set, List.length_map, List.length_append]; done) | (simp; omega)); exact rfl)
    | ((with_reducible apply c_c); exact rfl; (first | with_reducible assumption | with_reducible exact Eq.refl true | with_reducible exact Eq.refl false | (with_reducible refine not_t ?_; with_reducible assumption) | (with_reducible refine not_f ?_; with_reducible assumption) | (refine dec_t ?_; decide) | (refine dec_f ?_; decide)))
    | ((with_reducible apply b_o); exact rfl)
    | ((with_reducible apply r_g); exact rfl; (· repeat' (first | exact True.intro | refine And.intro ?_ ?_ | (first | exact rfl | exact (List.length_map _).symm | omega | (simp only [List.length_set, List.length_map, List.length_append] <;> omega) | (simp; done)))))
    | refine Copy_j c hsm rfl (by repeat' (first | exact .nil _ | refine .cons ?_ ?_ | exact .one (.d _ _) | exact .one (.nil _) | exact .one (.tape _) | exact .one (.fn _ _) | exact .agg (.same _ _) | refine .agg ?_ | exact .d _ _ | exact .one (.sl rfl rfl) | exact .sl rfl rfl | refine .one (PsC.ref rfl ?_) | refine PsC.ref rfl ?_ | refine .one (PsC.rp ?_) | refine PsC.rp ?_ | refine .one (PsC.clo ?_) | refine PsC.clo ?_ | exact .same _ _)) rfl rfl ?_
    | refine j_sne xv_eqT rfl rfl rfl (xv_cells x ⟨x.kind, x.rep, 0, 0⟩) ?_
    | ((with_reducible apply j_call (pu := false)); exact rfl; exact valid_ic c; (focus ((repeat' (first | exact .nil _ | refine .cons ?_ ?_ | exact .one (.d _ _) | exact .one (.nil _) | exact .one (.tape _) | exact .one (.fn _ _) | exact .agg (.same _ _) | refine .agg ?_ | exact .d _ _ | exact .one (.sl rfl rfl) | exact .sl rfl rfl | exact .same _ _)) <;> fail)); exact .inr rfl)
    | ((with_reducible apply j_call (pu := false)); exact rfl; apply (in_ic _ _ _); rotate_left 3; (focus ((repeat' (first | exact .nil _ | refine .cons ?_ ?_ | exact .one (.d _ _) | exact .one (.nil _) | exact .one (.tape _) | exact .one (.fn _ _) | exact .agg (.same _ _) | refine .agg ?_ | exact .d _ _ | exact .one (.sl rfl rfl) | exact .sl rfl rfl | exact .same _ _)) <;> fail)); exact .inr rfl)
    | (with_reducible rfl)
    | ((with_reducible apply j_gs); exact rfl; exact rfl; all_goals intro hg)
    | ((with_reducible apply c_if); exact rfl; all_goals intro hc))
          refine fin_err ((E3 hv h3).trans (if_neg fun q => ?_)) (by decide)
          rw [q.2.2] at hin; cases hin
      · have hq := xvEq_b hx
        repeat' (first
    | ((with_reducible apply c_l1); exact rfl; exact rfl)
    | ((with_reducible apply c_l2); exact rfl; exact rfl)
    | ((with_reducible apply c_l3); exact rfl)
    | (with_reducible (first | apply c_seq | apply c_rg | apply j_nil | apply q_n | apply g_tt | apply g_ff | apply c_ct | apply c_cf | apply c_bl | apply c_ex | apply c_ret | apply c_sk | apply q_r | apply q_e | apply b_r | apply b_e | apply b_n | apply n_n | apply n_r | apply n_e))
    | ((with_reducible apply j_v); exact rfl; exact rfl)
    | ((with_reducible apply j_h); exact rfl; exact rfl)
    | ((with_reducible apply j_s); exact rfl)
    | ((with_reducible apply j_g); exact rfl; exact rfl; (first | with_reducible assumption | with_reducible exact Eq.refl true | with_reducible exact Eq.refl false | (with_reducible refine not_t ?_; with_reducible assumption) | (with_reducible refine not_f ?_; with_reducible assumption) | (refine dec_t ?_; decide) | (refine dec_f ?_; decide)))
    | ((with_reducible apply g_tf); exact rfl)
    | ((with_reducible apply g_ft); exact rfl)
    | ((with_reducible apply j_gz); exact rfl; exact rfl; exact rfl)
    | ((with_reducible apply j_lenm); exact rfl; exact rfl; exact rfl)
    | ((with_reducible apply j_lens); exact rfl; exact rfl; exact rfl)
    | ((with_reducible apply j_len); exact rfl; exact rfl; exact rfl)
    | ((with_reducible apply j_len0); exact rfl; exact rfl; exact rfl)
    | ((with_reducible apply j_pk); exact rfl; exact rfl; (first | with_reducible assumption | with_reducible exact Eq.refl true | with_reducible exact Eq.refl false | (with_reducible refine not_t ?_; with_reducible assumption) | (with_reducible refine not_f ?_; with_reducible assumption) | (refine dec_t ?_; decide) | (refine dec_f ?_; decide)); exact rfl)
    | ((with_reducible apply j_ld_el1); exact rfl; exact rfl; exact rfl; exact rfl; (first | with_reducible assumption | exact map_get (by omega) | exact set_get (by simp; omega) | exact rfl); exact rfl)
    | ((with_reducible apply j_sub); exact rfl; exact rfl; exact rfl; exact Go.IntWalk.i64_in _ (by omega))
    | ((with_reducible apply j_ia); exact rfl; exact rfl; exact rfl; exact rfl; omega; (first | with_reducible exact Int.toNat_natCast _ | exact rfl); (first | with_reducible assumption | exact map_get (by omega) | exact set_get (by simp; omega) | exact rfl); exact rfl; exact rfl)
    | ((with_reducible apply j_ia_sl); exact rfl; exact rfl; exact rfl; exact rfl; omega; omega; (first | with_reducible exact Int.toNat_natCast _ | exact rfl))
    | ((with_reducible apply j_ia_ar); exact rfl; exact rfl; exact rfl; exact rfl; omega; omega; (first | with_reducible exact Int.toNat_natCast _ | exact rfl))
    | ((with_reducible apply j_ste); exact rfl; exact rfl; exact rfl; exact rfl; exact rfl; exact rfl; (first | with_reducible assumption | exact map_get (by omega) | exact set_get (by simp; omega) | exact rfl); exact Nat.le_of_ble_eq_true rfl; exact rfl)
    | ((with_reducible apply j_ap); exact rfl; exact rfl; exact rfl; exact rfl; exact rfl; exact rfl; exact rfl; exact rfl; exact rfl; (first | exact rfl | exact (List.length_map _).symm | omega | (simp only [List.length_set, List.length_map, List.length_append] <;> omega) | (simp; done)); (first | (apply src_sl; exact rfl; exact rfl; exact rfl) | (apply src_sl; exact rfl; exact rfl; rw [List.length_map]; omega) | (apply src_nil; exact rfl) | (apply src_d; exact rfl; (intro row hrow; obtain ⟨q, _, rfl⟩ := List.mem_map.1 hrow; rfl))); exact rfl; (first | decide | (show (_ + 1) * _ ≤ _; rw [List.length_map]; omega) | omega | (simp only [List.length_set, List.length_map, List.length_append]; done) | (simp; omega)); exact rfl)
    | ((with_reducible apply j_ap0); exact rfl; exact rfl; exact rfl; exact rfl; exact rfl; exact rfl; (first | (apply src_sl; exact rfl; exact rfl; exact rfl) | (apply src_sl; exact rfl; exact rfl; rw [List.length_map]; omega) | (apply src_nil; exact rfl) | (apply src_d; exact rfl; (intro row hrow; obtain ⟨q, _, rfl⟩ := List.mem_map.1 hrow; rfl))); exact rfl; (first | decide | (show (_ + 1) * _ ≤ _; rw [List.length_map]; omega) | omega | (simp only [List.length_set, List.length_map, List.length_append]; done) | (simp; omega)); exact rfl)
    | ((with_reducible apply c_c); exact rfl; (first | with_reducible assumption | with_reducible exact Eq.refl true | with_reducible exact Eq.refl false | (with_reducible refine not_t ?_; with_reducible assumption) | (with_reducible refine not_f ?_; with_reducible assumption) | (refine dec_t ?_; decide) | (refine dec_f ?_; decide)))
    | ((with_reducible apply b_o); exact rfl)
    | ((with_reducible apply r_g); exact rfl; (· repeat' (first | exact True.intro | refine And.intro ?_ ?_ | (first | exact rfl | exact (List.length_map _).symm | omega | (simp only [List.length_set, List.length_map, List.length_append] <;> omega) | (simp; done)))))
    | refine Copy_j c hsm rfl (by repeat' (first | exact .nil _ | refine .cons ?_ ?_ | exact .one (.d _ _) | exact .one (.nil _) | exact .one (.tape _) | exact .one (.fn _ _) | exact .agg (.same _ _) | refine .agg ?_ | exact .d _ _ | exact .one (.sl rfl rfl) | exact .sl rfl rfl | refine .one (PsC.ref rfl ?_) | refine PsC.ref rfl ?_ | refine .one (PsC.rp ?_) | refine PsC.rp ?_ | refine .one (PsC.clo ?_) | refine PsC.clo ?_ | exact .same _ _)) rfl rfl ?_
    | refine j_sne xv_eqT rfl rfl rfl (xv_cells x ⟨x.kind, x.rep, 0, 0⟩) ?_
    | ((with_reducible apply j_call (pu := false)); exact rfl; exact valid_ic c; (focus ((repeat' (first | exact .nil _ | refine .cons ?_ ?_ | exact .one (.d _ _) | exact .one (.nil _) | exact .one (.tape _) | exact .one (.fn _ _) | exact .agg (.same _ _) | refine .agg ?_ | exact .d _ _ | exact .one (.sl rfl rfl) | exact .sl rfl rfl | exact .same _ _)) <;> fail)); exact .inr rfl)
    | ((with_reducible apply j_call (pu := false)); exact rfl; apply (in_ic _ _ _); rotate_left 3; (focus ((repeat' (first | exact .nil _ | refine .cons ?_ ?_ | exact .one (.d _ _) | exact .one (.nil _) | exact .one (.tape _) | exact .one (.fn _ _) | exact .agg (.same _ _) | refine .agg ?_ | exact .d _ _ | exact .one (.sl rfl rfl) | exact .sl rfl rfl | exact .same _ _)) <;> fail)); exact .inr rfl)
    | (with_reducible rfl)
    | ((with_reducible apply j_gs); exact rfl; exact rfl; all_goals intro hg)
    | ((with_reducible apply c_if); exact rfl; all_goals intro hc))
        refine fin_err ((E3 hv h3).trans (if_neg fun q => hx ⟨q.1, q.2.1⟩)) (by decide)
    have e3 : decide (x.kind = 3) = false := by simp [h3]
    by_cases h4 : x.kind = 4
    · have e4 : decide (x.kind = 4) = true := by simp [h4]
      have hk : inB x.kind 2 4 = true := by rw [h4]; rfl
      by_cases hx : x.bits = 0
      · have hq := xvEq_c hx
        by_cases hin : inB x.rep 0 ((c.reps.length : Int) - 1) = true
        · have hi := (inB_iff _ _ _).1 hin
          by_cases hsn : inB x.snap 0 ((c.snaps.length : Int) - 1) = true
          · have hs := (inB_iff _ _ _).1 hsn
            have es : (c.snaps[x.snap.toNat]'(by omega)) = c.snaps.getD x.snap.toNat 0 := by simp [show x.snap.toNat < c.snaps.length by omega]
            repeat' (first
    | ((with_reducible apply c_l1); exact rfl; exact rfl)
    | ((with_reducible apply c_l2); exact rfl; exact rfl)
    | ((with_reducible apply c_l3); exact rfl)
    | (with_reducible (first | apply c_seq | apply c_rg | apply j_nil | apply q_n | apply g_tt | apply g_ff | apply c_ct | apply c_cf | apply c_bl | apply c_ex | apply c_ret | apply c_sk | apply q_r | apply q_e | apply b_r | apply b_e | apply b_n | apply n_n | apply n_r | apply n_e))
    | ((with_reducible apply j_v); exact rfl; exact rfl)
    | ((with_reducible apply j_h); exact rfl; exact rfl)
    | ((with_reducible apply j_s); exact rfl)
    | ((with_reducible apply j_g); exact rfl; exact rfl; (first | with_reducible assumption | with_reducible exact Eq.refl true | with_reducible exact Eq.refl false | (with_reducible refine not_t ?_; with_reducible assumption) | (with_reducible refine not_f ?_; with_reducible assumption) | (refine dec_t ?_; decide) | (refine dec_f ?_; decide)))
    | ((with_reducible apply g_tf); exact rfl)
    | ((with_reducible apply g_ft); exact rfl)
    | ((with_reducible apply j_gz); exact rfl; exact rfl; exact rfl)
    | ((with_reducible apply j_lenm); exact rfl; exact rfl; exact rfl)
    | ((with_reducible apply j_lens); exact rfl; exact rfl; exact rfl)
    | ((with_reducible apply j_len); exact rfl; exact rfl; exact rfl)
    | ((with_reducible apply j_len0); exact rfl; exact rfl; exact rfl)
    | ((with_reducible apply j_pk); exact rfl; exact rfl; (first | with_reducible assumption | with_reducible exact Eq.refl true | with_reducible exact Eq.refl false | (with_reducible refine not_t ?_; with_reducible assumption) | (with_reducible refine not_f ?_; with_reducible assumption) | (refine dec_t ?_; decide) | (refine dec_f ?_; decide)); exact rfl)
    | ((with_reducible apply j_ld_el1); exact rfl; exact rfl; exact rfl; exact rfl; (first | with_reducible assumption | exact map_get (by omega) | exact set_get (by simp; omega) | exact rfl); exact rfl)
    | ((with_reducible apply j_sub); exact rfl; exact rfl; exact rfl; exact Go.IntWalk.i64_in _ (by omega))
    | ((with_reducible apply j_ia); exact rfl; exact rfl; exact rfl; exact rfl; omega; (first | with_reducible exact Int.toNat_natCast _ | exact rfl); (first | with_reducible assumption | exact map_get (by omega) | exact set_get (by simp; omega) | exact rfl); exact rfl; exact rfl)
    | ((with_reducible apply j_ia_sl); exact rfl; exact rfl; exact rfl; exact rfl; omega; omega; (first | with_reducible exact Int.toNat_natCast _ | exact rfl))
    | ((with_reducible apply j_ia_ar); exact rfl; exact rfl; exact rfl; exact rfl; omega; omega; (first | with_reducible exact Int.toNat_natCast _ | exact rfl))
    | ((with_reducible apply j_ste); exact rfl; exact rfl; exact rfl; exact rfl; exact rfl; exact rfl; (first | with_reducible assumption | exact map_get (by omega) | exact set_get (by simp; omega) | exact rfl); exact Nat.le_of_ble_eq_true rfl; exact rfl)
    | ((with_reducible apply j_ap); exact rfl; exact rfl; exact rfl; exact rfl; exact rfl; exact rfl; exact rfl; exact rfl; exact rfl; (first | exact rfl | exact (List.length_map _).symm | omega | (simp only [List.length_set, List.length_map, List.length_append] <;> omega) | (simp; done)); (first | (apply src_sl; exact rfl; exact rfl; exact rfl) | (apply src_sl; exact rfl; exact rfl; rw [List.length_map]; omega) | (apply src_nil; exact rfl) | (apply src_d; exact rfl; (intro row hrow; obtain ⟨q, _, rfl⟩ := List.mem_map.1 hrow; rfl))); exact rfl; (first | decide | (show (_ + 1) * _ ≤ _; rw [List.length_map]; omega) | omega | (simp only [List.length_set, List.length_map, List.length_append]; done) | (simp; omega)); exact rfl)
    | ((with_reducible apply j_ap0); exact rfl; exact rfl; exact rfl; exact rfl; exact rfl; exact rfl; (first | (apply src_sl; exact rfl; exact rfl; exact rfl) | (apply src_sl; exact rfl; exact rfl; rw [List.length_map]; omega) | (apply src_nil; exact rfl) | (apply src_d; exact rfl; (intro row hrow; obtain ⟨q, _, rfl⟩ := List.mem_map.1 hrow; rfl))); exact rfl; (first | decide | (show (_ + 1) * _ ≤ _; rw [List.length_map]; omega) | omega | (simp only [List.length_set, List.length_map, List.length_append]; done) | (simp; omega)); exact rfl)
    | ((with_reducible apply c_c); exact rfl; (first | with_reducible assumption | with_reducible exact Eq.refl true | with_reducible exact Eq.refl false | (with_reducible refine not_t ?_; with_reducible assumption) | (with_reducible refine not_f ?_; with_reducible assumption) | (refine dec_t ?_; decide) | (refine dec_f ?_; decide)))
    | ((with_reducible apply b_o); exact rfl)
    | ((with_reducible apply r_g); exact rfl; (· repeat' (first | exact True.intro | refine And.intro ?_ ?_ | (first | exact rfl | exact (List.length_map _).symm | omega | (simp only [List.length_set, List.length_map, List.length_append] <;> omega) | (simp; done)))))
    | refine Copy_j c hsm rfl (by repeat' (first | exact .nil _ | refine .cons ?_ ?_ | exact .one (.d _ _) | exact .one (.nil _) | exact .one (.tape _) | exact .one (.fn _ _) | exact .agg (.same _ _) | refine .agg ?_ | exact .d _ _ | exact .one (.sl rfl rfl) | exact .sl rfl rfl | refine .one (PsC.ref rfl ?_) | refine PsC.ref rfl ?_ | refine .one (PsC.rp ?_) | refine PsC.rp ?_ | refine .one (PsC.clo ?_) | refine PsC.clo ?_ | exact .same _ _)) rfl rfl ?_
    | refine j_sne xv_eqT rfl rfl rfl (xv_cells x ⟨x.kind, x.rep, x.snap, 0⟩) ?_
    | ((with_reducible apply j_call (pu := false)); exact rfl; exact valid_ic c; (focus ((repeat' (first | exact .nil _ | refine .cons ?_ ?_ | exact .one (.d _ _) | exact .one (.nil _) | exact .one (.tape _) | exact .one (.fn _ _) | exact .agg (.same _ _) | refine .agg ?_ | exact .d _ _ | exact .one (.sl rfl rfl) | exact .sl rfl rfl | exact .same _ _)) <;> fail)); exact .inr rfl)
    | ((with_reducible apply j_call (pu := false)); exact rfl; apply (in_ic _ _ _); rotate_left 3; (focus ((repeat' (first | exact .nil _ | refine .cons ?_ ?_ | exact .one (.d _ _) | exact .one (.nil _) | exact .one (.tape _) | exact .one (.fn _ _) | exact .agg (.same _ _) | refine .agg ?_ | exact .d _ _ | exact .one (.sl rfl rfl) | exact .sl rfl rfl | exact .same _ _)) <;> fail)); exact .inr rfl)
    | (with_reducible rfl)
    | ((with_reducible apply j_gs); exact rfl; exact rfl; all_goals intro hg)
    | ((with_reducible apply c_if); exact rfl; all_goals intro hc))
            (refine n_start (by kernel_rfl) ?_; (refine n_quiet (some [6]) #[true, true, true, true, true, true, true, true] [0, 1, 2, 3, 4, 5, 6, 7] 0 rfl ?_; (repeat' (first | ((with_reducible apply (d_e (some []))); exact rfl; exact rfl; kernel_rfl; exact (by decide +kernel); exact rfl; exact rfl; (first | ((with_reducible apply e_v); exact rfl) | ((with_reducible apply e_ld_el1); exact rfl; exact rfl; exact rfl; (first | with_reducible assumption | exact map_get (by omega) | exact set_get (by simp; omega) | exact rfl); exact rfl) | ((with_reducible apply e_ld_eln); exact rfl; exact rfl; exact rfl; (first | with_reducible assumption | exact map_get (by omega) | exact set_get (by simp; omega) | exact rfl); exact Nat.le_of_ble_eq_true rfl) | ((with_reducible apply e_ia); exact rfl; exact rfl; exact rfl; omega; (first | with_reducible exact Int.toNat_natCast _ | exact rfl); (first | with_reducible assumption | exact map_get (by omega) | exact set_get (by simp; omega) | exact rfl); exact rfl; exact rfl) | ((with_reducible apply e_ia_sl); exact rfl; exact rfl; exact rfl; omega; omega; (first | with_reducible exact Int.toNat_natCast _ | exact rfl)) | ((with_reducible apply e_ia_ar); exact rfl; exact rfl; exact rfl; omega; omega; (first | with_reducible exact Int.toNat_natCast _ | exact rfl)))) | ((with_reducible apply (d_e (some [6]))); exact rfl; exact rfl; kernel_rfl; kernel_rfl; exact rfl; exact rfl; (first | ((with_reducible apply e_v); exact rfl) | ((with_reducible apply e_ld_el1); exact rfl; exact rfl; exact rfl; (first | with_reducible assumption | exact map_get (by omega) | exact set_get (by simp; omega) | exact rfl); exact rfl) | ((with_reducible apply e_ld_eln); exact rfl; exact rfl; exact rfl; (first | with_reducible assumption | exact map_get (by omega) | exact set_get (by simp; omega) | exact rfl); exact Nat.le_of_ble_eq_true rfl) | ((with_reducible apply e_ia); exact rfl; exact rfl; exact rfl; omega; (first | with_reducible exact Int.toNat_natCast _ | exact rfl); (first | with_reducible assumption | exact map_get (by omega) | exact set_get (by simp; omega) | exact rfl); exact rfl; exact rfl) | ((with_reducible apply e_ia_sl); exact rfl; exact rfl; exact rfl; omega; omega; (first | with_reducible exact Int.toNat_natCast _ | exact rfl)) | ((with_reducible apply e_ia_ar); exact rfl; exact rfl; exact rfl; omega; omega; (first | with_reducible exact Int.toNat_natCast _ | exact rfl)))) | ((with_reducible apply d_st); exact rfl; exact (by decide +kernel); exact rfl; exact rfl; exact rfl; exact rfl; exact rfl; exact rfl; exact rfl) | ((with_reducible apply d_ste); exact rfl; exact (by decide +kernel); exact rfl; exact rfl; exact rfl; exact rfl; exact rfl; exact rfl; exact rfl; (first | with_reducible assumption | exact map_get (by omega) | exact set_get (by simp; omega) | exact rfl); exact Nat.le_of_ble_eq_true rfl) | ((with_reducible apply d_leaf); exact (by decide +kernel)))); all_goals ((with_reducible apply n_doneZ); exact rfl; exact (by decide +kernel))))
            repeat' (first
    | ((with_reducible apply c_l1); exact rfl; exact rfl)
    | ((with_reducible apply c_l2); exact rfl; exact rfl)
    | ((with_reducible apply c_l3); exact rfl)
    | (with_reducible (first | apply c_seq | apply c_rg | apply j_nil | apply q_n | apply g_tt | apply g_ff | apply c_ct | apply c_cf | apply c_bl | apply c_ex | apply c_ret | apply c_sk | apply q_r | apply q_e | apply b_r | apply b_e | apply b_n | apply n_n | apply n_r | apply n_e))
    | ((with_reducible apply j_v); exact rfl; exact rfl)
    | ((with_reducible apply j_h); exact rfl; exact rfl)
    | ((with_reducible apply j_s); exact rfl)
    | ((with_reducible apply j_g); exact rfl; exact rfl; (first | with_reducible assumption | with_reducible exact Eq.refl true | with_reducible exact Eq.refl false | (with_reducible refine not_t ?_; with_reducible assumption) | (with_reducible refine not_f ?_; with_reducible assumption) | (refine dec_t ?_; decide) | (refine dec_f ?_; decide)))
    | ((with_reducible apply g_tf); exact rfl)
    | ((with_reducible apply g_ft); exact rfl)
    | ((with_reducible apply j_gz); exact rfl; exact rfl; exact rfl)
    | ((with_reducible apply j_lenm); exact rfl; exact rfl; exact rfl)
    | ((with_reducible apply j_lens); exact rfl; exact rfl; exact rfl)
    | ((with_reducible apply j_len); exact rfl; exact rfl; exact rfl)
    | ((with_reducible apply j_len0); exact rfl; exact rfl; exact rfl)
    | ((with_reducible apply j_pk); exact rfl; exact rfl; (first | with_reducible assumption | with_reducible exact Eq.refl true | with_reducible exact Eq.refl false | (with_reducible refine not_t ?_; with_reducible assumption) | (with_reducible refine not_f ?_; with_reducible assumption) | (refine dec_t ?_; decide) | (refine dec_f ?_; decide)); exact rfl)
    | ((with_reducible apply j_ld_el1); exact rfl; exact rfl; exact rfl; exact rfl; (first | with_reducible assumption | exact map_get (by omega) | exact set_get (by simp; omega) | exact rfl); exact rfl)
    | ((with_reducible apply j_sub); exact rfl; exact rfl; exact rfl; exact Go.IntWalk.i64_in _ (by omega))
    | ((with_reducible apply j_ia); exact rfl; exact rfl; exact rfl; exact rfl; omega; (first | with_reducible exact Int.toNat_natCast _ | exact rfl); (first | with_reducible assumption | exact map_get (by omega) | exact set_get (by simp; omega) | exact rfl); exact rfl; exact rfl)
    | ((with_reducible apply j_ia_sl); exact rfl; exact rfl; exact rfl; exact rfl; omega; omega; (first | with_reducible exact Int.toNat_natCast _ | exact rfl))
    | ((with_reducible apply j_ia_ar); exact rfl; exact rfl; exact rfl; exact rfl; omega; omega; (first | with_reducible exact Int.toNat_natCast _ | exact rfl))
    | ((with_reducible apply j_ste); exact rfl; exact rfl; exact rfl; exact rfl; exact rfl; exact rfl; (first | with_reducible assumption | exact map_get (by omega) | exact set_get (by simp; omega) | exact rfl); exact Nat.le_of_ble_eq_true rfl; exact rfl)
    | ((with_reducible apply j_ap); exact rfl; exact rfl; exact rfl; exact rfl; exact rfl; exact rfl; exact rfl; exact rfl; exact rfl; (first | exact rfl | exact (List.length_map _).symm | omega | (simp only [List.length_set, List.length_map, List.length_append] <;> omega) | (simp; done)); (first | (apply src_sl; exact rfl; exact rfl; exact rfl) | (apply src_sl; exact rfl; exact rfl; rw [List.length_map]; omega) | (apply src_nil; exact rfl) | (apply src_d; exact rfl; (intro row hrow; obtain ⟨q, _, rfl⟩ := List.mem_map.1 hrow; rfl))); exact rfl; (first | decide | (show (_ + 1) * _ ≤ _; rw [List.length_map]; omega) | omega | (simp only [List.length_set, List.length_map, List.length_append]; done) | (simp; omega)); exact rfl)
    | ((with_reducible apply j_ap0); exact rfl; exact rfl; exact rfl; exact rfl; exact rfl; exact rfl; (first | (apply src_sl; exact rfl; exact rfl; exact rfl) | (apply src_sl; exact rfl; exact rfl; rw [List.length_map]; omega) | (apply src_nil; exact rfl) | (apply src_d; exact rfl; (intro row hrow; obtain ⟨q, _, rfl⟩ := List.mem_map.1 hrow; rfl))); exact rfl; (first | decide | (show (_ + 1) * _ ≤ _; rw [List.length_map]; omega) | omega | (simp only [List.length_set, List.length_map, List.length_append]; done) | (simp; omega)); exact rfl)
    | ((with_reducible apply c_c); exact rfl; (first | with_reducible assumption | with_reducible exact Eq.refl true | with_reducible exact Eq.refl false | (with_reducible refine not_t ?_; with_reducible assumption) | (with_reducible refine not_f ?_; with_reducible assumption) | (refine dec_t ?_; decide) | (refine dec_f ?_; decide)))
    | ((with_reducible apply b_o); exact rfl)
    | ((with_reducible apply r_g); exact rfl; (· repeat' (first | exact True.intro | refine And.intro ?_ ?_ | (first | exact rfl | exact (List.length_map _).symm | omega | (simp only [List.length_set, List.length_map, List.length_append] <;> omega) | (simp; done)))))
    | refine Copy_j c hsm rfl (by repeat' (first | exact .nil _ | refine .cons ?_ ?_ | exact .one (.d _ _) | exact .one (.nil _) | exact .one (.tape _) | exact .one (.fn _ _) | exact .agg (.same _ _) | refine .agg ?_ | exact .d _ _ | exact .one (.sl rfl rfl) | exact .sl rfl rfl | refine .one (PsC.ref rfl ?_) | refine PsC.ref rfl ?_ | refine .one (PsC.rp ?_) | refine PsC.rp ?_ | refine .one (PsC.clo ?_) | refine PsC.clo ?_ | exact .same _ _)) rfl rfl ?_
    | refine j_sne xv_eqT rfl rfl rfl (xv_cells x ⟨x.kind, x.rep, x.snap, 0⟩) ?_
    | ((with_reducible apply j_call (pu := false)); exact rfl; exact valid_ic c; (focus ((repeat' (first | exact .nil _ | refine .cons ?_ ?_ | exact .one (.d _ _) | exact .one (.nil _) | exact .one (.tape _) | exact .one (.fn _ _) | exact .agg (.same _ _) | refine .agg ?_ | exact .d _ _ | exact .one (.sl rfl rfl) | exact .sl rfl rfl | exact .same _ _)) <;> fail)); exact .inr rfl)
    | ((with_reducible apply j_call (pu := false)); exact rfl; apply (in_ic _ _ _); rotate_left 3; (focus ((repeat' (first | exact .nil _ | refine .cons ?_ ?_ | exact .one (.d _ _) | exact .one (.nil _) | exact .one (.tape _) | exact .one (.fn _ _) | exact .agg (.same _ _) | refine .agg ?_ | exact .d _ _ | exact .one (.sl rfl rfl) | exact .sl rfl rfl | exact .same _ _)) <;> fail)); exact .inr rfl)
    | (with_reducible rfl)
    | ((with_reducible apply j_gs); exact rfl; exact rfl; all_goals intro hg)
    | ((with_reducible apply c_if); exact rfl; all_goals intro hc))
            (refine n_start (by kernel_rfl) ?_; (refine n_quiet (some [1010]) #[true, true, true, true, true, true, true, true, true, true, true, true, true, true, true, true, true] [0, 1, 2, 3, 4, 5, 6, 7, 8, 9, 10, 11, 12, 13, 14, 15, 16] 0 rfl ?_; (repeat' (first | ((with_reducible apply (d_e (some []))); exact rfl; exact rfl; kernel_rfl; exact (by decide +kernel); exact rfl; exact rfl; (first | ((with_reducible apply e_v); exact rfl) | ((with_reducible apply e_ld_el1); exact rfl; exact rfl; exact rfl; (first | with_reducible assumption | exact map_get (by omega) | exact set_get (by simp; omega) | exact rfl); exact rfl) | ((with_reducible apply e_ld_eln); exact rfl; exact rfl; exact rfl; (first | with_reducible assumption | exact map_get (by omega) | exact set_get (by simp; omega) | exact rfl); exact Nat.le_of_ble_eq_true rfl) | ((with_reducible apply e_ia); exact rfl; exact rfl; exact rfl; omega; (first | with_reducible exact Int.toNat_natCast _ | exact rfl); (first | with_reducible assumption | exact map_get (by omega) | exact set_get (by simp; omega) | exact rfl); exact rfl; exact rfl) | ((with_reducible apply e_ia_sl); exact rfl; exact rfl; exact rfl; omega; omega; (first | with_reducible exact Int.toNat_natCast _ | exact rfl)) | ((with_reducible apply e_ia_ar); exact rfl; exact rfl; exact rfl; omega; omega; (first | with_reducible exact Int.toNat_natCast _ | exact rfl)))) | ((with_reducible apply (d_e (some [1010]))); exact rfl; exact rfl; kernel_rfl; kernel_rfl; exact rfl; exact rfl; (first | ((with_reducible apply e_v); exact rfl) | ((with_reducible apply e_ld_el1); exact rfl; exact rfl; exact rfl; (first | with_reducible assumption | exact map_get (by omega) | exact set_get (by simp; omega) | exact rfl); exact rfl) | ((with_reducible apply e_ld_eln); exact rfl; exact rfl; exact rfl; (first | with_reducible assumption | exact map_get (by omega) | exact set_get (by simp; omega) | exact rfl); exact Nat.le_of_ble_eq_true rfl) | ((with_reducible apply e_ia); exact rfl; exact rfl; exact rfl; omega; (first | with_reducible exact Int.toNat_natCast _ | exact rfl); (first | with_reducible assumption | exact map_get (by omega) | exact set_get (by simp; omega) | exact rfl); exact rfl; exact rfl) | ((with_reducible apply e_ia_sl); exact rfl; exact rfl; exact rfl; omega; omega; (first | with_reducible exact Int.toNat_natCast _ | exact rfl)) | ((with_reducible apply e_ia_ar); exact rfl; exact rfl; exact rfl; omega; omega; (first | with_reducible exact Int.toNat_natCast _ | exact rfl)))) | ((with_reducible apply d_st); exact rfl; exact (by decide +kernel); exact rfl; exact rfl; exact rfl; exact rfl; exact rfl; exact rfl; exact rfl) | ((with_reducible apply d_ste); exact rfl; exact (by decide +kernel); exact rfl; exact rfl; exact rfl; exact rfl; exact rfl; exact rfl; exact rfl; (first | with_reducible assumption | exact map_get (by omega) | exact set_get (by simp; omega) | exact rfl); exact Nat.le_of_ble_eq_true rfl) | ((with_reducible apply d_leaf); exact (by decide +kernel)))); all_goals ((with_reducible apply n_doneZ); exact rfl; exact (by decide +kernel))))
            repeat' (first
    | ((with_reducible apply c_l1); exact rfl; exact rfl)
    | ((with_reducible apply c_l2); exact rfl; exact rfl)
    | ((with_reducible apply c_l3); exact rfl)
    | (with_reducible (first | apply c_seq | apply c_rg | apply j_nil | apply q_n | apply g_tt | apply g_ff | apply c_ct | apply c_cf | apply c_bl | apply c_ex | apply c_ret | apply c_sk | apply q_r | apply q_e | apply b_r | apply b_e | apply b_n | apply n_n | apply n_r | apply n_e))
    | ((with_reducible apply j_v); exact rfl; exact rfl)
    | ((with_reducible apply j_h); exact rfl; exact rfl)
    | ((with_reducible apply j_s); exact rfl)
    | ((with_reducible apply j_g); exact rfl; exact rfl; (first | with_reducible assumption | with_reducible exact Eq.refl true | with_reducible exact Eq.refl false | (with_reducible refine not_t ?_; with_reducible assumption) | (with_reducible refine not_f ?_; with_reducible assumption) | (refine dec_t ?_; decide) | (refine dec_f ?_; decide)))
    | ((with_reducible apply g_tf); exact rfl)
    | ((with_reducible apply g_ft); exact rfl)
    | ((with_reducible apply j_gz); exact rfl; exact rfl; exact rfl)
    | ((with_reducible apply j_lenm); exact rfl; exact rfl; exact rfl)
    | ((with_reducible apply j_lens); exact rfl; exact rfl; exact rfl)
    | ((with_reducible apply j_len); exact rfl; exact rfl; exact rfl)
    | ((with_reducible apply j_len0); exact rfl; exact rfl; exact rfl)
    | ((with_reducible apply j_pk); exact rfl; exact rfl; (first | with_reducible assumption | with_reducible exact Eq.refl true | with_reducible exact Eq.refl false | (with_reducible refine not_t ?_; with_reducible assumption) | (with_reducible refine not_f ?_; with_reducible assumption) | (refine dec_t ?_; decide) | (refine dec_f ?_; decide)); exact rfl)
    | ((with_reducible apply j_ld_el1); exact rfl; exact rfl; exact rfl; exact rfl; (first | with_reducible assumption | exact map_get (by omega) | exact set_get (by simp; omega) | exact rfl); exact rfl)
    | ((with_reducible apply j_sub); exact rfl; exact rfl; exact rfl; exact Go.IntWalk.i64_in _ (by omega))
    | ((with_reducible apply j_ia); exact rfl; exact rfl; exact rfl; exact rfl; omega; (first | with_reducible exact Int.toNat_natCast _ | exact rfl); (first | with_reducible assumption | exact map_get (by omega) | exact set_get (by simp; omega) | exact rfl); exact rfl; exact rfl)
    | ((with_reducible apply j_ia_sl); exact rfl; exact rfl; exact rfl; exact rfl; omega; omega; (first | with_reducible exact Int.toNat_natCast _ | exact rfl))
    | ((with_reducible apply j_ia_ar); exact rfl; exact rfl; exact rfl; exact rfl; omega; omega; (first | with_reducible exact Int.toNat_natCast _ | exact rfl))
    | ((with_reducible apply j_ste); exact rfl; exact rfl; exact rfl; exact rfl; exact rfl; exact rfl; (first | with_reducible assumption | exact map_get (by omega) | exact set_get (by simp; omega) | exact rfl); exact Nat.le_of_ble_eq_true rfl; exact rfl)
    | ((with_reducible apply j_ap); exact rfl; exact rfl; exact rfl; exact rfl; exact rfl; exact rfl; exact rfl; exact rfl; exact rfl; (first | exact rfl | exact (List.length_map _).symm | omega | (simp only [List.length_set, List.length_map, List.length_append] <;> omega) | (simp; done)); (first | (apply src_sl; exact rfl; exact rfl; exact rfl) | (apply src_sl; exact rfl; exact rfl; rw [List.length_map]; omega) | (apply src_nil; exact rfl) | (apply src_d; exact rfl; (intro row hrow; obtain ⟨q, _, rfl⟩ := List.mem_map.1 hrow; rfl))); exact rfl; (first | decide | (show (_ + 1) * _ ≤ _; rw [List.length_map]; omega) | omega | (simp only [List.length_set, List.length_map, List.length_append]; done) | (simp; omega)); exact rfl)
    | ((with_reducible apply j_ap0); exact rfl; exact rfl; exact rfl; exact rfl; exact rfl; exact rfl; (first | (apply src_sl; exact rfl; exact rfl; exact rfl) | (apply src_sl; exact rfl; exact rfl; rw [List.length_map]; omega) | (apply src_nil; exact rfl) | (apply src_d; exact rfl; (intro row hrow; obtain ⟨q, _, rfl⟩ := List.mem_map.1 hrow; rfl))); exact rfl; (first | decide | (show (_ + 1) * _ ≤ _; rw [List.length_map]; omega) | omega | (simp only [List.length_set, List.length_map, List.length_append]; done) | (simp; omega)); exact rfl)
    | ((with_reducible apply c_c); exact rfl; (first | with_reducible assumption | with_reducible exact Eq.refl true | with_reducible exact Eq.refl false | (with_reducible refine not_t ?_; with_reducible assumption) | (with_reducible refine not_f ?_; with_reducible assumption) | (refine dec_t ?_; decide) | (refine dec_f ?_; decide)))
    | ((with_reducible apply b_o); exact rfl)
    | ((with_reducible apply r_g); exact rfl; (· repeat' (first | exact True.intro | refine And.intro ?_ ?_ | (first | exact rfl | exact (List.length_map _).symm | omega | (simp only [List.length_set, List.length_map, List.length_append] <;> omega) | (simp; done)))))
    | refine Copy_j c hsm rfl (by repeat' (first | exact .nil _ | refine .cons ?_ ?_ | exact .one (.d _ _) | exact .one (.nil _) | exact .one (.tape _) | exact .one (.fn _ _) | exact .agg (.same _ _) | refine .agg ?_ | exact .d _ _ | exact .one (.sl rfl rfl) | exact .sl rfl rfl | refine .one (PsC.ref rfl ?_) | refine PsC.ref rfl ?_ | refine .one (PsC.rp ?_) | refine PsC.rp ?_ | refine .one (PsC.clo ?_) | refine PsC.clo ?_ | exact .same _ _)) rfl rfl ?_
    | refine j_sne xv_eqT rfl rfl rfl (xv_cells x ⟨x.kind, x.rep, x.snap, 0⟩) ?_
    | ((with_reducible apply j_call (pu := false)); exact rfl; exact valid_ic c; (focus ((repeat' (first | exact .nil _ | refine .cons ?_ ?_ | exact .one (.d _ _) | exact .one (.nil _) | exact .one (.tape _) | exact .one (.fn _ _) | exact .agg (.same _ _) | refine .agg ?_ | exact .d _ _ | exact .one (.sl rfl rfl) | exact .sl rfl rfl | exact .same _ _)) <;> fail)); exact .inr rfl)
    | ((with_reducible apply j_call (pu := false)); exact rfl; apply (in_ic _ _ _); rotate_left 3; (focus ((repeat' (first | exact .nil _ | refine .cons ?_ ?_ | exact .one (.d _ _) | exact .one (.nil _) | exact .one (.tape _) | exact .one (.fn _ _) | exact .agg (.same _ _) | refine .agg ?_ | exact .d _ _ | exact .one (.sl rfl rfl) | exact .sl rfl rfl | exact .same _ _)) <;> fail)); exact .inr rfl)
    | (with_reducible rfl)
    | ((with_reducible apply j_gs); exact rfl; exact rfl; all_goals intro hg)
    | ((with_reducible apply c_if); exact rfl; all_goals intro hc))
            refine Eq.trans ?_ (fin_ok (c' := { c with reps := c.reps.set x.rep.toNat ⟨c.snaps.getD x.snap.toNat 0, !c.fence⟩ }) ((E4 hv h4).trans (if_pos ⟨hx, hin, hsn⟩)) (by simp [applyM, h4]))
            simp only [Cl.v, Cl.row, List.map_set, List.set_set, ← es]
            rfl
          · simp only [Bool.not_eq_true] at hsn
            repeat' (first
    | ((with_reducible apply c_l1); exact rfl; exact rfl)
    | ((with_reducible apply c_l2); exact rfl; exact rfl)
    | ((with_reducible apply c_l3); exact rfl)
    | (with_reducible (first | apply c_seq | apply c_rg | apply j_nil | apply q_n | apply g_tt | apply g_ff | apply c_ct | apply c_cf | apply c_bl | apply c_ex | apply c_ret | apply c_sk | apply q_r | apply q_e | apply b_r | apply b_e | apply b_n | apply n_n | apply n_r | apply n_e))
    | ((with_reducible apply j_v); exact rfl; exact rfl)
    | ((with_reducible apply j_h); exact rfl; exact rfl)
    | ((with_reducible apply j_s); exact rfl)
    | ((with_reducible apply j_g); exact rfl; exact rfl; (first | with_reducible assumption | with_reducible exact Eq.refl true | with_reducible exact Eq.refl false | (with_reducible refine not_t ?_; with_reducible assumption) | (with_reducible refine not_f ?_; with_reducible assumption) | (refine dec_t ?_; decide) | (refine dec_f ?_; decide)))
    | ((with_reducible apply g_tf); exact rfl)
    | ((with_reducible apply g_ft); exact rfl)
    | ((with_reducible apply j_gz); exact rfl; exact rfl; exact rfl)
    | ((with_reducible apply j_lenm); exact rfl; exact rfl; exact rfl)
    | ((with_reducible apply j_lens); exact rfl; exact rfl; exact rfl)
    | ((with_reducible apply j_len); exact rfl; exact rfl; exact rfl)
    | ((with_reducible apply j_len0); exact rfl; exact rfl; exact rfl)
    | ((with_reducible apply j_pk); exact rfl; exact rfl; (first | with_reducible assumption | with_reducible exact Eq.refl true | with_reducible exact Eq.refl false | (with_reducible refine not_t ?_; with_reducible assumption) | (with_reducible refine not_f ?_; with_reducible assumption) | (refine dec_t ?_; decide) | (refine dec_f ?_; decide)); exact rfl)
    | ((with_reducible apply j_ld_el1); exact rfl; exact rfl; exact rfl; exact rfl; (first | with_reducible assumption | exact map_get (by omega) | exact set_get (by simp; omega) | exact rfl); exact rfl)
    | ((with_reducible apply j_sub); exact rfl; exact rfl; exact rfl; exact Go.IntWalk.i64_in _ (by omega))
    | ((with_reducible apply j_ia); exact rfl; exact rfl; exact rfl; exact rfl; omega; (first | with_reducible exact Int.toNat_natCast _ | exact rfl); (first | with_reducible assumption | exact map_get (by omega) | exact set_get (by simp; omega) | exact rfl); exact rfl; exact rfl)
    | ((with_reducible apply j_ia_sl); exact rfl; exact rfl; exact rfl; exact rfl; omega; omega; (first | with_reducible exact Int.toNat_natCast _ | exact rfl))
    | ((with_reducible apply j_ia_ar); exact rfl; exact rfl; exact rfl; exact rfl; omega; omega; (first | with_reducible exact Int.toNat_natCast _ | exact rfl))
    | ((with_reducible apply j_ste); exact rfl; exact rfl; exact rfl; exact rfl; exact rfl; exact rfl; (first | with_reducible assumption | exact map_get (by omega) | exact set_get (by simp; omega) | exact rfl); exact Nat.le_of_ble_eq_true rfl; exact rfl)
    | ((with_reducible apply j_ap); exact rfl; exact rfl; exact rfl; exact rfl; exact rfl; exact rfl; exact rfl; exact rfl; exact rfl; (first | exact rfl | exact (List.length_map _).symm | omega | (simp only [List.length_set, List.length_map, List.length_append] <;> omega) | (simp; done)); (first | (apply src_sl; exact rfl; exact rfl; exact rfl) | (apply src_sl; exact rfl; exact rfl; rw [List.length_map]; omega) | (apply src_nil; exact rfl) | (apply src_d; exact rfl; (intro row hrow; obtain ⟨q, _, rfl⟩ := List.mem_map.1 hrow; rfl))); exact rfl; (first | decide | (show (_ + 1) * _ ≤ _; rw [List.length_map]; omega) | omega | (simp only [List.length_set, List.length_map, List.length_append]; done) | (simp; omega)); exact rfl)
    | ((with_reducible apply j_ap0); exact rfl; exact rfl; exact rfl; exact rfl; exact rfl; exact rfl; (first | (apply src_sl; exact rfl; exact rfl; exact rfl) | (apply src_sl; exact rfl; exact rfl; rw [List.length_map]; omega) | (apply src_nil; exact rfl) | (apply src_d; exact rfl; (intro row hrow; obtain ⟨q, _, rfl⟩ := List.mem_map.1 hrow; rfl))); exact rfl; (first | decide | (show (_ + 1) * _ ≤ _; rw [List.length_map]; omega) | omega | (simp only [List.length_set, List.length_map, List.length_append]; done) | (simp; omega)); exact rfl)
    | ((with_reducible apply c_c); exact rfl; (first | with_reducible assumption | with_reducible exact Eq.refl true | with_reducible exact Eq.refl false | (with_reducible refine not_t ?_; with_reducible assumption) | (with_reducible refine not_f ?_; with_reducible assumption) | (refine dec_t ?_; decide) | (refine dec_f ?_; decide)))
    | ((with_reducible apply b_o); exact rfl)
    | ((with_reducible apply r_g); exact rfl; (· repeat' (first | exact True.intro | refine And.intro ?_ ?_ | (first | exact rfl | exact (List.length_map _).symm | omega | (simp only [List.length_set, List.length_map, List.length_append] <;> omega) | (simp; done)))))
    | refine Copy_j c hsm rfl (by repeat' (first | exact .nil _ | refine .cons ?_ ?_ | exact .one (.d _ _) | exact .one (.nil _) | exact .one (.tape _) | exact .one (.fn _ _) | exact .agg (.same _ _) | refine .agg ?_ | exact .d _ _ | exact .one (.sl rfl rfl) | exact .sl rfl rfl | refine .one (PsC.ref rfl ?_) | refine PsC.ref rfl ?_ | refine .one (PsC.rp ?_) | refine PsC.rp ?_ | refine .one (PsC.clo ?_) | refine PsC.clo ?_ | exact .same _ _)) rfl rfl ?_
    | refine j_sne xv_eqT rfl rfl rfl (xv_cells x ⟨x.kind, x.rep, x.snap, 0⟩) ?_
    | ((with_reducible apply j_call (pu := false)); exact rfl; exact valid_ic c; (focus ((repeat' (first | exact .nil _ | refine .cons ?_ ?_ | exact .one (.d _ _) | exact .one (.nil _) | exact .one (.tape _) | exact .one (.fn _ _) | exact .agg (.same _ _) | refine .agg ?_ | exact .d _ _ | exact .one (.sl rfl rfl) | exact .sl rfl rfl | exact .same _ _)) <;> fail)); exact .inr rfl)
    | ((with_reducible apply j_call (pu := false)); exact rfl; apply (in_ic _ _ _); rotate_left 3; (focus ((repeat' (first | exact .nil _ | refine .cons ?_ ?_ | exact .one (.d _ _) | exact .one (.nil _) | exact .one (.tape _) | exact .one (.fn _ _) | exact .agg (.same _ _) | refine .agg ?_ | exact .d _ _ | exact .one (.sl rfl rfl) | exact .sl rfl rfl | exact .same _ _)) <;> fail)); exact .inr rfl)
    | (with_reducible rfl)
    | ((with_reducible apply j_gs); exact rfl; exact rfl; all_goals intro hg)
    | ((with_reducible apply c_if); exact rfl; all_goals intro hc))
            (refine n_start (by kernel_rfl) ?_; (refine n_quiet (some [6]) #[true, true, true, true, true, true, true, true] [0, 1, 2, 3, 4, 5, 6, 7] 0 rfl ?_; (repeat' (first | ((with_reducible apply (d_e (some []))); exact rfl; exact rfl; kernel_rfl; exact (by decide +kernel); exact rfl; exact rfl; (first | ((with_reducible apply e_v); exact rfl) | ((with_reducible apply e_ld_el1); exact rfl; exact rfl; exact rfl; (first | with_reducible assumption | exact map_get (by omega) | exact set_get (by simp; omega) | exact rfl); exact rfl) | ((with_reducible apply e_ld_eln); exact rfl; exact rfl; exact rfl; (first | with_reducible assumption | exact map_get (by omega) | exact set_get (by simp; omega) | exact rfl); exact Nat.le_of_ble_eq_true rfl) | ((with_reducible apply e_ia); exact rfl; exact rfl; exact rfl; omega; (first | with_reducible exact Int.toNat_natCast _ | exact rfl); (first | with_reducible assumption | exact map_get (by omega) | exact set_get (by simp; omega) | exact rfl); exact rfl; exact rfl) | ((with_reducible apply e_ia_sl); exact rfl; exact rfl; exact rfl; omega; omega; (first | with_reducible exact Int.toNat_natCast _ | exact rfl)) | ((with_reducible apply e_ia_ar); exact rfl; exact rfl; exact rfl; omega; omega; (first | with_reducible exact Int.toNat_natCast _ | exact rfl)))) | ((with_reducible apply (d_e (some [6]))); exact rfl; exact rfl; kernel_rfl; kernel_rfl; exact rfl; exact rfl; (first | ((with_reducible apply e_v); exact rfl) | ((with_reducible apply e_ld_el1); exact rfl; exact rfl; exact rfl; (first | with_reducible assumption | exact map_get (by omega) | exact set_get (by simp; omega) | exact rfl); exact rfl) | ((with_reducible apply e_ld_eln); exact rfl; exact rfl; exact rfl; (first | with_reducible assumption | exact map_get (by omega) | exact set_get (by simp; omega) | exact rfl); exact Nat.le_of_ble_eq_true rfl) | ((with_reducible apply e_ia); exact rfl; exact rfl; exact rfl; omega; (first | with_reducible exact Int.toNat_natCast _ | exact rfl); (first | with_reducible assumption | exact map_get (by omega) | exact set_get (by simp; omega) | exact rfl); exact rfl; exact rfl) | ((with_reducible apply e_ia_sl); exact rfl; exact rfl; exact rfl; omega; omega; (first | with_reducible exact Int.toNat_natCast _ | exact rfl)) | ((with_reducible apply e_ia_ar); exact rfl; exact rfl; exact rfl; omega; omega; (first | with_reducible exact Int.toNat_natCast _ | exact rfl)))) | ((with_reducible apply d_st); exact rfl; exact (by decide +kernel); exact rfl; exact rfl; exact rfl; exact rfl; exact rfl; exact rfl; exact rfl) | ((with_reducible apply d_ste); exact rfl; exact (by decide +kernel); exact rfl; exact rfl; exact rfl; exact rfl; exact rfl; exact rfl; exact rfl; (first | with_reducible assumption | exact map_get (by omega) | exact set_get (by simp; omega) | exact rfl); exact Nat.le_of_ble_eq_true rfl) | ((with_reducible apply d_leaf); exact (by decide +kernel)))); all_goals ((with_reducible apply n_doneZ); exact rfl; exact (by decide +kernel))))
            repeat' (first
    | ((with_reducible apply c_l1); exact rfl; exact rfl)
    | ((with_reducible apply c_l2); exact rfl; exact rfl)
    | ((with_reducible apply c_l3); exact rfl)
    | (with_reducible (first | apply c_seq | apply c_rg | apply j_nil | apply q_n | apply g_tt | apply g_ff | apply c_ct | apply c_cf | apply c_bl | apply c_ex | apply c_ret | apply c_sk | apply q_r | apply q_e | apply b_r | apply b_e | apply b_n | apply n_n | apply n_r | apply n_e))
    | ((with_reducible apply j_v); exact rfl; exact rfl)
    | ((with_reducible apply j_h); exact rfl; exact rfl)
    | ((with_reducible apply j_s); exact rfl)
    | ((with_reducible apply j_g); exact rfl; exact rfl; (first | with_reducible assumption | with_reducible exact Eq.refl true | with_reducible exact Eq.refl false | (with_reducible refine not_t ?_; with_reducible assumption) | (with_reducible refine not_f ?_; with_reducible assumption) | (refine dec_t ?_; decide) | (refine dec_f ?_; decide)))
    | ((with_reducible apply g_tf); exact rfl)
    | ((with_reducible apply g_ft); exact rfl)
    | ((with_reducible apply j_gz); exact rfl; exact rfl; exact rfl)
    | ((with_reducible apply j_lenm); exact rfl; exact rfl; exact rfl)
    | ((with_reducible apply j_lens); exact rfl; exact rfl; exact rfl)
    | ((with_reducible apply j_len); exact rfl; exact rfl; exact rfl)
    | ((with_reducible apply j_len0); exact rfl; exact rfl; exact rfl)
    | ((with_reducible apply j_pk); exact rfl; exact rfl; (first | with_reducible assumption | with_reducible exact Eq.refl true | with_reducible exact Eq.refl false | (with_reducible refine not_t ?_; with_reducible assumption) | (with_reducible refine not_f ?_; with_reducible assumption) | (refine dec_t ?_; decide) | (refine dec_f ?_; decide)); exact rfl)
    | ((with_reducible apply j_ld_el1); exact rfl; exact rfl; exact rfl; exact rfl; (first | with_reducible assumption | exact map_get (by omega) | exact set_get (by simp; omega) | exact rfl); exact rfl)
    | ((with_reducible apply j_sub); exact rfl; exact rfl; exact rfl; exact Go.IntWalk.i64_in _ (by omega))
    | ((with_reducible apply j_ia); exact rfl; exact rfl; exact rfl; exact rfl; omega; (first | with_reducible exact Int.toNat_natCast _ | exact rfl); (first | with_reducible assumption | exact map_get (by omega) | exact set_get (by simp; omega) | exact rfl); exact rfl; exact rfl)
    | ((with_reducible apply j_ia_sl); exact rfl; exact rfl; exact rfl; exact rfl; omega; omega; (first | with_reducible exact Int.toNat_natCast _ | exact rfl))
    | ((with_reducible apply j_ia_ar); exact rfl; exact rfl; exact rfl; exact rfl; omega; omega; (first | with_reducible exact Int.toNat_natCast _ | exact rfl))
    | ((with_reducible apply j_ste); exact rfl; exact rfl; exact rfl; exact rfl; exact rfl; exact rfl; (first | with_reducible assumption | exact map_get (by omega) | exact set_get (by simp; omega) | exact rfl); exact Nat.le_of_ble_eq_true rfl; exact rfl)
    | ((with_reducible apply j_ap); exact rfl; exact rfl; exact rfl; exact rfl; exact rfl; exact rfl; exact rfl; exact rfl; exact rfl; (first | exact rfl | exact (List.length_map _).symm | omega | (simp only [List.length_set, List.length_map, List.length_append] <;> omega) | (simp; done)); (first | (apply src_sl; exact rfl; exact rfl; exact rfl) | (apply src_sl; exact rfl; exact rfl; rw [List.length_map]; omega) | (apply src_nil; exact rfl) | (apply src_d; exact rfl; (intro row hrow; obtain ⟨q, _, rfl⟩ := List.mem_map.1 hrow; rfl))); exact rfl; (first | decide | (show (_ + 1) * _ ≤ _; rw [List.length_map]; omega) | omega | (simp only [List.length_set, List.length_map, List.length_append]; done) | (simp; omega)); exact rfl)
    | ((with_reducible apply j_ap0); exact rfl; exact rfl; exact rfl; exact rfl; exact rfl; exact rfl; (first | (apply src_sl; exact rfl; exact rfl; exact rfl) | (apply src_sl; exact rfl; exact rfl; rw [List.length_map]; omega) | (apply src_nil; exact rfl) | (apply src_d; exact rfl; (intro row hrow; obtain ⟨q, _, rfl⟩ := List.mem_map.1 hrow; rfl))); exact rfl; (first | decide | (show (_ + 1) * _ ≤ _; rw [List.length_map]; omega) | omega | (simp only [List.length_set, List.length_map, List.length_append]; done) | (simp; omega)); exact rfl)
    | ((with_reducible apply c_c); exact rfl; (first | with_reducible assumption | with_reducible exact Eq.refl true | with_reducible exact Eq.refl false | (with_reducible refine not_t ?_; with_reducible assumption) | (with_reducible refine not_f ?_; with_reducible assumption) | (refine dec_t ?_; decide) | (refine dec_f ?_; decide)))
    | ((with_reducible apply b_o); exact rfl)
    | ((with_reducible apply r_g); exact rfl; (· repeat' (first | exact True.intro | refine And.intro ?_ ?_ | (first | exact rfl | exact (List.length_map _).symm | omega | (simp only [List.length_set, List.length_map, List.length_append] <;> omega) | (simp; done)))))
    | refine Copy_j c hsm rfl (by repeat' (first | exact .nil _ | refine .cons ?_ ?_ | exact .one (.d _ _) | exact .one (.nil _) | exact .one (.tape _) | exact .one (.fn _ _) | exact .agg (.same _ _) | refine .agg ?_ | exact .d _ _ | exact .one (.sl rfl rfl) | exact .sl rfl rfl | refine .one (PsC.ref rfl ?_) | refine PsC.ref rfl ?_ | refine .one (PsC.rp ?_) | refine PsC.rp ?_ | refine .one (PsC.clo ?_) | refine PsC.clo ?_ | exact .same _ _)) rfl rfl ?_
    | refine j_sne xv_eqT rfl rfl rfl (xv_cells x ⟨x.kind, x.rep, x.snap, 0⟩) ?_
    | ((with_reducible apply j_call (pu := false)); exact rfl; exact valid_ic c; (focus ((repeat' (first | exact .nil _ | refine .cons ?_ ?_ | exact .one (.d _ _) | exact .one (.nil _) | exact .one (.tape _) | exact .one (.fn _ _) | exact .agg (.same _ _) | refine .agg ?_ | exact .d _ _ | exact .one (.sl rfl rfl) | exact .sl rfl rfl | exact .same _ _)) <;> fail)); exact .inr rfl)
    | ((with_reducible apply j_call (pu := false)); exact rfl; apply (in_ic _ _ _); rotate_left 3; (focus ((repeat' (first | exact .nil _ | refine .cons ?_ ?_ | exact .one (.d _ _) | exact .one (.nil _) | exact .one (.tape _) | exact .one (.fn _ _) | exact .agg (.same _ _) | refine .agg ?_ | exact .d _ _ | exact .one (.sl rfl rfl) | exact .sl rfl rfl | exact .same _ _)) <;> fail)); exact .inr rfl)
    | (with_reducible rfl)
    | ((with_reducible apply j_gs); exact rfl; exact rfl; all_goals intro hg)
    | ((with_reducible apply c_if); exact rfl; all_goals intro hc))
            refine fin_err ((E4 hv h4).trans (if_neg fun q => ?_)) (by decide)
            rw [q.2.2] at hsn; cases hsn
        · simp only [Bool.not_eq_true] at hin
          repeat' (first
    | ((with_reducible apply c_l1); exact rfl; exact rfl)
    | ((with_reducible apply c_l2); exact rfl; exact rfl)
    | ((with_reducible apply c_l3); exact rfl)
    | (with_reducible (first | apply c_seq | apply c_rg | apply j_nil | apply q_n | apply g_tt | apply g_ff | apply c_ct | apply c_cf | apply c_bl | apply c_ex | apply c_ret | apply c_sk | apply q_r | apply q_e | apply b_r | apply b_e | apply b_n | apply n_n | apply n_r | apply n_e))
    | ((with_reducible apply j_v); exact rfl; exact rfl)
    | ((with_reducible apply j_h); exact rfl; exact rfl)
    | ((with_reducible apply j_s); exact rfl)
    | ((with_reducible apply j_g); exact rfl; exact rfl; (first | with_reducible assumption | with_reducible exact Eq.refl true | with_reducible exact Eq.refl false | (with_reducible refine not_t ?_; with_reducible assumption) | (with_reducible refine not_f ?_; with_reducible assumption) | (refine dec_t ?_; decide) | (refine dec_f ?_; decide)))
    | ((with_reducible apply g_tf); exact rfl)
    | ((with_reducible apply g_ft); exact rfl)
    | ((with_reducible apply j_gz); exact rfl; exact rfl; exact rfl)
    | ((with_reducible apply j_lenm); exact rfl; exact rfl; exact rfl)
    | ((with_reducible apply j_lens); exact rfl; exact rfl; exact rfl)
    | ((with_reducible apply j_len); exact rfl; exact rfl; exact rfl)
    | ((with_reducible apply j_len0); exact rfl; exact rfl; exact rfl)
    | ((with_reducible apply j_pk); exact rfl; exact rfl; (first | with_reducible assumption | with_reducible exact Eq.refl true | with_reducible exact Eq.refl false | (with_reducible refine not_t ?_; with_reducible assumption) | (with_reducible refine not_f ?_; with_reducible assumption) | (refine dec_t ?_; decide) | (refine dec_f ?_; decide)); exact rfl)
    | ((with_reducible apply j_ld_el1); exact rfl; exact rfl; exact rfl; exact rfl; (first | with_reducible assumption | exact map_get (by omega) | exact set_get (by simp; omega) | exact rfl); exact rfl)
    | ((with_reducible apply j_sub); exact rfl; exact rfl; exact rfl; exact Go.IntWalk.i64_in _ (by omega))
    | ((with_reducible apply j_ia); exact rfl; exact rfl; exact rfl; exact rfl; omega; (first | with_reducible exact Int.toNat_natCast _ | exact rfl); (first | with_reducible assumption | exact map_get (by omega) | exact set_get (by simp; omega) | exact rfl); exact rfl; exact rfl)
    | ((with_reducible apply j_ia_sl); exact rfl; exact rfl; exact rfl; exact rfl; omega; omega; (first | with_reducible exact Int.toNat_natCast _ | exact rfl))
    | ((with_reducible apply j_ia_ar); exact rfl; exact rfl; exact rfl; exact rfl; omega; omega; (first | with_reducible exact Int.toNat_natCast _ | exact rfl))
    | ((with_reducible apply j_ste); exact rfl; exact rfl; exact rfl; exact rfl; exact rfl; exact rfl; (first | with_reducible assumption | exact map_get (by omega) | exact set_get (by simp; omega) | exact rfl); exact Nat.le_of_ble_eq_true rfl; exact rfl)
    | ((with_reducible apply j_ap); exact rfl; exact rfl; exact rfl; exact rfl; exact rfl; exact rfl; exact rfl; exact rfl; exact rfl; (first | exact rfl | exact (List.length_map _).symm | omega | (simp only [List.length_set, List.length_map, List.length_append] <;> omega) | (simp; done)); (first | (apply src_sl; exact rfl; exact rfl; exact rfl) | (apply src_sl; exact rfl; exact rfl; rw [List.length_map]; omega) | (apply src_nil; exact rfl) | (apply src_d; exact rfl; (intro row hrow; obtain ⟨q, _, rfl⟩ := List.mem_map.1 hrow; rfl))); exact rfl; (first | decide | (show (_ + 1) * _ ≤ _; rw [List.length_map]; omega) | omega | (simp only [List.length_set, List.length_map, List.length_append]; done) | (simp; omega)); exact rfl)
    | ((with_reducible apply j_ap0); exact rfl; exact rfl; exact rfl; exact rfl; exact rfl; exact rfl; (first | (apply src_sl; exact rfl; exact rfl; exact rfl) | (apply src_sl; exact rfl; exact rfl; rw [List.length_map]; omega) | (apply src_nil; exact rfl) | (apply src_d; exact rfl; (intro row hrow; obtain ⟨q, _, rfl⟩ := List.mem_map.1 hrow; rfl))); exact rfl; (first | decide | (show (_ + 1) * _ ≤ _; rw [List.length_map]; omega) | omega | (simp only [List.length_set, List.length_map, List.length_append]; done) | (simp; omega)); exact rfl)
    | ((with_reducible apply c_c); exact rfl; (first | with_reducible assumption | with_reducible exact Eq.refl true | with_reducible exact Eq.refl false | (with_reducible refine not_t ?_; with_reducible assumption) | (with_reducible refine not_f ?_; with_reducible assumption) | (refine dec_t ?_; decide) | (refine dec_f ?_; decide)))
    | ((with_reducible apply b_o); exact rfl)
    | ((with_reducible apply r_g); exact rfl; (· repeat' (first | exact True.intro | refine And.intro ?_ ?_ | (first | exact rfl | exact (List.length_map _).symm | omega | (simp only [List.length_set, List.length_map, List.length_append] <;> omega) | (simp; done)))))
    | refine Copy_j c hsm rfl (by repeat' (first | exact .nil _ | refine .cons ?_ ?_ | exact .one (.d _ _) | exact .one (.nil _) | exact .one (.tape _) | exact .one (.fn _ _) | exact .agg (.same _ _) | refine .agg ?_ | exact .d _ _ | exact .one (.sl rfl rfl) | exact .sl rfl rfl | refine .one (PsC.ref rfl ?_) | refine PsC.ref rfl ?_ | refine .one (PsC.rp ?_) | refine PsC.rp ?_ | refine .one (PsC.clo ?_) | refine PsC.clo ?_ | exact .same _ _)) rfl rfl ?_
    | refine j_sne xv_eqT rfl rfl rfl (xv_cells x ⟨x.kind, x.rep, x.snap, 0⟩) ?_
    | ((with_reducible apply j_call (pu := false)); exact rfl; exact valid_ic c; (focus ((repeat' (first | exact .nil _ | refine .cons ?_ ?_ | exact .one (.d _ _) | exact .one (.nil _) | exact .one (.tape _) | exact .one (.fn _ _) | exact .agg (.same _ _) | refine .agg ?_ | exact .d _ _ | exact .one (.sl rfl rfl) | exact .sl rfl rfl | exact .same _ _)) <;> fail)); exact .inr rfl)
    | ((with_reducible apply j_call (pu := false)); exact rfl; apply (in_ic _ _ _); rotate_left 3; (focus ((repeat' (first | exact .nil _ | refine .cons ?_ ?_ | exact .one (.d _ _) | exact .one (.nil _) | exact .one (.tape _) | exact .one (.fn _ _) | exact .agg (.same _ _) | refine .agg ?_ | exact .d _ _ | exact .one (.sl rfl rfl) | exact .sl rfl rfl | exact .same _ _)) <;> fail)); exact .inr rfl)
    | (with_reducible rfl)
    | ((with_reducible apply j_gs); exact rfl; exact rfl; all_goals intro hg)
    | ((with_reducible apply c_if); exact rfl; all_goals intro hc))
          (refine n_start (by kernel_rfl) ?_; (refine n_quiet (some [6]) #[true, true, true, true, true, true, true, true] [0, 1, 2, 3, 4, 5, 6, 7] 0 rfl ?_; (repeat' (first | ((with_reducible apply (d_e (some []))); exact rfl; exact rfl; kernel_rfl; exact (by decide +kernel); exact rfl; exact rfl; (first | ((with_reducible apply e_v); exact rfl) | ((with_reducible apply e_ld_el1); exact rfl; exact rfl; exact rfl; (first | with_reducible assumption | exact map_get (by omega) | exact set_get (by simp; omega) | exact rfl); exact rfl) | ((with_reducible apply e_ld_eln); exact rfl; exact rfl; exact rfl; (first | with_reducible assumption | exact map_get (by omega) | exact set_get (by simp; omega) | exact rfl); exact Nat.le_of_ble_eq_true rfl) | ((with_reducible apply e_ia); exact rfl; exact rfl; exact rfl; omega; (first | with_reducible exact Int.toNat_natCast _ | exact rfl); (first | with_reducible assumption | exact map_get (by omega) | exact set_get (by simp; omega) | exact rfl); exact rfl; exact rfl) | ((with_reducible apply e_ia_sl); exact rfl; exact rfl; exact rfl; omega; omega; (first | with_reducible exact Int.toNat_natCast _ | exact rfl)) | ((with_reducible apply e_ia_ar); exact rfl; exact rfl; exact rfl; omega; omega; (first | with_reducible exact Int.toNat_natCast _ | exact rfl)))) | ((with_reducible apply (d_e (some [6]))); exact rfl; exact rfl; kernel_rfl; kernel_rfl; exact rfl; exact rfl; (first | ((with_reducible apply e_v); exact rfl) | ((with_reducible apply e_ld_el1); exact rfl; exact rfl; exact rfl; (first | with_reducible assumption | exact map_get (by omega) | exact set_get (by simp; omega) | exact rfl); exact rfl) | ((with_reducible apply e_ld_eln); exact rfl; exact rfl; exact rfl; (first | with_reducible assumption | exact map_get (by omega) | exact set_get (by simp; omega) | exact rfl); exact Nat.le_of_ble_eq_true rfl) | ((with_reducible apply e_ia); exact rfl; exact rfl; exact rfl; omega; (first | with_reducible exact Int.toNat_natCast _ | exact rfl); (first | with_reducible assumption | exact map_get (by omega) | exact set_get (by simp; omega) | exact rfl); exact rfl; exact rfl) | ((with_reducible apply e_ia_sl); exact rfl; exact rfl; exact rfl; omega; omega; (first | with_reducible exact Int.toNat_natCast _ | exact rfl)) | ((with_reducible apply e_ia_ar); exact rfl; exact rfl; exact rfl; omega; omega; (first | with_reducible exact Int.toNat_natCast _ | exact rfl)))) | ((with_reducible apply d_st); exact rfl; exact (by decide +kernel); exact rfl; exact rfl; exact rfl; exact rfl; exact rfl; exact rfl; exact rfl) | ((with_reducible apply d_ste); exact rfl; exact (by decide +kernel); exact rfl; exact rfl; exact rfl; exact rfl; exact rfl; exact rfl; exact rfl; (first | with_reducible assumption | exact map_get (by omega) | exact set_get (by simp; omega) | exact rfl); exact Nat.le_of_ble_eq_true rfl) | ((with_reducible apply d_leaf); exact (by decide +kernel)))); all_goals ((with_reducible apply n_doneZ); exact rfl; exact (by decide +kernel))))
          repeat' (first
    | ((with_reducible apply c_l1); exact rfl; exact rfl)
    | ((with_reducible apply c_l2); exact rfl; exact rfl)
    | ((with_reducible apply c_l3); exact rfl)
    | (with_reducible (first | apply c_seq | apply c_rg | apply j_nil | apply q_n | apply g_tt | apply g_ff | apply c_ct | apply c_cf | apply c_bl | apply c_ex | apply c_ret | apply c_sk | apply q_r | apply q_e | apply b_r | apply b_e | apply b_n | apply n_n | apply n_r | apply n_e))
    | ((with_reducible apply j_v); exact rfl; exact rfl)
    | ((with_reducible apply j_h); exact rfl; exact rfl)
    | ((with_reducible apply j_s); exact rfl)
    | ((with_reducible apply j_g); exact rfl; exact rfl; (first | with_reducible assumption | with_reducible exact Eq.refl true | with_reducible exact Eq.refl false | (with_reducible refine not_t ?_; with_reducible assumption) | (with_reducible refine not_f ?_; with_reducible assumption) | (refine dec_t ?_; decide) | (refine dec_f ?_; decide)))
    | ((with_reducible apply g_tf); exact rfl)
    | ((with_reducible apply g_ft); exact rfl)
    | ((with_reducible apply j_gz); exact rfl; exact rfl; exact rfl)
    | ((with_reducible apply j_lenm); exact rfl; exact rfl; exact rfl)
    | ((with_reducible apply j_lens); exact rfl; exact rfl; exact rfl)
    | ((with_reducible apply j_len); exact rfl; exact rfl; exact rfl)
    | ((with_reducible apply j_len0); exact rfl; exact rfl; exact rfl)
    | ((with_reducible apply j_pk); exact rfl; exact rfl; (first | with_reducible assumption | with_reducible exact Eq.refl true | with_reducible exact Eq.refl false | (with_reducible refine not_t ?_; with_reducible assumption) | (with_reducible refine not_f ?_; with_reducible assumption) | (refine dec_t ?_; decide) | (refine dec_f ?_; decide)); exact rfl)
    | ((with_reducible apply j_ld_el1); exact rfl; exact rfl; exact rfl; exact rfl; (first | with_reducible assumption | exact map_get (by omega) | exact set_get (by simp; omega) | exact rfl); exact rfl)
    | ((with_reducible apply j_sub); exact rfl; exact rfl; exact rfl; exact Go.IntWalk.i64_in _ (by omega))
    | ((with_reducible apply j_ia); exact rfl; exact rfl; exact rfl; exact rfl; omega; (first | with_reducible exact Int.toNat_natCast _ | exact rfl); (first | with_reducible assumption | exact map_get (by omega) | exact set_get (by simp; omega) | exact rfl); exact rfl; exact rfl)
    | ((with_reducible apply j_ia_sl); exact rfl; exact rfl; exact rfl; exact rfl; omega; omega; (first | with_reducible exact Int.toNat_natCast _ | exact rfl))
    | ((with_reducible apply j_ia_ar); exact rfl; exact rfl; exact rfl; exact rfl; omega; omega; (first | with_reducible exact Int.toNat_natCast _ | exact rfl))
    | ((with_reducible apply j_ste); exact rfl; exact rfl; exact rfl; exact rfl; exact rfl; exact rfl; (first | with_reducible assumption | exact map_get (by omega) | exact set_get (by simp; omega) | exact rfl); exact Nat.le_of_ble_eq_true rfl; exact rfl)
    | ((with_reducible apply j_ap); exact rfl; exact rfl; exact rfl; exact rfl; exact rfl; exact rfl; exact rfl; exact rfl; exact rfl; (first | exact rfl | exact (List.length_map _).symm | omega | (simp only [List.length_set, List.length_map, List.length_append] <;> omega) | (simp; done)); (first | (apply src_sl; exact rfl; exact rfl; exact rfl) | (apply src_sl; exact rfl; exact rfl; rw [List.length_map]; omega) | (apply src_nil; exact rfl) | (apply src_d; exact rfl; (intro row hrow; obtain ⟨q, _, rfl⟩ := List.mem_map.1 hrow; rfl))); exact rfl; (first | decide | (show (_ + 1) * _ ≤ _; rw [List.length_map]; omega) | omega | (simp only [List.length_set, List.length_map, List.length_append]; done) | (simp; omega)); exact rfl)
    | ((with_reducible apply j_ap0); exact rfl; exact rfl; exact rfl; exact rfl; exact rfl; exact rfl; (first | (apply src_sl; exact rfl; exact rfl; exact rfl) | (apply src_sl; exact rfl; exact rfl; rw [List.length_map]; omega) | (apply src_nil; exact rfl) | (apply src_d; exact rfl; (intro row hrow; obtain ⟨q, _, rfl⟩ := List.mem_map.1 hrow; rfl))); exact rfl; (first | decide | (show (_ + 1) * _ ≤ _; rw [List.length_map]; omega) | omega | (simp only [List.length_set, List.length_map, List.length_append]; done) | (simp; omega)); exact rfl)
    | ((with_reducible apply c_c); exact rfl; (first | with_reducible assumption | with_reducible exact Eq.refl true | with_reducible exact Eq.refl false | (with_reducible refine not_t ?_; with_reducible assumption) | (with_reducible refine not_f ?_; with_reducible assumption) | (refine dec_t ?_; decide) | (refine dec_f ?_; decide)))
    | ((with_reducible apply b_o); exact rfl)
    | ((with_reducible apply r_g); exact rfl; (· repeat' (first | exact True.intro | refine And.intro ?_ ?_ | (first | exact rfl | exact (List.length_map _).symm | omega | (simp only [List.length_set, List.length_map, List.length_append] <;> omega) | (simp; done)))))
    | refine Copy_j c hsm rfl (by repeat' (first | exact .nil _ | refine .cons ?_ ?_ | exact .one (.d _ _) | exact .one (.nil _) | exact .one (.tape _) | exact .one (.fn _ _) | exact .agg (.same _ _) | refine .agg ?_ | exact .d _ _ | exact .one (.sl rfl rfl) | exact .sl rfl rfl | refine .one (PsC.ref rfl ?_) | refine PsC.ref rfl ?_ | refine .one (PsC.rp ?_) | refine PsC.rp ?_ | refine .one (PsC.clo ?_) | refine PsC.clo ?_ | exact .same _ _)) rfl rfl ?_
    | refine j_sne xv_eqT rfl rfl rfl (xv_cells x ⟨x.kind, x.rep, x.snap, 0⟩) ?_
    | ((with_reducible apply j_call (pu := false)); exact rfl; exact valid_ic c; (focus ((repeat' (first | exact .nil _ | refine .cons ?_ ?_ | exact .one (.d _ _) | exact .one (.nil _) | exact .one (.tape _) | exact .one (.fn _ _) | exact .agg (.same _ _) | refine .agg ?_ | exact .d _ _ | exact .one (.sl rfl rfl) | exact .sl rfl rfl | exact .same _ _)) <;> fail)); exact .inr rfl)
    | ((with_reducible apply j_call (pu := false)); exact rfl; apply (in_ic _ _ _); rotate_left 3; (focus ((repeat' (first | exact .nil _ | refine .cons ?_ ?_ | exact .one (.d _ _) | exact .one (.nil _) | exact .one (.tape _) | exact .one (.fn _ _) | exact .agg (.same _ _) | refine .agg ?_ | exact .d _ _ | exact .one (.sl rfl rfl) | exact .sl rfl rfl | exact .same _ _)) <;> fail)); exact .inr rfl)
    | (with_reducible rfl)
    | ((with_reducible apply j_gs); exact rfl; exact rfl; all_goals intro hg)
    | ((with_reducible apply c_if); exact rfl; all_goals intro hc))
          refine fin_err ((E4 hv h4).trans (if_neg fun q => ?_)) (by decide)
          rw [q.2.1] at hin; cases hin
      · have hq := xvEq_d hx
        repeat' (first
    | ((with_reducible apply c_l1); exact rfl; exact rfl)
    | ((with_reducible apply c_l2); exact rfl; exact rfl)
    | ((with_reducible apply c_l3); exact rfl)
    | (with_reducible (first | apply c_seq | apply c_rg | apply j_nil | apply q_n | apply g_tt | apply g_ff | apply c_ct | apply c_cf | apply c_bl | apply c_ex | apply c_ret | apply c_sk | apply q_r | apply q_e | apply b_r | apply b_e | apply b_n | apply n_n | apply n_r | apply n_e))
    | ((with_reducible apply j_v); exact rfl; exact rfl)
    | ((with_reducible apply j_h); exact rfl; exact rfl)
    | ((with_reducible apply j_s); exact rfl)
    | ((with_reducible apply j_g); exact rfl; exact rfl; (first | with_reducible assumption | with_reducible exact Eq.refl true | with_reducible exact Eq.refl false | (with_reducible refine not_t ?_; with_reducible assumption) | (with_reducible refine not_f ?_; with_reducible assumption) | (refine dec_t ?_; decide) | (refine dec_f ?_; decide)))
    | ((with_reducible apply g_tf); exact rfl)
    | ((with_reducible apply g_ft); exact rfl)
    | ((with_reducible apply j_gz); exact rfl; exact rfl; exact rfl)
    | ((with_reducible apply j_lenm); exact rfl; exact rfl; exact rfl)
    | ((with_reducible apply j_lens); exact rfl; exact rfl; exact rfl)
    | ((with_reducible apply j_len); exact rfl; exact rfl; exact rfl)
    | ((with_reducible apply j_len0); exact rfl; exact rfl; exact rfl)
    | ((with_reducible apply j_pk); exact rfl; exact rfl; (first | with_reducible assumption | with_reducible exact Eq.refl true | with_reducible exact Eq.refl false | (with_reducible refine not_t ?_; with_reducible assumption) | (with_reducible refine not_f ?_; with_reducible assumption) | (refine dec_t ?_; decide) | (refine dec_f ?_; decide)); exact rfl)
    | ((with_reducible apply j_ld_el1); exact rfl; exact rfl; exact rfl; exact rfl; (first | with_reducible assumption | exact map_get (by omega) | exact set_get (by simp; omega) | exact rfl); exact rfl)
    | ((with_reducible apply j_sub); exact rfl; exact rfl; exact rfl; exact Go.IntWalk.i64_in _ (by omega))
    | ((with_reducible apply j_ia); exact rfl; exact rfl; exact rfl; exact rfl; omega; (first | with_reducible exact Int.toNat_natCast _ | exact rfl); (first | with_reducible assumption | exact map_get (by omega) | exact set_get (by simp; omega) | exact rfl); exact rfl; exact rfl)
    | ((with_reducible apply j_ia_sl); exact rfl; exact rfl; exact rfl; exact rfl; omega; omega; (first | with_reducible exact Int.toNat_natCast _ | exact rfl))
    | ((with_reducible apply j_ia_ar); exact rfl; exact rfl; exact rfl; exact rfl; omega; omega; (first | with_reducible exact Int.toNat_natCast _ | exact rfl))
    | ((with_reducible apply j_ste); exact rfl; exact rfl; exact rfl; exact rfl; exact rfl; exact rfl; (first | with_reducible assumption | exact map_get (by omega) | exact set_get (by simp; omega) | exact rfl); exact Nat.le_of_ble_eq_true rfl; exact rfl)
    | ((with_reducible apply j_ap); exact rfl; exact rfl; exact rfl; exact rfl; exact rfl; exact rfl; exact rfl; exact rfl; exact rfl; (first | exact rfl | exact (List.length_map _).symm | omega | (simp only [List.length_set, List.length_map, List.length_append] <;> omega) | (simp; done)); (first | (apply src_sl; exact rfl; exact rfl; exact rfl) | (apply src_sl; exact rfl; exact rfl; rw [List.length_map]; omega) | (apply src_nil; exact rfl) | (apply src_d; exact rfl; (intro row hrow; obtain ⟨q, _, rfl⟩ := List.mem_map.1 hrow; rfl))); exact rfl; (first | decide | (show (_ + 1) * _ ≤ _; rw [List.length_map]; omega) | omega | (simp only [List.length_set, List.length_map, List.length_append]; done) | (simp; omega)); exact rfl)
    | ((with_reducible apply j_ap0); exact rfl; exact rfl; exact rfl; exact rfl; exact rfl; exact rfl; (first | (apply src_sl; exact rfl; exact rfl; exact rfl) | (apply src_sl; exact rfl; exact rfl; rw [List.length_map]; omega) | (apply src_nil; exact rfl) | (apply src_d; exact rfl; (intro row hrow; obtain ⟨q, _, rfl⟩ := List.mem_map.1 hrow; rfl))); exact rfl; (first | decide | (show (_ + 1) * _ ≤ _; rw [List.length_map]; omega) | omega | (simp only [List.length_set, List.length_map, List.length_append]; done) | (simp; omega)); exact rfl)
    | ((with_reducible apply c_c); exact rfl; (first | with_reducible assumption | with_reducible exact Eq.refl true | with_reducible exact Eq.refl false | (with_reducible refine not_t ?_; with_reducible assumption) | (with_reducible refine not_f ?_; with_reducible assumption) | (refine dec_t ?_; decide) | (refine dec_f ?_; decide)))
    | ((with_reducible apply b_o); exact rfl)
    | ((with_reducible apply r_g); exact rfl; (· repeat' (first | exact True.intro | refine And.intro ?_ ?_ | (first | exact rfl | exact (List.length_map _).symm | omega | (simp only [List.length_set, List.length_map, List.length_append] <;> omega) | (simp; done)))))
    | refine Copy_j c hsm rfl (by repeat' (first | exact .nil _ | refine .cons ?_ ?_ | exact .one (.d _ _) | exact .one (.nil _) | exact .one (.tape _) | exact .one (.fn _ _) | exact .agg (.same _ _) | refine .agg ?_ | exact .d _ _ | exact .one (.sl rfl rfl) | exact .sl rfl rfl | refine .one (PsC.ref rfl ?_) | refine PsC.ref rfl ?_ | refine .one (PsC.rp ?_) | refine PsC.rp ?_ | refine .one (PsC.clo ?_) | refine PsC.clo ?_ | exact .same _ _)) rfl rfl ?_
    | refine j_sne xv_eqT rfl rfl rfl (xv_cells x ⟨x.kind, x.rep, x.snap, 0⟩) ?_
    | ((with_reducible apply j_call (pu := false)); exact rfl; exact valid_ic c; (focus ((repeat' (first | exact .nil _ | refine .cons ?_ ?_ | exact .one (.d _ _) | exact .one (.nil _) | exact .one (.tape _) | exact .one (.fn _ _) | exact .agg (.same _ _) | refine .agg ?_ | exact .d _ _ | exact .one (.sl rfl rfl) | exact .sl rfl rfl | exact .same _ _)) <;> fail)); exact .inr rfl)
    | ((with_reducible apply j_call (pu := false)); exact rfl; apply (in_ic _ _ _); rotate_left 3; (focus ((repeat' (first | exact .nil _ | refine .cons ?_ ?_ | exact .one (.d _ _) | exact .one (.nil _) | exact .one (.tape _) | exact .one (.fn _ _) | exact .agg (.same _ _) | refine .agg ?_ | exact .d _ _ | exact .one (.sl rfl rfl) | exact .sl rfl rfl | exact .same _ _)) <;> fail)); exact .inr rfl)
    | (with_reducible rfl)
    | ((with_reducible apply j_gs); exact rfl; exact rfl; all_goals intro hg)
    | ((with_reducible apply c_if); exact rfl; all_goals intro hc))
        (refine n_start (by kernel_rfl) ?_; (refine n_quiet (some [6]) #[true, true, true, true, true, true, true, true] [0, 1, 2, 3, 4, 5, 6, 7] 0 rfl ?_; (repeat' (first | ((with_reducible apply (d_e (some []))); exact rfl; exact rfl; kernel_rfl; exact (by decide +kernel); exact rfl; exact rfl; (first | ((with_reducible apply e_v); exact rfl) | ((with_reducible apply e_ld_el1); exact rfl; exact rfl; exact rfl; (first | with_reducible assumption | exact map_get (by omega) | exact set_get (by simp; omega) | exact rfl); exact rfl) | ((with_reducible apply e_ld_eln); exact rfl; exact rfl; exact rfl; (first | with_reducible assumption | exact map_get (by omega) | exact set_get (by simp; omega) | exact rfl); exact Nat.le_of_ble_eq_true rfl) | ((with_reducible apply e_ia); exact rfl; exact rfl; exact rfl; omega; (first | with_reducible exact Int.toNat_natCast _ | exact rfl); (first | with_reducible assumption | exact map_get (by omega) | exact set_get (by simp; omega) | exact rfl); exact rfl; exact rfl) | ((with_reducible apply e_ia_sl); exact rfl; exact rfl; exact rfl; omega; omega; (first | with_reducible exact Int.toNat_natCast _ | exact rfl)) | ((with_reducible apply e_ia_ar); exact rfl; exact rfl; exact rfl; omega; omega; (first | with_reducible exact Int.toNat_natCast _ | exact rfl)))) | ((with_reducible apply (d_e (some [6]))); exact rfl; exact rfl; kernel_rfl; kernel_rfl; exact rfl; exact rfl; (first | ((with_reducible apply e_v); exact rfl) | ((with_reducible apply e_ld_el1); exact rfl; exact rfl; exact rfl; (first | with_reducible assumption | exact map_get (by omega) | exact set_get (by simp; omega) | exact rfl); exact rfl) | ((with_reducible apply e_ld_eln); exact rfl; exact rfl; exact rfl; (first | with_reducible assumption | exact map_get (by omega) | exact set_get (by simp; omega) | exact rfl); exact Nat.le_of_ble_eq_true rfl) | ((with_reducible apply e_ia); exact rfl; exact rfl; exact rfl; omega; (first | with_reducible exact Int.toNat_natCast _ | exact rfl); (first | with_reducible assumption | exact map_get (by omega) | exact set_get (by simp; omega) | exact rfl); exact rfl; exact rfl) | ((with_reducible apply e_ia_sl); exact rfl; exact rfl; exact rfl; omega; omega; (first | with_reducible exact Int.toNat_natCast _ | exact rfl)) | ((with_reducible apply e_ia_ar); exact rfl; exact rfl; exact rfl; omega; omega; (first | with_reducible exact Int.toNat_natCast _ | exact rfl)))) | ((with_reducible apply d_st); exact rfl; exact (by decide +kernel); exact rfl; exact rfl; exact rfl; exact rfl; exact rfl; exact rfl; exact rfl) | ((with_reducible apply d_ste); exact rfl; exact (by decide +kernel); exact rfl; exact rfl; exact rfl; exact rfl; exact rfl; exact rfl; exact rfl; (first | with_reducible assumption | exact map_get (by omega) | exact set_get (by simp; omega) | exact rfl); exact Nat.le_of_ble_eq_true rfl) | ((with_reducible apply d_leaf); exact (by decide +kernel)))); all_goals ((with_reducible apply n_doneZ); exact rfl; exact (by decide +kernel))))
        repeat' (first
    | ((with_reducible apply c_l1); exact rfl; exact rfl)
    | ((with_reducible apply c_l2); exact rfl; exact rfl)
    | ((with_reducible apply c_l3); exact rfl)
    | (with_reducible (first | apply c_seq | apply c_rg | apply j_nil | apply q_n | apply g_tt | apply g_ff | apply c_ct | apply c_cf | apply c_bl | apply c_ex | apply c_ret | apply c_sk | apply q_r | apply q_e | apply b_r | apply b_e | apply b_n | apply n_n | apply n_r | apply n_e))
    | ((with_reducible apply j_v); exact rfl; exact rfl)
    | ((with_reducible apply j_h); exact rfl; exact rfl)
    | ((with_reducible apply j_s); exact rfl)
    | ((with_reducible apply j_g); exact rfl; exact rfl; (first | with_reducible assumption | with_reducible exact Eq.refl true | with_reducible exact Eq.refl false | (with_reducible refine not_t ?_; with_reducible assumption) | (with_reducible refine not_f ?_; with_reducible assumption) | (refine dec_t ?_; decide) | (refine dec_f ?_; decide)))
    | ((with_reducible apply g_tf); exact rfl)
    | ((with_reducible apply g_ft); exact rfl)
    | ((with_reducible apply j_gz); exact rfl; exact rfl; exact rfl)
    | ((with_reducible apply j_lenm); exact rfl; exact rfl; exact rfl)
    | ((with_reducible apply j_lens); exact rfl; exact rfl; exact rfl)
    | ((with_reducible apply j_len); exact rfl; exact rfl; exact rfl)
    | ((with_reducible apply j_len0); exact rfl; exact rfl; exact rfl)
    | ((with_reducible apply j_pk); exact rfl; exact rfl; (first | with_reducible assumption | with_reducible exact Eq.refl true | with_reducible exact Eq.refl false | (with_reducible refine not_t ?_; with_reducible assumption) | (with_reducible refine not_f ?_; with_reducible assumption) | (refine dec_t ?_; decide) | (refine dec_f ?_; decide)); exact rfl)
    | ((with_reducible apply j_ld_el1); exact rfl; exact rfl; exact rfl; exact rfl; (first | with_reducible assumption | exact map_get (by omega) | exact set_get (by simp; omega) | exact rfl); exact rfl)
    | ((with_reducible apply j_sub); exact rfl; exact rfl; exact rfl; exact Go.IntWalk.i64_in _ (by omega))
    | ((with_reducible apply j_ia); exact rfl; exact rfl; exact rfl; exact rfl; omega; (first | with_reducible exact Int.toNat_natCast _ | exact rfl); (first | with_reducible assumption | exact map_get (by omega) | exact set_get (by simp; omega) | exact rfl); exact rfl; exact rfl)
    | ((with_reducible apply j_ia_sl); exact rfl; exact rfl; exact rfl; exact rfl; omega; omega; (first | with_reducible exact Int.toNat_natCast _ | exact rfl))
    | ((with_reducible apply j_ia_ar); exact rfl; exact rfl; exact rfl; exact rfl; omega; omega; (first | with_reducible exact Int.toNat_natCast _ | exact rfl))
    | ((with_reducible apply j_ste); exact rfl; exact rfl; exact rfl; exact rfl; exact rfl; exact rfl; (first | with_reducible assumption | exact map_get (by omega) | exact set_get (by simp; omega) | exact rfl); exact Nat.le_of_ble_eq_true rfl; exact rfl)
    | ((with_reducible apply j_ap); exact rfl; exact rfl; exact rfl; exact rfl; exact rfl; exact rfl; exact rfl; exact rfl; exact rfl; (first | exact rfl | exact (List.length_map _).symm | omega | (simp only [List.length_set, List.length_map, List.length_append] <;> omega) | (simp; done)); (first | (apply src_sl; exact rfl; exact rfl; exact rfl) | (apply src_sl; exact rfl; exact rfl; rw [List.length_map]; omega) | (apply src_nil; exact rfl) | (apply src_d; exact rfl; (intro row hrow; obtain ⟨q, _, rfl⟩ := List.mem_map.1 hrow; rfl))); exact rfl; (first | decide | (show (_ + 1) * _ ≤ _; rw [List.length_map]; omega) | omega | (simp only [List.length_set, List.length_map, List.length_append]; done) | (simp; omega)); exact rfl)
    | ((with_reducible apply j_ap0); exact rfl; exact rfl; exact rfl; exact rfl; exact rfl; exact rfl; (first | (apply src_sl; exact rfl; exact rfl; exact rfl) | (apply src_sl; exact rfl; exact rfl; rw [List.length_map]; omega) | (apply src_nil; exact rfl) | (apply src_d; exact rfl; (intro row hrow; obtain ⟨q, _, rfl⟩ := List.mem_map.1 hrow; rfl))); exact rfl; (first | decide | (show (_ + 1) * _ ≤ _; rw [List.length_map]; omega) | omega | (simp only [List.length_set, List.length_map, List.length_append]; done) | (simp; omega)); exact rfl)
    | ((with_reducible apply c_c); exact rfl; (first | with_reducible assumption | with_reducible exact Eq.refl true | with_reducible exact Eq.refl false | (with_reducible refine not_t ?_; with_reducible assumption) | (with_reducible refine not_f ?_; with_reducible assumption) | (refine dec_t ?_; decide) | (refine dec_f ?_; decide)))
    | ((with_reducible apply b_o); exact rfl)
    | ((with_reducible apply r_g); exact rfl; (· repeat' (first | exact True.intro | refine And.intro ?_ ?_ | (first | exact rfl | exact (List.length_map _).symm | omega | (simp only [List.length_set, List.length_map, List.length_append] <;> omega) | (simp; done)))))
    | refine Copy_j c hsm rfl (by repeat' (first | exact .nil _ | refine .cons ?_ ?_ | exact .one (.d _ _) | exact .one (.nil _) | exact .one (.tape _) | exact .one (.fn _ _) | exact .agg (.same _ _) | refine .agg ?_ | exact .d _ _ | exact .one (.sl rfl rfl) | exact .sl rfl rfl | refine .one (PsC.ref rfl ?_) | refine PsC.ref rfl ?_ | refine .one (PsC.rp ?_) | refine PsC.rp ?_ | refine .one (PsC.clo ?_) | refine PsC.clo ?_ | exact .same _ _)) rfl rfl ?_
    | refine j_sne xv_eqT rfl rfl rfl (xv_cells x ⟨x.kind, x.rep, x.snap, 0⟩) ?_
    | ((with_reducible apply j_call (pu := false)); exact rfl; exact valid_ic c; (focus ((repeat' (first | exact .nil _ | refine .cons ?_ ?_ | exact .one (.d _ _) | exact .one (.nil _) | exact .one (.tape _) | exact .one (.fn _ _) | exact .agg (.same _ _) | refine .agg ?_ | exact .d _ _ | exact .one (.sl rfl rfl) | exact .sl rfl rfl | exact .same _ _)) <;> fail)); exact .inr rfl)
    | ((with_reducible apply j_call (pu := false)); exact rfl; apply (in_ic _ _ _); rotate_left 3; (focus ((repeat' (first | exact .nil _ | refine .cons ?_ ?_ | exact .one (.d _ _) | exact .one (.nil _) | exact .one (.tape _) | exact .one (.fn _ _) | exact .agg (.same _ _) | refine .agg ?_ | exact .d _ _ | exact .one (.sl rfl rfl) | exact .sl rfl rfl | exact .same _ _)) <;> fail)); exact .inr rfl)
    | (with_reducible rfl)
    | ((with_reducible apply j_gs); exact rfl; exact rfl; all_goals intro hg)
    | ((with_reducible apply c_if); exact rfl; all_goals intro hc))
        refine fin_err ((E4 hv h4).trans (if_neg fun q => hx q.1)) (by decide)
    · have e4 : decide (x.kind = 4) = false := by simp [h4]
      have hk : inB x.kind 2 4 = false := by rw [inB_not]; omega
      repeat' (first
    | ((with_reducible apply c_l1); exact rfl; exact rfl)
    | ((with_reducible apply c_l2); exact rfl; exact rfl)
    | ((with_reducible apply c_l3); exact rfl)
    | (with_reducible (first | apply c_seq | apply c_rg | apply j_nil | apply q_n | apply g_tt | apply g_ff | apply c_ct | apply c_cf | apply c_bl | apply c_ex | apply c_ret | apply c_sk | apply q_r | apply q_e | apply b_r | apply b_e | apply b_n | apply n_n | apply n_r | apply n_e))
    | ((with_reducible apply j_v); exact rfl; exact rfl)
    | ((with_reducible apply j_h); exact rfl; exact rfl)
    | ((with_reducible apply j_s); exact rfl)
    | ((with_reducible apply j_g); exact rfl; exact rfl; (first | with_reducible assumption | with_reducible exact Eq.refl true | with_reducible exact Eq.refl false | (with_reducible refine not_t ?_; with_reducible assumption) | (with_reducible refine not_f ?_; with_reducible assumption) | (refine dec_t ?_; decide) | (refine dec_f ?_; decide)))
    | ((with_reducible apply g_tf); exact rfl)
    | ((with_reducible apply g_ft); exact rfl)
    | ((with_reducible apply j_gz); exact rfl; exact rfl; exact rfl)
    | ((with_reducible apply j_lenm); exact rfl; exact rfl; exact rfl)
    | ((with_reducible apply j_lens); exact rfl; exact rfl; exact rfl)
    | ((with_reducible apply j_len); exact rfl; exact rfl; exact rfl)
    | ((with_reducible apply j_len0); exact rfl; exact rfl; exact rfl)
    | ((with_reducible apply j_pk); exact rfl; exact rfl; (first | with_reducible assumption | with_reducible exact Eq.refl true | with_reducible exact Eq.refl false | (with_reducible refine not_t ?_; with_reducible assumption) | (with_reducible refine not_f ?_; with_reducible assumption) | (refine dec_t ?_; decide) | (refine dec_f ?_; decide)); exact rfl)
    | ((with_reducible apply j_ld_el1); exact rfl; exact rfl; exact rfl; exact rfl; (first | with_reducible assumption | exact map_get (by omega) | exact set_get (by simp; omega) | exact rfl); exact rfl)
    | ((with_reducible apply j_sub); exact rfl; exact rfl; exact rfl; exact Go.IntWalk.i64_in _ (by omega))
    | ((with_reducible apply j_ia); exact rfl; exact rfl; exact rfl; exact rfl; omega; (first | with_reducible exact Int.toNat_natCast _ | exact rfl); (first | with_reducible assumption | exact map_get (by omega) | exact set_get (by simp; omega) | exact rfl); exact rfl; exact rfl)
    | ((with_reducible apply j_ia_sl); exact rfl; exact rfl; exact rfl; exact rfl; omega; omega; (first | with_reducible exact Int.toNat_natCast _ | exact rfl))
    | ((with_reducible apply j_ia_ar); exact rfl; exact rfl; exact rfl; exact rfl; omega; omega; (first | with_reducible exact Int.toNat_natCast _ | exact rfl))
    | ((with_reducible apply j_ste); exact rfl; exact rfl; exact rfl; exact rfl; exact rfl; exact rfl; (first | with_reducible assumption | exact map_get (by omega) | exact set_get (by simp; omega) | exact rfl); exact Nat.le_of_ble_eq_true rfl; exact rfl)
    | ((with_reducible apply j_ap); exact rfl; exact rfl; exact rfl; exact rfl; exact rfl; exact rfl; exact rfl; exact rfl; exact rfl; (first | exact rfl | exact (List.length_map _).symm | omega | (simp only [List.length_set, List.length_map, List.length_append] <;> omega) | (simp; done)); (first | (apply src_sl; exact rfl; exact rfl; exact rfl) | (apply src_sl; exact rfl; exact rfl; rw [List.length_map]; omega) | (apply src_nil; exact rfl) | (apply src_d; exact rfl; (intro row hrow; obtain ⟨q, _, rfl⟩ := List.mem_map.1 hrow; rfl))); exact rfl; (first | decide | (show (_ + 1) * _ ≤ _; rw [List.length_map]; omega) | omega | (simp only [List.length_set, List.length_map, List.length_append]; done) | (simp; omega)); exact rfl)
    | ((with_reducible apply j_ap0); exact rfl; exact rfl; exact rfl; exact rfl; exact rfl; exact rfl; (first | (apply src_sl; exact rfl; exact rfl; exact rfl) | (apply src_sl; exact rfl; exact rfl; rw [List.length_map]; omega) | (apply src_nil; exact rfl) | (apply src_d; exact rfl; (intro row hrow; obtain ⟨q, _, rfl⟩ := List.mem_map.1 hrow; rfl))); exact rfl; (first | decide | (show (_ + 1) * _ ≤ _; rw [List.length_map]; omega) | omega | (simp only [List.length_set, List.length_map, List.length_append]; done) | (simp; omega)); exact rfl)
    | ((with_reducible apply c_c); exact rfl; (first | with_reducible assumption | with_reducible exact Eq.refl true | with_reducible exact Eq.refl false | (with_reducible refine not_t ?_; with_reducible assumption) | (with_reducible refine not_f ?_; with_reducible assumption) | (refine dec_t ?_; decide) | (refine dec_f ?_; decide)))
    | ((with_reducible apply b_o); exact rfl)
    | ((with_reducible apply r_g); exact rfl; (· repeat' (first | exact True.intro | refine And.intro ?_ ?_ | (first | exact rfl | exact (List.length_map _).symm | omega | (simp only [List.length_set, List.length_map, List.length_append] <;> omega) | (simp; done)))))
    | refine Copy_j c hsm rfl (by repeat' (first | exact .nil _ | refine .cons ?_ ?_ | exact .one (.d _ _) | exact .one (.nil _) | exact .one (.tape _) | exact .one (.fn _ _) | exact .agg (.same _ _) | refine .agg ?_ | exact .d _ _ | exact .one (.sl rfl rfl) | exact .sl rfl rfl | refine .one (PsC.ref rfl ?_) | refine PsC.ref rfl ?_ | refine .one (PsC.rp ?_) | refine PsC.rp ?_ | refine .one (PsC.clo ?_) | refine PsC.clo ?_ | exact .same _ _)) rfl rfl ?_
    | refine j_sne xv_eqT rfl rfl rfl (xv_cells x ⟨x.kind, 0, 0, 0⟩) ?_
    | ((with_reducible apply j_call (pu := false)); exact rfl; exact valid_ic c; (focus ((repeat' (first | exact .nil _ | refine .cons ?_ ?_ | exact .one (.d _ _) | exact .one (.nil _) | exact .one (.tape _) | exact .one (.fn _ _) | exact .agg (.same _ _) | refine .agg ?_ | exact .d _ _ | exact .one (.sl rfl rfl) | exact .sl rfl rfl | exact .same _ _)) <;> fail)); exact .inr rfl)
    | ((with_reducible apply j_call (pu := false)); exact rfl; apply (in_ic _ _ _); rotate_left 3; (focus ((repeat' (first | exact .nil _ | refine .cons ?_ ?_ | exact .one (.d _ _) | exact .one (.nil _) | exact .one (.tape _) | exact .one (.fn _ _) | exact .agg (.same _ _) | refine .agg ?_ | exact .d _ _ | exact .one (.sl rfl rfl) | exact .sl rfl rfl | exact .same _ _)) <;> fail)); exact .inr rfl)
    | (with_reducible rfl)
    | ((with_reducible apply j_gs); exact rfl; exact rfl; all_goals intro hg)
    | ((with_reducible apply c_if); exact rfl; all_goals intro hc))
      all_goals exact fin_err (E0 h1 h2 h3 h4) (by decide)
  · simp only [Bool.not_eq_true] at hv
    repeat' (first
    | ((with_reducible apply c_l1); exact rfl; exact rfl)
    | ((with_reducible apply c_l2); exact rfl; exact rfl)
    | ((with_reducible apply c_l3); exact rfl)
    | (with_reducible (first | apply c_seq | apply c_rg | apply j_nil | apply q_n | apply g_tt | apply g_ff | apply c_ct | apply c_cf | apply c_bl | apply c_ex | apply c_ret | apply c_sk | apply q_r | apply q_e | apply b_r | apply b_e | apply b_n | apply n_n | apply n_r | apply n_e))
    | ((with_reducible apply j_v); exact rfl; exact rfl)
    | ((with_reducible apply j_h); exact rfl; exact rfl)
    | ((with_reducible apply j_s); exact rfl)
    | ((with_reducible apply j_g); exact rfl; exact rfl; (first | with_reducible assumption | with_reducible exact Eq.refl true | with_reducible exact Eq.refl false | (with_reducible refine not_t ?_; with_reducible assumption) | (with_reducible refine not_f ?_; with_reducible assumption) | (refine dec_t ?_; decide) | (refine dec_f ?_; decide)))
    | ((with_reducible apply g_tf); exact rfl)
    | ((with_reducible apply g_ft); exact rfl)
    | ((with_reducible apply j_gz); exact rfl; exact rfl; exact rfl)
    | ((with_reducible apply j_lenm); exact rfl; exact rfl; exact rfl)
    | ((with_reducible apply j_lens); exact rfl; exact rfl; exact rfl)
    | ((with_reducible apply j_len); exact rfl; exact rfl; exact rfl)
    | ((with_reducible apply j_len0); exact rfl; exact rfl; exact rfl)
    | ((with_reducible apply j_pk); exact rfl; exact rfl; (first | with_reducible assumption | with_reducible exact Eq.refl true | with_reducible exact Eq.refl false | (with_reducible refine not_t ?_; with_reducible assumption) | (with_reducible refine not_f ?_; with_reducible assumption) | (refine dec_t ?_; decide) | (refine dec_f ?_; decide)); exact rfl)
    | ((with_reducible apply j_ld_el1); exact rfl; exact rfl; exact rfl; exact rfl; (first | with_reducible assumption | exact map_get (by omega) | exact set_get (by simp; omega) | exact rfl); exact rfl)
    | ((with_reducible apply j_sub); exact rfl; exact rfl; exact rfl; exact Go.IntWalk.i64_in _ (by omega))
    | ((with_reducible apply j_ia); exact rfl; exact rfl; exact rfl; exact rfl; omega; (first | with_reducible exact Int.toNat_natCast _ | exact rfl); (first | with_reducible assumption | exact map_get (by omega) | exact set_get (by simp; omega) | exact rfl); exact rfl; exact rfl)
    | ((with_reducible apply j_ia_sl); exact rfl; exact rfl; exact rfl; exact rfl; omega; omega; (first | with_reducible exact Int.toNat_natCast _ | exact rfl))
    | ((with_reducible apply j_ia_ar); exact rfl; exact rfl; exact rfl; exact rfl; omega; omega; (first | with_reducible exact Int.toNat_natCast _ | exact rfl))
    | ((with_reducible apply j_ste); exact rfl; exact rfl; exact rfl; exact rfl; exact rfl; exact rfl; (first | with_reducible assumption | exact map_get (by omega) | exact set_get (by simp; omega) | exact rfl); exact Nat.le_of_ble_eq_true rfl; exact rfl)
    | ((with_reducible apply j_ap); exact rfl; exact rfl; exact rfl; exact rfl; exact rfl; exact rfl; exact rfl; exact rfl; exact rfl; (first | exact rfl | exact (List.length_map _).symm | omega | (simp only [List.length_set, List.length_map, List.length_append] <;> omega) | (simp; done)); (first | (apply src_sl; exact rfl; exact rfl; exact rfl) | (apply src_sl; exact rfl; exact rfl; rw [List.length_map]; omega) | (apply src_nil; exact rfl) | (apply src_d; exact rfl; (intro row hrow; obtain ⟨q, _, rfl⟩ := List.mem_map.1 hrow; rfl))); exact rfl; (first | decide | (show (_ + 1) * _ ≤ _; rw [List.length_map]; omega) | omega | (simp only [List.length_set, List.length_map, List.length_append]; done) | (simp; omega)); exact rfl)
    | ((with_reducible apply j_ap0); exact rfl; exact rfl; exact rfl; exact rfl; exact rfl; exact rfl; (first | (apply src_sl; exact rfl; exact rfl; exact rfl) | (apply src_sl; exact rfl; exact rfl; rw [List.length_map]; omega) | (apply src_nil; exact rfl) | (apply src_d; exact rfl; (intro row hrow; obtain ⟨q, _, rfl⟩ := List.mem_map.1 hrow; rfl))); exact rfl; (first | decide | (show (_ + 1) * _ ≤ _; rw [List.length_map]; omega) | omega | (simp only [List.length_set, List.length_map, List.length_append]; done) | (simp; omega)); exact rfl)
    | ((with_reducible apply c_c); exact rfl; (first | with_reducible assumption | with_reducible exact Eq.refl true | with_reducible exact Eq.refl false | (with_reducible refine not_t ?_; with_reducible assumption) | (with_reducible refine not_f ?_; with_reducible assumption) | (refine dec_t ?_; decide) | (refine dec_f ?_; decide)))
    | ((with_reducible apply b_o); exact rfl)
    | ((with_reducible apply r_g); exact rfl; (· repeat' (first | exact True.intro | refine And.intro ?_ ?_ | (first | exact rfl | exact (List.length_map _).symm | omega | (simp only [List.length_set, List.length_map, List.length_append] <;> omega) | (simp; done)))))
    | ((with_reducible apply j_call (pu := false)); exact rfl; exact valid_ic c; (focus ((repeat' (first | exact .nil _ | refine .cons ?_ ?_ | exact .one (.d _ _) | exact .one (.nil _) | exact .one (.tape _) | exact .one (.fn _ _) | exact .agg (.same _ _) | refine .agg ?_ | exact .d _ _ | exact .one (.sl rfl rfl) | exact .sl rfl rfl | exact .same _ _)) <;> fail)); exact .inr rfl)
    | (with_reducible rfl)
    | ((with_reducible apply j_gs); exact rfl; exact rfl; all_goals intro hg)
    | ((with_reducible apply c_if); exact rfl; all_goals intro hc))
    simp only [applyC, applyE, hv, Bool.false_eq_true, if_false]; rfl
end Go.Proofs.Ytpneplgaeiomkaa
