/- Copies that are owned; Apply. -/
import Derived.Test.YtpneplgaeiomkaaWh
import Derived.Test.YtpneplgaeiomkaaIvr
set_option linter.all false
set_option maxRecDepth 20000
set_option maxHeartbeats 2000000
namespace Go.Proofs.Ytpneplgaeiomkaa
open Go.RowKit Go.Shelf
abbrev ICot (f : Nat) (args : List SV) (v : SV) (H : List (Nat × VH)) : Prop := ICo Try.prog 30 f args (fun x y => x = v ∧ y = H)
structure Cl.Small (c : Cl) : Prop where
  s : c.sets.length ≤ 100000
  r : c.reps.length ≤ 100000
  n : c.snaps.length ≤ 100000
theorem valid_small {c : Cl} (h : validB c = true) : c.Small := by have := valid_len h; exact ⟨by omega, by omega, by omega⟩
theorem Copy_ico (c : Cl) (hs : c.Small) : ICot 49 [c.v] (.agg [.d (.bool c.fence), .sl 7 c.sets.length 1, .sl 10 c.reps.length 2, .sl 13 c.snaps.length 1])
    [(7, .arr 3 1 (c.sets.map irow)), (10, .arr 59 2 (c.reps.map RepR.row)), (13, .arr 3 1 (c.snaps.map irow))] := by
  refine ico_wk (K 15) Try.func49 rfl rfl rfl rfl (fun w0 => ?_)
  obtain ⟨h1, h2, h3⟩ := hs
  repeat' (first
    | ((with_reducible apply c_l1); exact rfl; exact rfl)
    | ((with_reducible apply c_l2); exact rfl; exact rfl)
    | ((with_reducible apply c_l3); exact rfl)
    | (with_reducible (first | apply c_seq | apply c_rg | apply j_nil | apply q_n | apply c_bl | apply c_ex | apply c_ret | apply c_sk | apply q_r | apply q_e | apply b_r | apply b_e | apply b_n | apply n_n | apply n_r | apply n_e))
    | ((with_reducible apply j_v); exact rfl; exact rfl)
    | ((with_reducible apply j_h); exact rfl; exact rfl)
    | ((with_reducible apply j_s); exact rfl)
    | ((with_reducible apply j_ap); exact rfl; exact rfl; exact rfl; exact rfl; exact rfl; exact rfl; exact rfl; exact rfl; exact rfl; (first | exact rfl | exact (List.length_map _).symm | omega | (simp only [List.length_set, List.length_map, List.length_append] <;> omega) | (simp; done)); (first | (apply src_sl; exact rfl; exact rfl; exact rfl) | (apply src_sl; exact rfl; exact rfl; rw [List.length_map]; omega) | (apply src_nil; exact rfl) | (apply src_d; exact rfl; (intro row hrow; obtain ⟨q, _, rfl⟩ := List.mem_map.1 hrow; rfl))); exact rfl; (first | decide | (show (_ + 1) * _ ≤ _; rw [List.length_map]; omega) | omega | (simp only [List.length_set, List.length_map, List.length_append]; done) | (simp; omega)); exact rfl)
    | ((with_reducible apply j_ap0); exact rfl; exact rfl; exact rfl; exact rfl; exact rfl; exact rfl; (first | (apply src_sl; exact rfl; exact rfl; exact rfl) | (apply src_sl; exact rfl; exact rfl; rw [List.length_map]; omega) | (apply src_nil; exact rfl) | (apply src_d; exact rfl; (intro row hrow; obtain ⟨q, _, rfl⟩ := List.mem_map.1 hrow; rfl))); exact rfl; (first | decide | (show (_ + 1) * _ ≤ _; rw [List.length_map]; omega) | omega | (simp only [List.length_set, List.length_map, List.length_append]; done) | (simp; omega)); exact rfl)
    | ((with_reducible apply b_o); exact rfl)
    | ((with_reducible apply r_g); exact rfl; (· repeat' (first | exact True.intro | refine And.intro ?_ ?_ | (first | exact rfl | exact (List.length_map _).symm | omega | (simp only [List.length_set, List.length_map, List.length_append] <;> omega) | (simp; done)))))
    | (with_reducible rfl)
    | ((with_reducible apply j_gs); exact rfl; exact rfl; all_goals intro hg)
    | ((with_reducible apply c_if); exact rfl; all_goals intro hc))
  (refine n_start (by kernel_rfl) ?_; (refine n_quiet none #[true, true, true, true, true, true, true, true, true, true, true, true, true] [0, 1, 2, 3, 5, 6, 8, 9, 4, 7, 10, 11, 12] 0 rfl ?_; (repeat' (first | ((with_reducible apply (d_e (some []))); exact rfl; exact rfl; kernel_rfl; exact (by decide +kernel); exact rfl; exact rfl; (first | ((with_reducible apply e_v); exact rfl))) | ((with_reducible apply (d_e none)); exact rfl; exact rfl; kernel_rfl; kernel_rfl; exact rfl; exact rfl; (first | ((with_reducible apply e_v); exact rfl))) | ((with_reducible apply d_st); exact rfl; exact (by decide +kernel); exact rfl; exact rfl; exact rfl; exact rfl; exact rfl; exact rfl; exact rfl) | ((with_reducible apply d_ste); exact rfl; exact (by decide +kernel); exact rfl; exact rfl; exact rfl; exact rfl; exact rfl; exact rfl; exact rfl; (first | with_reducible assumption | exact map_get (by omega) | exact set_get (by simp; omega) | exact rfl); exact Nat.le_of_ble_eq_true rfl) | ((with_reducible apply d_ap0); exact rfl; exact rfl; exact (by decide +kernel); exact rfl; exact rfl; exact rfl; exact rfl; exact rfl; (first | (apply src_sl; exact rfl; exact rfl; exact rfl) | (apply src_sl; exact rfl; exact rfl; rw [List.length_map]; omega) | (apply src_nil; exact rfl) | (apply src_d; exact rfl; (intro row hrow; obtain ⟨q, _, rfl⟩ := List.mem_map.1 hrow; rfl))); exact rfl; (first | decide | (show (_ + 1) * _ ≤ _; rw [List.length_map]; omega) | omega | (simp only [List.length_set, List.length_map, List.length_append]; done) | (simp; omega)); exact rfl) | ((with_reducible apply d_leaf); exact (by decide +kernel)))); all_goals ((with_reducible apply n_doneZ); exact rfl; exact (by decide +kernel))))
  repeat' (first
    | ((with_reducible apply c_l1); exact rfl; exact rfl)
    | ((with_reducible apply c_l2); exact rfl; exact rfl)
    | ((with_reducible apply c_l3); exact rfl)
    | (with_reducible (first | apply c_seq | apply c_rg | apply j_nil | apply q_n | apply c_bl | apply c_ex | apply c_ret | apply c_sk | apply q_r | apply q_e | apply b_r | apply b_e | apply b_n | apply n_n | apply n_r | apply n_e))
    | ((with_reducible apply j_v); exact rfl; exact rfl)
    | ((with_reducible apply j_h); exact rfl; exact rfl)
    | ((with_reducible apply j_s); exact rfl)
    | ((with_reducible apply j_ap); exact rfl; exact rfl; exact rfl; exact rfl; exact rfl; exact rfl; exact rfl; exact rfl; exact rfl; (first | exact rfl | exact (List.length_map _).symm | omega | (simp only [List.length_set, List.length_map, List.length_append] <;> omega) | (simp; done)); (first | (apply src_sl; exact rfl; exact rfl; exact rfl) | (apply src_sl; exact rfl; exact rfl; rw [List.length_map]; omega) | (apply src_nil; exact rfl) | (apply src_d; exact rfl; (intro row hrow; obtain ⟨q, _, rfl⟩ := List.mem_map.1 hrow; rfl))); exact rfl; (first | decide | (show (_ + 1) * _ ≤ _; rw [List.length_map]; omega) | omega | (simp only [List.length_set, List.length_map, List.length_append]; done) | (simp; omega)); exact rfl)
    | ((with_reducible apply j_ap0); exact rfl; exact rfl; exact rfl; exact rfl; exact rfl; exact rfl; (first | (apply src_sl; exact rfl; exact rfl; exact rfl) | (apply src_sl; exact rfl; exact rfl; rw [List.length_map]; omega) | (apply src_nil; exact rfl) | (apply src_d; exact rfl; (intro row hrow; obtain ⟨q, _, rfl⟩ := List.mem_map.1 hrow; rfl))); exact rfl; (first | decide | (show (_ + 1) * _ ≤ _; rw [List.length_map]; omega) | omega | (simp only [List.length_set, List.length_map, List.length_append]; done) | (simp; omega)); exact rfl)
    | ((with_reducible apply b_o); exact rfl)
    | ((with_reducible apply r_g); exact rfl; (· repeat' (first | exact True.intro | refine And.intro ?_ ?_ | (first | exact rfl | exact (List.length_map _).symm | omega | (simp only [List.length_set, List.length_map, List.length_append] <;> omega) | (simp; done)))))
    | (with_reducible rfl)
    | ((with_reducible apply j_gs); exact rfl; exact rfl; all_goals intro hg)
    | ((with_reducible apply c_if); exact rfl; all_goals intro hc))
  refine o_c rfl rfl rfl rfl (Nat.le_of_ble_eq_true rfl) (H := [(7, .arr 3 1 (c.sets.map irow)), (10, .arr 59 2 (c.reps.map RepR.row)), (13, .arr 3 1 (c.snaps.map irow))]) (by repeat' (first | exact .nil | exact .nil _ | refine .cons ?_ ?_ | exact .u _ | exact SVle_pl rfl | refine .one ?_ | refine .agg ?_ | exact .d rfl | exact .ref rfl rfl | exact .sl rfl (by first | rfl | omega | (rw [List.length_append, List.length_map]; show _ + 1 = _; omega) | simp) | exact .fn _ | exact .tape | exact .nils rfl | exact .nild | exact .nildm | exact .nil | exact .rp (by simp) | exact .clo (by simp) | exact .el rfl rfl rfl | exact .d (by first | rfl | (congr 1; omega) | (congr 1; assumption) | simp) | exact .virt rfl | exact .gone _ | refine .blk rfl ?_ | exact .arr rfl (by first | rfl | assumption | simp))) ⟨?_, rfl⟩
  show SV.agg [.d (.bool c.fence), .sl 7 (c.sets.map irow).length 1, .sl 10 (c.reps.map RepR.row).length 2, .sl 13 (c.snaps.map irow).length 1] = _
  rw [List.length_map, List.length_map, List.length_map]
theorem Copy_j {N : Nat} {w0 : Org} {ops : Array Oper} {l : List Oper} {Q : St → Prop} {F : List (Nat × SV)} {H : List (Nat × VH)} {d t : Nat} {p : String} {af : Array Edge} {xs : Array Operand} {ts : Array TypeId} (c : Cl) (hs : c.Small) (hN : Nat.blt d N = true) (ha : PsSL Try.prog 30 ⟨F, H⟩ true xs.toList [c.v]) (hF : undF 1000 F = true) (hH : undH 1000 H = true)
    (h : rg (K N) w0 ops l Q ⟨(d, .agg [.d (.bool c.fence), .sl 1007 c.sets.length 1, .sl 1010 c.reps.length 2, .sl 1013 c.snaps.length 1]) :: F, (1007, .arr 3 1 (c.sets.map irow)) :: (1010, .arr 59 2 (c.reps.map RepR.row)) :: (1013, .arr 3 1 (c.snaps.map irow)) :: H⟩) :
    rg (K N) w0 ops (⟨some d, .call { callee := .value (.func 49), args := xs, argTypes := ts }, t, p, af, none⟩ :: l) Q ⟨F, H⟩ :=
  i_callo (k := K N) (s := ⟨F, H⟩) 1000 hN (Copy_ico c hs) ha hF hH h
end Go.Proofs.Ytpneplgaeiomkaa
