/- Lists of ints: equal, and the searches. -/
import Derived.Test.YtoflahjlnbligaaLb3
set_option linter.all false
set_option maxRecDepth 20000
namespace Go.Proofs.Ytoflahjlnbligaa
open Go.RowKit Go.Shelf
theorem take_next {α : Type _} {a b : List α} {i : Nat} (ha : i < a.length) (hb : i < b.length) (h : a.take i = b.take i) (e : a[i] = b[i]) : a.take (i + 1) = b.take (i + 1) := by
  rw [List.take_succ_eq_append_getElem ha, List.take_succ_eq_append_getElem hb, h, e]
theorem ints_ic (a b : List Int) : ICt 21 [lv a, lv b] (fun v => v = bv (decide (a = b))) := by
  refine ic_wk (K 26) Try.func21 rfl rfl rfl rfl (fun w0 => ?_)
  refine k_one (x := 0) rfl fun ho => ?_
  have hlen := ho.map.1
  by_cases hl : a.length = b.length
  · have h1 : (!decide ((a.length : Int) = (b.length : Int))) = false := by simp; omega
    repeat' (first
    | ((with_reducible apply c_l3); exact rfl)
    | (with_reducible (first | apply c_seq | apply c_rg | apply j_nil | apply q_n | apply c_cf | apply c_bl | apply c_sk))
    | ((with_reducible apply j_v); exact rfl; exact rfl)
    | ((with_reducible apply j_lenm); exact rfl; exact rfl; exact rfl)
    | ((with_reducible apply c_c); exact rfl; (first | with_reducible assumption)))
    refine c_loop (ι := Nat) (fun i => ⟨[(0, .one (.d (ints a))), (1, .one (.d (ints b))), (12, iv a.length), (13, iv i)], []⟩) (fun i => i ≤ a.length ∧ a.take i = b.take i) (fun i => a.length - i) [] 0 ⟨by omega, rfl⟩ ⟨(by repeat' (first | exact .nil | exact .nil _ | refine .cons ?_ ?_ | exact .u _ | exact SVle_pl rfl | refine .one ?_ | refine .agg ?_ | exact .d rfl | exact .ref rfl rfl | exact .sl rfl (by first | rfl | omega | (rw [List.length_append, List.length_map]; show _ + 1 = _; omega) | simp) | exact .fn _ | exact .tape | exact .nils rfl | exact .nild | exact .nildm | exact .nil | exact .rp (by simp) | exact .clo (by simp) | exact .el rfl rfl rfl | exact .d (by first | rfl | (congr 1; omega) | (congr 1; assumption) | simp) | exact .virt rfl | exact .gone _ | refine .blk rfl ?_ | exact .arr rfl (by first | rfl | assumption | simp))), (by repeat' (first | exact .nil | exact .nil _ | refine .cons ?_ ?_ | exact .u _ | exact SVle_pl rfl | refine .one ?_ | refine .agg ?_ | exact .d rfl | exact .ref rfl rfl | exact .sl rfl (by first | rfl | omega | (rw [List.length_append, List.length_map]; show _ + 1 = _; omega) | simp) | exact .fn _ | exact .tape | exact .nils rfl | exact .nild | exact .nildm | exact .nil | exact .rp (by simp) | exact .clo (by simp) | exact .el rfl rfl rfl | exact .d (by first | rfl | (congr 1; omega) | (congr 1; assumption) | simp) | exact .virt rfl | exact .gone _ | refine .blk rfl ?_ | exact .arr rfl (by first | rfl | assumption | simp)))⟩ ?_
    rintro i ⟨hi, hall⟩
    by_cases hlt : i < a.length
    · have h1 : decide ((i : Int) < (a.length : Int)) = true := by simp; omega
      repeat' (first
    | (with_reducible (first | apply c_seq | apply c_rg | apply j_nil | apply q_n | apply c_ct | apply c_bl | apply c_sk))
    | ((with_reducible apply j_v); exact rfl; exact rfl)
    | ((with_reducible apply c_c); exact rfl; (first | with_reducible assumption)))
      (refine n_start (by kernel_rfl) ?_; (refine n_quiet none #[true, true, true, true, true, true, true, true, true] [0, 1, 2, 3, 4, 5, 6, 7, 8] 0 rfl ?_; (repeat' (first | ((with_reducible apply (d_e (some []))); exact rfl; exact rfl; kernel_rfl; kernel_rfl; exact rfl; exact rfl; (first | ((with_reducible apply e_v); exact rfl) | ((with_reducible apply e_ld_el1); exact rfl; exact rfl; exact rfl; (first | with_reducible assumption | exact map_get (by omega) | exact set_get (by simp; omega) | exact rfl); exact rfl) | ((with_reducible apply e_ld_eln); exact rfl; exact rfl; exact rfl; (first | with_reducible assumption | exact map_get (by omega) | exact set_get (by simp; omega) | exact rfl); exact Nat.le_of_ble_eq_true rfl) | ((with_reducible apply e_ia); exact rfl; exact rfl; exact rfl; omega; (first | with_reducible exact Int.toNat_natCast _ | exact rfl); (first | with_reducible assumption | exact map_get (by omega) | exact set_get (by simp; omega) | exact rfl); exact rfl; exact rfl) | ((with_reducible apply e_ia_sl); exact rfl; exact rfl; exact rfl; omega; omega; (first | with_reducible exact Int.toNat_natCast _ | exact rfl)) | ((with_reducible apply e_ia_ar); exact rfl; exact rfl; exact rfl; omega; omega; (first | with_reducible exact Int.toNat_natCast _ | exact rfl)))) | ((with_reducible apply d_leaf); exact (by decide +kernel)))); all_goals ((with_reducible apply n_doneZ); exact rfl; exact (by decide +kernel))))
      repeat' (first
    | (with_reducible (first | apply c_seq | apply c_rg | apply j_nil | apply q_n | apply c_ret | apply c_sk | apply q_r | apply b_r | apply b_n | apply n_n | apply n_r))
    | ((with_reducible apply j_v); exact rfl; exact rfl)
    | ((with_reducible apply j_add); exact rfl; exact rfl; exact rfl; exact Go.IntWalk.i64_in _ (by omega))
    | ((with_reducible apply r_g); exact rfl; (· repeat' (first | exact True.intro | refine And.intro ?_ ?_)))
    | ((with_reducible apply c_if); exact rfl; all_goals intro hc))
      · have hne : a[i] ≠ b[i] := by simpa using hc
        refine congrArg bv (Eq.symm (decide_eq_false fun e => hne ?_))
        subst e; rfl
      · exact ⟨i + 1, ⟨by omega, take_next hlt (by omega) hall (by simpa using hc)⟩, by omega, [], ⟨(by repeat' (first | exact .nil | exact .nil _ | refine .cons ?_ ?_ | exact .u _ | exact SVle_pl rfl | refine .one ?_ | refine .agg ?_ | exact .d rfl | exact .ref rfl rfl | exact .sl rfl (by first | rfl | omega | (rw [List.length_append, List.length_map]; show _ + 1 = _; omega) | simp) | exact .fn _ | exact .tape | exact .nils rfl | exact .nild | exact .nildm | exact .nil | exact .rp (by simp) | exact .clo (by simp) | exact .el rfl rfl rfl | exact .d (by first | rfl | (congr 1; omega) | (congr 1; assumption) | simp) | exact .virt rfl | exact .gone _ | refine .blk rfl ?_ | exact .arr rfl (by first | rfl | assumption | simp))), (by repeat' (first | exact .nil | exact .nil _ | refine .cons ?_ ?_ | exact .u _ | exact SVle_pl rfl | refine .one ?_ | refine .agg ?_ | exact .d rfl | exact .ref rfl rfl | exact .sl rfl (by first | rfl | omega | (rw [List.length_append, List.length_map]; show _ + 1 = _; omega) | simp) | exact .fn _ | exact .tape | exact .nils rfl | exact .nild | exact .nildm | exact .nil | exact .rp (by simp) | exact .clo (by simp) | exact .el rfl rfl rfl | exact .d (by first | rfl | (congr 1; omega) | (congr 1; assumption) | simp) | exact .virt rfl | exact .gone _ | refine .blk rfl ?_ | exact .arr rfl (by first | rfl | assumption | simp)))⟩⟩
    · have h1 : decide ((i : Int) < (a.length : Int)) = false := by simp; omega
      repeat' (first
    | (with_reducible (first | apply c_seq | apply c_rg | apply j_nil | apply q_n | apply c_cf | apply c_ex | apply c_ret | apply q_e | apply b_e | apply n_e))
    | ((with_reducible apply j_v); exact rfl; exact rfl)
    | ((with_reducible apply c_c); exact rfl; (first | with_reducible assumption))
    | ((with_reducible apply r_g); exact rfl; (· repeat' (first | exact True.intro | refine And.intro ?_ ?_))))
      refine congrArg bv (Eq.symm (decide_eq_true ?_))
      have h2 := hall
      rwa [List.take_of_length_le (by omega), List.take_of_length_le (by omega)] at h2
  · have h1 : (!decide ((a.length : Int) = (b.length : Int))) = true := by simp; omega
    repeat' (first
    | ((with_reducible apply c_l3); exact rfl)
    | (with_reducible (first | apply c_seq | apply c_rg | apply j_nil | apply q_n | apply c_ct | apply c_ret | apply q_r))
    | ((with_reducible apply j_v); exact rfl; exact rfl)
    | ((with_reducible apply j_lenm); exact rfl; exact rfl; exact rfl)
    | ((with_reducible apply c_c); exact rfl; (first | with_reducible assumption))
    | ((with_reducible apply r_g); exact rfl; (· repeat' (first | exact True.intro | refine And.intro ?_ ?_))))
    refine congrArg bv (Eq.symm (decide_eq_false fun e => hl (by rw [e])))
end Go.Proofs.Ytoflahjlnbligaa
