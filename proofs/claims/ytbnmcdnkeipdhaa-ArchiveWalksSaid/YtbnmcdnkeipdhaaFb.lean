/- Archives: the reader. -/
import Derived.Test.YtbnmcdnkeipdhaaFa
set_option linter.all false
set_option maxRecDepth 20000
set_option maxHeartbeats 4000000
namespace Go.Proofs.Ytbnmcdnkeipdhaa
open Go.RowKit Go.Shelf
def tkW (bs : List Int) (w : Bool) (n : Int) : Bool := w || decide ((bs.length : Int) < n)
def tkO (bs : List Int) (w : Bool) (n : Int) : List Int := if tkW bs w n = true then List.replicate n.toNat 0 else bs.take n.toNat
def tkB (bs : List Int) (w : Bool) (n : Int) : List Int := if tkW bs w n = true then bs else bs.drop n.toNat
noncomputable def take_V (bs : List Int) (w : Bool) (n : Int) (bs0 : List Int) (w0 : Bool) (sv : SV) : Σ' P : Prop, (P → ICmm Try.prog 26 83 (.ref 0 0) [.one (.d (.int .i64 n))] (.blk 105 [.d (.list (List.map irow_u8 bs)), .d (.bool w)]) (fun x y => x = sv ∧ y = .blk 105 [.d (.list (List.map irow_u8 bs0)), .d (.bool w0)])) := by
  apply mkV; intro hP
  refine icm_wk (K 38) Try.func83 rfl rfl rfl rfl (fun w0 u => ?_)
  apply (v_kint (x := 1)); exact rfl; exact hP; clear hP; intro hP
  repeat' (first
    | ((apply (v_fza 4 21)); exact rfl; exact rfl; exact rfl; exact rfl; (· repeat' (first | exact True.intro | refine And.intro ?_ ?_ | (show (_ : Nat) = _; (first | exact rfl | exact (List.length_map _).symm | omega | (simp only [List.length_set, List.length_map, List.length_append] <;> omega) | (simp; done))))))
    | ((fail_if_success (have hTest : Hld False := hP)); (have hq := chk_c hP); (replace hP := chk_p hP))
    | ((with_reducible apply j_lst); exact rfl)
    | (with_reducible (first | apply c_seq | apply c_rg | apply j_nil | apply q_n | apply c_ct | apply c_cf | apply c_bl | apply c_ex | apply c_ret | apply c_sk | apply q_r | apply q_e | apply b_r | apply b_e | apply b_n | apply n_n | apply n_r | apply n_e))
    | ((with_reducible apply v_slh); exact rfl; exact rfl; exact rfl; exact rfl; exact rfl; exact (fun _ => rfl); (first | with_reducible assumption | (apply chk_c; exact hP; (first | (guard_target = Prop; rotate_left 1) | skip))))
    | ((with_reducible apply v_sh); exact rfl; exact rfl; exact rfl; exact rfl; exact (fun _ => rfl); (first | with_reducible assumption | (apply chk_c; exact hP; (first | (guard_target = Prop; rotate_left 1) | skip))))
    | ((with_reducible apply v_sl); exact rfl; exact rfl; exact rfl; exact rfl; exact (fun _ => rfl); (first | with_reducible assumption | (apply chk_c; exact hP; (first | (guard_target = Prop; rotate_left 1) | skip))))
    | ((with_reducible apply v_lenstr); exact rfl; exact rfl; kernel_rfl)
    | ((with_reducible apply v_slsl); exact rfl; exact rfl; exact rfl; exact rfl; (first | with_reducible assumption | (apply chk_c; exact hP; (first | (guard_target = Prop; rotate_left 1) | skip))))
    | ((with_reducible apply v_slsh); exact rfl; exact rfl; exact rfl; exact rfl; (first | with_reducible assumption | (apply chk_c; exact hP; (first | (guard_target = Prop; rotate_left 1) | skip))))
    | ((with_reducible apply (v_make irow_u8 ((0 : Int)))); exact rfl; exact rfl; exact rfl; exact rfl; exact rfl; exact rfl; exact rfl; exact rfl; exact rfl; exact rfl; exact rfl; exact rfl; (first | with_reducible assumption | (apply chk_c; exact hP; (first | (guard_target = Prop; rotate_left 1) | skip))))
    | ((with_reducible apply c_l1); exact rfl; exact rfl)
    | ((with_reducible apply c_l2); exact rfl; exact rfl)
    | ((with_reducible apply c_l3); exact rfl)
    | ((with_reducible apply j_v); exact rfl; exact rfl)
    | ((with_reducible apply j_s); exact rfl)
    | ((with_reducible apply v_lenm); exact rfl; exact rfl; exact rfl; (exact hP); clear hP; intro hP)
    | ((with_reducible apply v_lens); exact rfl; exact rfl; exact rfl; (exact hP); clear hP; intro hP)
    | ((with_reducible apply j_len); exact rfl; exact rfl; exact rfl)
    | ((with_reducible apply j_len0); exact rfl; exact rfl; exact rfl)
    | ((with_reducible apply c_c); exact rfl; (first | with_reducible assumption | with_reducible exact Eq.refl true | with_reducible exact Eq.refl false | (with_reducible refine not_t ?_; with_reducible assumption) | (with_reducible refine not_f ?_; with_reducible assumption) | (refine dec_t ?_; decide) | (refine dec_f ?_; decide)))
    | ((with_reducible apply b_o); exact rfl)
    | ((with_reducible apply r_g); exact rfl; (· repeat' (first | exact True.intro | refine And.intro ?_ ?_ | (show (_ : Nat) = _; (first | exact rfl | exact (List.length_map _).symm | omega | (simp only [List.length_set, List.length_map, List.length_append] <;> omega) | (simp; done))))); (exact hP.out))
    | ((with_reducible apply m_b1); (first | exact .inl rfl | exact .inr rfl); exact rfl; exact rfl; exact rfl; exact rfl; exact rfl; (exact hP.out))
    | ((with_reducible apply m_b1n); (first | exact .inl rfl | exact .inr rfl); exact rfl; exact rfl; exact rfl; exact rfl; exact rfl; (exact hP.out))
    | ((with_reducible apply v_gs); exact rfl; exact rfl; (exact hP); all_goals (clear hP; intro hg hP))
    | ((with_reducible apply v_if); exact rfl; (exact hP); all_goals (clear hP; intro hc hP)))
theorem take_icr (bs : List Int) (w : Bool) (n : Int) : ICr (0 ≤ n ∧ n ≤ 1000000000) 83 [iv n] 105 [.d (.list (bs.map irow_u8)), .d (.bool w)] (by_ (tkO bs w n)) [.d (.list ((tkB bs w n).map irow_u8)), .d (.bool (tkW bs w n))] := fun hn => (take_V bs w n (tkB bs w n) (tkW bs w n) (by_ (tkO bs w n))).2 (by
  (delta take_V; dsimp only [mkV])
  (repeat' (first | with_reducible refine brn_nd (fun h => ?_) (fun h => ?_) | with_reducible refine brn_d (fun h => ?_) (fun h => ?_) | with_reducible refine brn_nn (fun h => ?_) (fun h => ?_) | with_reducible refine brn_nb (fun h => ?_) (fun h => ?_) | with_reducible refine Brn.mk (fun h => ?_) (fun h => ?_) | with_reducible refine Chk.mk ?_ ?_ | with_reducible refine Bth.mk ?_ ?_ | with_reducible refine Fct.mk (fun hf => ?_)))
  · omega
  · have e : tkW bs w n = true := by unfold tkW; simp; omega
    unfold tkO tkB; rw [if_pos e, if_pos e, e]; exact ⟨rfl, rfl⟩
  · omega
  · have e : tkW bs w n = true := by unfold tkW; simp [*]
    unfold tkO tkB; rw [if_pos e, if_pos e, e]; exact ⟨rfl, by simp [*]⟩
  · omega
  · have e : tkW bs w n = false := by unfold tkW; simp [*]
    unfold tkO tkB; rw [if_neg (by rw [e]; simp), if_neg (by rw [e]; simp), e]; exact ⟨rfl, by simp [*]⟩)
theorem tkO_len (bs : List Int) (w : Bool) {n : Int} (h0 : 0 ≤ n) : ((tkO bs w n).length : Int) = n := by
  unfold tkO
  split
  · simp; omega
  · rename_i h
    have : ¬ (bs.length : Int) < n := fun hh => h (by unfold tkW; simp [hh])
    rw [List.length_take]; omega
theorem InB_take {l : List Int} (n : Nat) (h : InB l) : InB (l.take n) := fun z hz => h z (List.mem_of_mem_take hz)
theorem tkO_in {bs : List Int} (w : Bool) (n : Int) (h : InB bs) : InB (tkO bs w n) := by
  unfold tkO
  split
  · intro z hz; rw [(List.mem_replicate.1 hz).2]; omega
  · exact InB_take _ h
theorem tkB_in {bs : List Int} (w : Bool) (n : Int) (h : InB bs) : InB (tkB bs w n) := by
  unfold tkB
  split
  · exact h
  · exact InB_drop _ h
theorem tkB_len (bs : List Int) (w : Bool) (n : Int) : (tkB bs w n).length ≤ bs.length := by
  unfold tkB
  split
  · exact Nat.le_refl _
  · simp
end Go.Proofs.Ytbnmcdnkeipdhaa
