/- Operations: checks. -/
import Derived.Test.YtbnmcdnkeipdhaaDa
set_option linter.all false
set_option maxRecDepth 20000
set_option maxHeartbeats 4000000
namespace Go.Proofs.Ytbnmcdnkeipdhaa
open Go.RowKit Go.Shelf
def amt (x : Opn) : Int := if 1 ≤ x.sz then x.sz else x.dat.length
def sumA (l : List Opn) : Int := l.foldl (fun n x => n + amt x) 0
def fitO (n : Nat) (x : Opn) : Bool := fitsB x.frm x.sz x.dat.length n
def chkO (n : Nat) (l : List Opn) : Int := if 200 < l.length ∨ 65536 < n ∨ 65536 < sumA l then 3 else if l.all (fitO n) = true then 0 else 2
theorem upAll {α : Type} [Inhabited α] {l : List α} (q : α → Bool) {A E : (Int → Prop) → (Int → Nat) → Int → Prop} (hl : l.length ≤ 9223372036854775807) (step : ∀ I μ z, 0 ≤ z → z < (l.length : Int) → gt l z ∈ l → (q (gt l z) = true → I (z + 1) ∧ μ (z + 1) < μ z) → A I μ z) (ex : ∀ I μ, l.all q = true → E I μ l.length) :
    ∃ (I : Int → Prop) (μ : Int → Nat), I 0 ∧ ∀ x, I x → Brn (decide (x < (l.length : Int))) (A I μ x) (E I μ x) := by
  refine up1 (fun z => ∀ j (h1 : j < l.length), (j : Int) < z → q l[j] = true) (by omega) (by intro j h1 h3; omega) (fun I μ z hz0 hz1 hj nx => ?_) (fun I μ hj => ?_)
  · refine step I μ z hz0 hz1 (gt_mem hz0 hz1) fun e => nx fun j h1 h3 => ?_
    by_cases hjz : (j : Int) < z
    · exact hj j h1 hjz
    · have : z = j := by omega
      subst this
      rw [gt_nat h1] at e
      exact e
  · refine ex I μ (List.all_eq_true.2 fun x hx => ?_)
    obtain ⟨j, hj2, rfl⟩ := List.getElem_of_mem hx
    exact hj j hj2 (by omega)
noncomputable def rright_V (o : Opn) (n : Int) (Q : SV → Prop) : Σ' P : Prop, (P → ICt 52 [.agg (List.map .d (Opn.row o)), .one (.d (.int .i64 n))] Q) := by
  apply mkV; intro hP
  refine ic_wk (K 46) Try.func52 rfl rfl rfl rfl (fun w0 => ?_)
  apply (v_kint (x := 1)); exact rfl; exact hP; clear hP; intro hP
  repeat' (first
    | ((fail_if_success (have hTest : Hld False := hP)); (have hq := chk_c hP); (replace hP := chk_p hP))
    | ((with_reducible apply j_lst); exact rfl)
    | (with_reducible (first | apply c_seq | apply c_rg | apply j_nil | apply q_n | apply g_tt | apply g_ff | apply c_ct | apply c_cf | apply c_bl | apply c_ex | apply c_ret | apply c_sk | apply q_r | apply q_e | apply b_r | apply b_e | apply b_n | apply n_n | apply n_r | apply n_e))
    | ((with_reducible apply v_lenstr); exact rfl; exact rfl; kernel_rfl)
    | ((with_reducible apply c_l1); exact rfl; exact rfl)
    | ((with_reducible apply c_l2); exact rfl; exact rfl)
    | ((with_reducible apply c_l3); exact rfl)
    | ((with_reducible apply j_v); exact rfl; exact rfl)
    | ((with_reducible apply j_h); exact rfl; exact rfl)
    | ((with_reducible apply j_g); exact rfl; exact rfl; (first | with_reducible assumption | with_reducible exact Eq.refl true | with_reducible exact Eq.refl false | (with_reducible refine not_t ?_; with_reducible assumption) | (with_reducible refine not_f ?_; with_reducible assumption) | (refine dec_t ?_; decide) | (refine dec_f ?_; decide)))
    | ((with_reducible apply g_tf); exact rfl)
    | ((with_reducible apply g_ft); exact rfl)
    | ((with_reducible apply j_gz); exact rfl; exact rfl; exact rfl)
    | ((with_reducible apply v_lenm); exact rfl; exact rfl; exact rfl; (exact hP); clear hP; intro hP)
    | ((with_reducible apply v_lens); exact rfl; exact rfl; exact rfl; (exact hP); clear hP; intro hP)
    | ((with_reducible apply j_len); exact rfl; exact rfl; exact rfl)
    | ((with_reducible apply j_len0); exact rfl; exact rfl; exact rfl)
    | ((with_reducible apply j_pk); exact rfl; exact rfl; (first | with_reducible assumption | with_reducible exact Eq.refl true | with_reducible exact Eq.refl false | (with_reducible refine not_t ?_; with_reducible assumption) | (with_reducible refine not_f ?_; with_reducible assumption) | (refine dec_t ?_; decide) | (refine dec_f ?_; decide)); exact rfl)
    | ((with_reducible apply j_sub); exact rfl; exact rfl; exact rfl; (first | (with_reducible apply wr_i64; (first | with_reducible assumption | (apply chk_c; exact hP; (first | (guard_target = Prop; rotate_left 1) | skip)))) | exact rfl))
    | ((with_reducible apply c_c); exact rfl; (first | with_reducible assumption | with_reducible exact Eq.refl true | with_reducible exact Eq.refl false | (with_reducible refine not_t ?_; with_reducible assumption) | (with_reducible refine not_f ?_; with_reducible assumption) | (refine dec_t ?_; decide) | (refine dec_f ?_; decide)))
    | ((with_reducible apply b_o); exact rfl)
    | ((with_reducible apply r_g); exact rfl; (· repeat' (first | exact True.intro | refine And.intro ?_ ?_ | (show (_ : Nat) = _; (first | exact rfl | exact (List.length_map _).symm | omega | (simp only [List.length_set, List.length_map, List.length_append] <;> omega) | (simp; done))))); (exact hP.out))
    | ((with_reducible apply v_gs); exact rfl; exact rfl; (exact hP); all_goals (clear hP; intro hg hP))
    | ((with_reducible apply v_if); exact rfl; (exact hP); all_goals (clear hP; intro hc hP)))
theorem rright_ic (o : Opn) (n : Int) : ICp (0 ≤ n) 52 [o.v, iv n] (fun v => v = bv (fitsB o.frm o.sz o.dat.length n)) := fun hn => (rright_V o n _).2 (by
  (delta rright_V; dsimp only [mkV])
  (repeat' (first | with_reducible refine brn_nd (fun h => ?_) (fun h => ?_) | with_reducible refine brn_d (fun h => ?_) (fun h => ?_) | with_reducible refine brn_nn (fun h => ?_) (fun h => ?_) | with_reducible refine brn_nb (fun h => ?_) (fun h => ?_) | with_reducible refine Brn.mk (fun h => ?_) (fun h => ?_) | with_reducible refine Chk.mk ?_ ?_ | with_reducible refine Bth.mk ?_ ?_ | with_reducible refine Fct.mk (fun hf => ?_)))
  all_goals first | (unfold InI; omega) | (refine bl ?_; rw [Bool.eq_iff_iff, fitsB_iff]; simp only [decide_eq_true_eq]; omega) | (refine bl ?_; rw [Bool.eq_iff_iff, fitsB_iff]; simp; omega) | trace_state)
end Go.Proofs.Ytbnmcdnkeipdhaa
