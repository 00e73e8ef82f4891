/- Archives: an archive is read. -/
import Derived.Test.YtbnmcdnkeipdhaaFd
set_option linter.all false
set_option maxRecDepth 20000
set_option maxHeartbeats 4000000
namespace Go.Proofs.Ytbnmcdnkeipdhaa
open Go.RowKit Go.Shelf
def dtF (bs : List Int) (w : Bool) : Int := gt (tkO (tkB bs w 3) (tkW bs w 3) 1) 0
def dtN (bs : List Int) (w : Bool) : Int := numI (tkO bs w 3)
def dtB (bs : List Int) (w : Bool) : List Int := tkB (tkB bs w 3) (tkW bs w 3) 1
def dtW (bs : List Int) (w : Bool) : Bool := tkW (tkB bs w 3) (tkW bs w 3) 1
def dtR (bs : List Int) (w : Bool) (most : Int) : List Int × List Int × Bool :=
  if most < dtN bs w ∨ 1 < dtF bs w ∨ dtW bs w = true then ([], dtB bs w, true)
  else if dtF bs w = 0 then (tkO (dtB bs w) (dtW bs w) (dtN bs w), tkB (dtB bs w) (dtW bs w) (dtN bs w), tkW (dtB bs w) (dtW bs w) (dtN bs w))
  else ((unpS (dtB bs w) [] (dtN bs w)).1, (unpS (dtB bs w) [] (dtN bs w)).2.1, !(unpS (dtB bs w) [] (dtN bs w)).2.2)
noncomputable def dat_V (bs : List Int) (w : Bool) (most : Int) (bs0 : List Int) (w0 : Bool) (sv : SV) : Σ' P : Prop, (P → ICmm Try.prog 26 84 (.ref 0 0) [.one (.d (.int .i64 most))] (.blk 105 [.d (.list (List.map irow_u8 bs)), .d (.bool w)]) (fun x y => x = sv ∧ y = .blk 105 [.d (.list (List.map irow_u8 bs0)), .d (.bool w0)])) := by
  apply mkV; intro hP
  refine icm_wk (K 59) Try.func84 rfl rfl rfl rfl (fun w0 u => ?_)
  apply (v_kint (x := 1)); exact rfl; exact hP; clear hP; intro hP
  repeat' (first
    | ((fail_if_success (have hTest : Hld False := hP)); (have hq := chk_c hP); (replace hP := chk_p hP))
    | ((with_reducible apply j_lst); exact rfl)
    | (with_reducible (first | apply c_seq | apply c_rg | apply j_nil | apply q_n | apply g_tt | apply g_ff | apply c_ct | apply c_cf | apply c_bl | apply c_ex | apply c_ret | apply c_sk | apply q_r | apply q_e | apply b_r | apply b_e | apply b_n | apply n_n | apply n_r | apply n_e))
    | ((with_reducible apply c_l1); exact rfl; exact rfl)
    | ((with_reducible apply c_l2); exact rfl; exact rfl)
    | ((with_reducible apply c_l3); exact rfl)
    | ((with_reducible apply j_v); exact rfl; exact rfl)
    | ((with_reducible apply j_s); exact rfl)
    | ((with_reducible apply j_g); exact rfl; exact rfl; (first | with_reducible assumption | with_reducible exact Eq.refl true | with_reducible exact Eq.refl false | (with_reducible refine not_t ?_; with_reducible assumption) | (with_reducible refine not_f ?_; with_reducible assumption) | (refine dec_t ?_; decide) | (refine dec_f ?_; decide)))
    | ((with_reducible apply g_tf); exact rfl)
    | ((with_reducible apply g_ft); exact rfl)
    | ((with_reducible apply j_gz); exact rfl; exact rfl; exact rfl)
    | ((with_reducible apply j_pk); exact rfl; exact rfl; (first | with_reducible assumption | with_reducible exact Eq.refl true | with_reducible exact Eq.refl false | (with_reducible refine not_t ?_; with_reducible assumption) | (with_reducible refine not_f ?_; with_reducible assumption) | (refine dec_t ?_; decide) | (refine dec_f ?_; decide)); exact rfl)
    | ((with_reducible apply j_ld_el1); exact rfl; exact rfl; exact rfl; exact rfl; (first | with_reducible assumption | exact gt_row (by omega) (by omega) | exact rfl); exact rfl)
    | ((with_reducible apply v_ia); exact rfl; exact rfl; exact rfl; exact rfl; (case inst => exact inferInstance); exact rfl; exact rfl; (first | with_reducible assumption | (apply chk_c; exact hP; (first | (guard_target = Prop; rotate_left 1) | skip))))
    | ((with_reducible apply v_iasl); exact rfl; exact rfl; exact rfl; exact rfl; (first | with_reducible assumption | (apply chk_c; exact hP; (first | (guard_target = Prop; rotate_left 1) | skip))))
    | ((with_reducible apply j_ia_ar); exact rfl; exact rfl; exact rfl; exact rfl; ((repeat ((fail_if_success (have hTest : Hld False := hP)); (have hq := chk_c hP); (replace hP := chk_p hP))); first | with_reducible assumption | (apply chk_c; exact hP; (first | (guard_target = Prop; rotate_left 1) | skip))); ((repeat ((fail_if_success (have hTest : Hld False := hP)); (have hq := chk_c hP); (replace hP := chk_p hP))); first | with_reducible assumption | (apply chk_c; exact hP; (first | (guard_target = Prop; rotate_left 1) | skip))); (first | with_reducible exact Int.toNat_natCast _ | exact rfl))
    | ((with_reducible apply c_c); exact rfl; (first | with_reducible assumption | with_reducible exact Eq.refl true | with_reducible exact Eq.refl false | (with_reducible refine not_t ?_; with_reducible assumption) | (with_reducible refine not_f ?_; with_reducible assumption) | (refine dec_t ?_; decide) | (refine dec_f ?_; decide)))
    | ((with_reducible apply b_o); exact rfl)
    | ((with_reducible apply r_g); exact rfl; (· repeat' (first | exact True.intro | refine And.intro ?_ ?_ | (show (_ : Nat) = _; (first | exact rfl | exact (List.length_map _).symm | omega | (simp only [List.length_set, List.length_map, List.length_append] <;> omega) | (simp; done))))); (exact hP.out))
    | ((with_reducible apply m_b1); (first | exact .inl rfl | exact .inr rfl); exact rfl; exact rfl; exact rfl; exact rfl; exact rfl; (exact hP.out))
    | ((with_reducible apply m_b1n); (first | exact .inl rfl | exact .inr rfl); exact rfl; exact rfl; exact rfl; exact rfl; exact rfl; (exact hP.out))
    | ((with_reducible apply v_call (pu := true)); exact rfl; exact ⟨rfl, rfl⟩; (first | (apply (Clone_ic _); rotate_left 1) | (apply (unp_ic _ _); rotate_left 2)); (focus ((repeat' (first | exact .nil _ | refine PsL.cons ?_ ?_ | refine PsSL.cons ?_ ?_ | exact .one (.d _ _) | exact .one psc_nilm | exact psc_nilm | exact .one (.nil _) | exact .one (.nn _) | exact .one (.tape _) | exact .one (.fn _ _) | exact .agg (.same _ _) | refine .agg ?_ | exact .d _ _ | exact .one (.sl rfl rfl) | exact .one (.sl rfl (List.length_map _).symm) | exact .sl rfl rfl | exact .sl rfl (List.length_map _).symm | exact .same _ _)) <;> fail)); exact .inl rfl; (first | with_reducible assumption | (apply chk_c; exact hP; (first | (guard_target = Prop; rotate_left 1) | skip))))
    | ((with_reducible apply v_callr); exact rfl; exact ⟨rfl, rfl⟩; exact rfl; exact rfl; exact rfl; exact rfl; (first | (apply (take_icr _ _ _); rotate_left 1)); (focus ((repeat' (first | exact .nil _ | refine PsL.cons ?_ ?_ | refine PsSL.cons ?_ ?_ | exact .one (.d _ _) | exact .one psc_nilm | exact psc_nilm | exact .one (.nil _) | exact .one (.nn _) | exact .one (.tape _) | exact .one (.fn _ _) | exact .agg (.same _ _) | refine .agg ?_ | exact .d _ _ | exact .one (.sl rfl rfl) | exact .one (.sl rfl (List.length_map _).symm) | exact .sl rfl rfl | exact .sl rfl (List.length_map _).symm | exact .same _ _)) <;> fail)); exact rfl; (first | with_reducible assumption | (apply chk_c; exact hP; (first | (guard_target = Prop; rotate_left 1) | skip))))
    | ((with_reducible apply v_call (pu := false)); exact rfl; exact ⟨rfl, rfl⟩; (first | (apply (number_ic _); rotate_left 1)); (focus ((repeat' (first | exact .nil _ | refine PsL.cons ?_ ?_ | refine PsSL.cons ?_ ?_ | exact .one (.d _ _) | exact .one psc_nilm | exact psc_nilm | exact .one (.nil _) | exact .one (.nn _) | exact .one (.tape _) | exact .one (.fn _ _) | exact .agg (.same _ _) | refine .agg ?_ | exact .d _ _ | exact .one (.sl rfl rfl) | exact .one (.sl rfl (List.length_map _).symm) | exact .sl rfl rfl | exact .sl rfl (List.length_map _).symm | exact .same _ _)) <;> fail)); exact .inr rfl; (first | with_reducible assumption | (apply chk_c; exact hP; (first | (guard_target = Prop; rotate_left 1) | skip))))
    | ((with_reducible apply v_gs); exact rfl; exact rfl; (exact hP); all_goals (clear hP; intro hg hP))
    | ((with_reducible apply v_if); exact rfl; (exact hP); all_goals (clear hP; intro hc hP)))
theorem dat_icr (bs : List Int) (w : Bool) (most : Int) : ICr (InB bs ∧ most ≤ 65536 ∧ bs.length ≤ 1000000000) 84 [iv most] 105 [.d (.list (bs.map irow_u8)), .d (.bool w)] (by_ (dtR bs w most).1) [.d (.list ((dtR bs w most).2.1.map irow_u8)), .d (.bool (dtR bs w most).2.2)] := fun hn => (dat_V bs w most (dtR bs w most).2.1 (dtR bs w most).2.2 (by_ (dtR bs w most).1)).2 (by
  (delta dat_V; dsimp only [mkV])
  obtain ⟨hb, hm, hl⟩ := hn
  have l3 := tkO_len bs w (n := 3) (by omega)
  have l1 := tkO_len (tkB bs w 3) (tkW bs w 3) (n := 1) (by omega)
  have i3 := tkO_in w 3 hb
  have i1 := tkO_in (tkW bs w 3) 1 (tkB_in w 3 hb)
  have nb : 0 ≤ numI (tkO bs w 3) ∧ numI (tkO bs w 3) ≤ 16777215 := by
    have a0 := InB_gt i3 (i := 0) (by omega) (by omega)
    have a1 := InB_gt i3 (i := 1) (by omega) (by omega)
    have a2 := InB_gt i3 (i := 2) (by omega) (by omega)
    unfold numI num3; omega
  have f0 := InB_gt i1 (i := 0) (by omega) (by omega)
  have bad : (most < dtN bs w ∨ 1 < dtF bs w ∨ dtW bs w = true) → SV.one (CV.d (Cell.list [])) = by_ (dtR bs w most).1 ∧ [CV.d (Cell.list (List.map irow_u8 (tkB (tkB bs w 3) (tkW bs w 3) 1))), CV.d (Cell.bool true)] = [CV.d (Cell.list (List.map irow_u8 (dtR bs w most).2.1)), CV.d (Cell.bool (dtR bs w most).2.2)] := fun h => by
    rw [dtR, if_pos h]; exact ⟨rfl, rfl⟩
  (repeat' (first | with_reducible refine brn_nd (fun h => ?_) (fun h => ?_) | with_reducible refine brn_d (fun h => ?_) (fun h => ?_) | with_reducible refine brn_nn (fun h => ?_) (fun h => ?_) | with_reducible refine brn_nb (fun h => ?_) (fun h => ?_) | with_reducible refine Brn.mk (fun h => ?_) (fun h => ?_) | with_reducible refine Chk.mk ?_ ?_ | with_reducible refine Bth.mk ?_ ?_ | with_reducible refine Fct.mk (fun hf => ?_)))
  all_goals first | omega | skip
  · exact bad (.inl (by assumption))
  · exact bad (.inr (.inl (by assumption)))
  · exact bad (.inr (.inr (by assumption)))
  all_goals (have ok : ¬ (most < dtN bs w ∨ 1 < dtF bs w ∨ dtW bs w = true) := by rintro (h | h | h); exact absurd h (by assumption); exact absurd h (by assumption); (unfold dtW at h; simp_all))
  · have := tkO_len (tkB (tkB bs w 3) (tkW bs w 3) 1) (tkW (tkB bs w 3) (tkW bs w 3) 1) nb.1
    omega
  · rw [dtR, if_neg ok, if_pos (by assumption)]; exact ⟨rfl, rfl⟩
  · rw [dtR, if_neg ok, if_neg (by assumption)]; exact ⟨rfl, rfl⟩)
end Go.Proofs.Ytbnmcdnkeipdhaa
