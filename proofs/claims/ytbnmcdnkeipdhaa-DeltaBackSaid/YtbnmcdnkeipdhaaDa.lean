/- Operations: types; which are right. -/
import Derived.Test.YtbnmcdnkeipdhaaIvzc
import Derived.Test.YtbnmcdnkeipdhaaTq
set_option linter.all false
set_option maxRecDepth 20000
set_option maxHeartbeats 4000000
namespace Go.Proofs.Ytbnmcdnkeipdhaa
open Go.RowKit Go.Shelf
structure Opn where
  frm : Int
  sz : Int
  dat : List Int
def Opn.row (x : Opn) : List Cell := [.int .i64 x.frm, .int .i64 x.sz, .list (x.dat.map irow_u8)]
abbrev Opn.v (x : Opn) : SV := .agg (x.row.map .d)
abbrev Opn.p (x : Opn) : CV := .rp (x.row.map .d)
instance : Inhabited Opn := ⟨⟨0, 0, []⟩⟩
deriving instance DecidableEq for Opn
theorem Opn.row_mk (a0 : Int) (a1 : Int) (a2 : List Int) : [(.int .i64 a0 : Cell), (.int .i64 a1 : Cell), (.list (List.map irow_u8 a2) : Cell)] = Opn.row ⟨a0, a1, a2⟩ := rfl
theorem Opn.v_mk (a0 : Int) (a1 : Int) (a2 : List Int) : Opn.v ⟨a0, a1, a2⟩ = .agg [.d (.int .i64 a0), .d (.int .i64 a1), .d (.list (List.map irow_u8 a2))] := rfl
theorem Opn.ar {a0 : Int} {a1 : Int} {a2 : List Int} {xs : List Opn} {cs : List CV} (h : CvD cs (xs.flatMap Opn.row)) : CvD (.d (.int .i64 a0) :: .d (.int .i64 a1) :: .d (.list (List.map irow_u8 a2)) :: cs) ((⟨a0, a1, a2⟩ :: xs).flatMap Opn.row) := by rw [List.flatMap_cons]; exact (.d (.d (.d h)))
def FnC (f : Nat) (caps : List CV) (p : List DV → Option Cell) : Prop := Enters Try.prog f ∧ CV.ntL caps = true ∧ FnSpec Try.prog 26 f caps p
theorem PsS.cfn {H : List (Nat × VH)} {pu : Bool} {f : Nat} {cs cs' : List CV} {p : List DV → Option Cell} (h : PsL Try.prog 26 H pu cs cs') (hf : FnC f cs' p) : PsS Try.prog 26 H pu (.one (.clo f cs)) (.one (.fn p)) := .one (PsC.cfn h hf.1 hf.2.1 hf.2.2)
theorem bl {a b : Bool} (h : a = b) : SV.one (.d (.bool a)) = bv b := by rw [h]
abbrev by_ (l : List Int) : SV := .one (.d (.list (l.map irow_u8)))
abbrev ov (l : List Opn) : SV := .one (.d (.list (l.map Opn.row)))
def pOp (q : Int → Int → Nat → Bool) : List DV → Option Cell
  | [.agg [.int .i64 a, .int .i64 b, .list rows]] => some (.bool (q a b rows.length))
  | _ => none
theorem fnOp {f : Nat} {caps : List CV} {q : Int → Int → Nat → Bool} (h : ∀ (a b : Int) (rows : List (List Cell)), ICt f (.agg [.d (.int .i64 a), .d (.int .i64 b), .d (.list rows)] :: caps.map .one) (fun v => v = bv (q a b rows.length))) (hn : CV.ntL caps = true := by rfl) : FnC f caps (pOp q) := by
  refine ⟨(h 0 0 []).1, hn, ?_⟩
  intro args r hr
  unfold pOp at hr
  split at hr
  · cases hr; exact ⟨⟨_, rfl⟩, h _ _ _⟩
  · cases hr
def rightB (a b : Int) (n : Nat) : Bool := if b = 0 then decide (a = 0) && decide (0 < n) else decide (0 < b) && (decide (0 ≤ a) && decide (n = 0))
def fitsB (a b : Int) (n : Nat) (base : Int) : Bool := rightB a b n && (decide (b = 0) || (decide (a ≤ base) && decide (b ≤ base - a)))
theorem fitsB_iff {a b : Int} {n : Nat} {base : Int} : fitsB a b n base = true ↔ (b = 0 ∧ a = 0 ∧ 0 < n) ∨ (0 < b ∧ 0 ≤ a ∧ n = 0 ∧ a ≤ base ∧ b ≤ base - a) := by
  unfold fitsB rightB
  by_cases h : b = 0
  · simp [h]
  · rw [if_neg h]; simp [h]; omega
theorem fct1 {α : Type} {a : α} {A : Prop} {R : (α → Prop) → (α → Nat) → α → Prop} (h : ∃ (I : α → Prop) (μ : α → Nat), I a ∧ ∀ x, I x → R I μ x) : ∃ (I : α → Prop) (μ : α → Nat), I a ∧ ∀ x, I x → Fct A (R I μ x) := by
  obtain ⟨I, μ, h1, h2⟩ := h
  exact ⟨I, μ, h1, fun x hx => ⟨fun _ => h2 x hx⟩⟩
theorem fct2 {α β : Type} {a : α} {b : β} {A : Prop} {R : (α → β → Prop) → (α → β → Nat) → α → β → Prop} (h : ∃ (I : α → β → Prop) (μ : α → β → Nat), I a b ∧ ∀ x y, I x y → R I μ x y) : ∃ (I : α → β → Prop) (μ : α → β → Nat), I a b ∧ ∀ x y, I x y → Fct A (R I μ x y) := by
  obtain ⟨I, μ, h1, h2⟩ := h
  exact ⟨I, μ, h1, fun x y hx => ⟨fun _ => h2 x y hx⟩⟩
noncomputable def right_V (a b : Int) (rows : List (List Cell)) (Q : SV → Prop) : Σ' P : Prop, (P → ICt 57 [.agg [.d (.int .i64 a), .d (.int .i64 b), .d (.list rows)]] Q) := by
  apply mkV; intro hP
  refine ic_wk (K 29) Try.func57 rfl rfl rfl rfl (fun w0 => ?_)
  repeat' (first
    | ((fail_if_success (have hTest : Hld False := hP)); (have hq := chk_c hP); (replace hP := chk_p hP))
    | ((with_reducible apply j_lst); exact rfl)
    | (with_reducible (first | apply c_seq | apply c_rg | apply j_nil | apply q_n | apply g_tt | apply g_ff | apply c_ct | apply c_cf | apply c_bl | apply c_ex | apply c_ret | apply c_sk | apply q_r | apply q_e | apply b_r | apply b_e | apply b_n | apply n_n | apply n_r | apply n_e))
    | ((with_reducible apply v_lenstr); exact rfl; exact rfl; kernel_rfl)
    | ((with_reducible apply c_l1); exact rfl; exact rfl)
    | ((with_reducible apply c_l2); exact rfl; exact rfl)
    | ((with_reducible apply c_l3); exact rfl)
    | ((with_reducible apply j_v); exact rfl; exact rfl)
    | ((with_reducible apply j_h); exact rfl; exact rfl)
    | ((with_reducible apply j_g); exact rfl; exact rfl; (first | with_reducible assumption | with_reducible exact Eq.refl true | with_reducible exact Eq.refl false | (with_reducible refine not_t ?_; with_reducible assumption) | (with_reducible refine not_f ?_; with_reducible assumption) | (refine dec_t ?_; decide) | (refine dec_f ?_; decide)))
    | ((with_reducible apply g_tf); exact rfl)
    | ((with_reducible apply g_ft); exact rfl)
    | ((with_reducible apply j_gz); exact rfl; exact rfl; exact rfl)
    | ((with_reducible apply v_lenm); exact rfl; exact rfl; exact rfl; (exact hP); clear hP; intro hP)
    | ((with_reducible apply v_lens); exact rfl; exact rfl; exact rfl; (exact hP); clear hP; intro hP)
    | ((with_reducible apply j_len); exact rfl; exact rfl; exact rfl)
    | ((with_reducible apply j_len0); exact rfl; exact rfl; exact rfl)
    | ((with_reducible apply j_pk); exact rfl; exact rfl; (first | with_reducible assumption | with_reducible exact Eq.refl true | with_reducible exact Eq.refl false | (with_reducible refine not_t ?_; with_reducible assumption) | (with_reducible refine not_f ?_; with_reducible assumption) | (refine dec_t ?_; decide) | (refine dec_f ?_; decide)); exact rfl)
    | ((with_reducible apply c_c); exact rfl; (first | with_reducible assumption | with_reducible exact Eq.refl true | with_reducible exact Eq.refl false | (with_reducible refine not_t ?_; with_reducible assumption) | (with_reducible refine not_f ?_; with_reducible assumption) | (refine dec_t ?_; decide) | (refine dec_f ?_; decide)))
    | ((with_reducible apply b_o); exact rfl)
    | ((with_reducible apply r_g); exact rfl; (· repeat' (first | exact True.intro | refine And.intro ?_ ?_ | (show (_ : Nat) = _; (first | exact rfl | exact (List.length_map _).symm | omega | (simp only [List.length_set, List.length_map, List.length_append] <;> omega) | (simp; done))))); (exact hP.out))
    | ((with_reducible apply v_gs); exact rfl; exact rfl; (exact hP); all_goals (clear hP; intro hg hP))
    | ((with_reducible apply v_if); exact rfl; (exact hP); all_goals (clear hP; intro hc hP)))
theorem right_ic (a b : Int) (rows : List (List Cell)) : ICt 57 [.agg [.d (.int .i64 a), .d (.int .i64 b), .d (.list rows)]] (fun v => v = bv (rightB a b rows.length)) := (right_V a b rows _).2 (by
  (delta right_V; dsimp only [mkV])
  (repeat' (first | with_reducible refine brn_nd (fun h => ?_) (fun h => ?_) | with_reducible refine brn_d (fun h => ?_) (fun h => ?_) | with_reducible refine brn_nn (fun h => ?_) (fun h => ?_) | with_reducible refine brn_nb (fun h => ?_) (fun h => ?_) | with_reducible refine Brn.mk (fun h => ?_) (fun h => ?_) | with_reducible refine Chk.mk ?_ ?_ | with_reducible refine Bth.mk ?_ ?_ | with_reducible refine Fct.mk (fun hf => ?_)))
  all_goals first | (refine bl ?_; simp_all [rightB]; done) | (refine bl ?_; simp_all [rightB]; omega) | trace_state)
noncomputable def fits_V (a b : Int) (rows : List (List Cell)) (n : Int) (Q : SV → Prop) : Σ' P : Prop, (P → ICt 74 [.agg [.d (.int .i64 a), .d (.int .i64 b), .d (.list rows)], iv n] Q) := by
  apply mkV; intro hP
  refine ic_wk (K 27) Try.func74 rfl rfl rfl rfl (fun w0 => ?_)
  repeat' (first
    | ((fail_if_success (have hTest : Hld False := hP)); (have hq := chk_c hP); (replace hP := chk_p hP))
    | ((with_reducible apply j_lst); exact rfl)
    | (with_reducible (first | apply c_seq | apply c_rg | apply j_nil | apply q_n | apply g_tt | apply g_ff | apply c_bl | apply c_ex | apply c_ret | apply c_sk | apply q_r | apply q_e | apply b_r | apply b_e | apply b_n | apply n_n | apply n_r | apply n_e))
    | ((with_reducible apply c_l1); exact rfl; exact rfl)
    | ((with_reducible apply c_l2); exact rfl; exact rfl)
    | ((with_reducible apply c_l3); exact rfl)
    | ((with_reducible apply j_v); exact rfl; exact rfl)
    | ((with_reducible apply j_h); exact rfl; exact rfl)
    | ((with_reducible apply j_g); exact rfl; exact rfl; (first | with_reducible assumption | with_reducible exact Eq.refl true | with_reducible exact Eq.refl false | (with_reducible refine not_t ?_; with_reducible assumption) | (with_reducible refine not_f ?_; with_reducible assumption) | (refine dec_t ?_; decide) | (refine dec_f ?_; decide)))
    | ((with_reducible apply g_tf); exact rfl)
    | ((with_reducible apply g_ft); exact rfl)
    | ((with_reducible apply j_gz); exact rfl; exact rfl; exact rfl)
    | ((with_reducible apply j_pk); exact rfl; exact rfl; (first | with_reducible assumption | with_reducible exact Eq.refl true | with_reducible exact Eq.refl false | (with_reducible refine not_t ?_; with_reducible assumption) | (with_reducible refine not_f ?_; with_reducible assumption) | (refine dec_t ?_; decide) | (refine dec_f ?_; decide)); exact rfl)
    | ((with_reducible apply j_sub); exact rfl; exact rfl; exact rfl; (first | (with_reducible apply wr_i64; (first | with_reducible assumption | (apply chk_c; exact hP; (first | (guard_target = Prop; rotate_left 1) | skip)))) | exact rfl))
    | ((with_reducible apply b_o); exact rfl)
    | ((with_reducible apply r_g); exact rfl; (· repeat' (first | exact True.intro | refine And.intro ?_ ?_ | (show (_ : Nat) = _; (first | exact rfl | exact (List.length_map _).symm | omega | (simp only [List.length_set, List.length_map, List.length_append] <;> omega) | (simp; done))))); (exact hP.out))
    | ((with_reducible apply j_call (pu := false)); exact rfl; apply (right_ic _ _ _); rotate_left 3; (focus ((repeat' (first | exact .nil _ | refine PsL.cons ?_ ?_ | refine PsSL.cons ?_ ?_ | exact .one (.d _ _) | exact .one psc_nilm | exact psc_nilm | exact .one (.nil _) | exact .one (.nn _) | exact .one (.tape _) | exact .one (.fn _ _) | exact .agg (.same _ _) | refine .agg ?_ | exact .d _ _ | exact .one (.sl rfl rfl) | exact .one (.sl rfl (List.length_map _).symm) | exact .sl rfl rfl | exact .sl rfl (List.length_map _).symm | exact .same _ _)) <;> fail)); exact .inr rfl)
    | ((with_reducible apply v_gs); exact rfl; exact rfl; (exact hP); all_goals (clear hP; intro hg hP))
    | ((with_reducible apply v_if); exact rfl; (exact hP); all_goals (clear hP; intro hc hP)))
theorem fits_ic (a b : Int) (rows : List (List Cell)) (n : Int) : ICp (0 ≤ n ∧ n ≤ 9223372036854775807) 74 [.agg [.d (.int .i64 a), .d (.int .i64 b), .d (.list rows)], iv n] (fun v => v = bv (fitsB a b rows.length n)) := fun hn => (fits_V a b rows n _).2 (by
  (delta fits_V; dsimp only [mkV])
  (repeat' (first | with_reducible refine brn_nd (fun h => ?_) (fun h => ?_) | with_reducible refine brn_d (fun h => ?_) (fun h => ?_) | with_reducible refine brn_nn (fun h => ?_) (fun h => ?_) | with_reducible refine brn_nb (fun h => ?_) (fun h => ?_) | with_reducible refine Brn.mk (fun h => ?_) (fun h => ?_) | with_reducible refine Chk.mk ?_ ?_ | with_reducible refine Bth.mk ?_ ?_ | with_reducible refine Fct.mk (fun hf => ?_)))
  all_goals first | (refine bl ?_; simp_all [fitsB]; done) | (refine bl ?_; simp_all [fitsB]; intros; omega) | (have q : 0 ≤ a := (by simp_all [rightB]); unfold InI; omega) | trace_state)
end Go.Proofs.Ytbnmcdnkeipdhaa
