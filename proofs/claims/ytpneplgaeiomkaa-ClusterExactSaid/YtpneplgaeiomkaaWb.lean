/- Clusters: rows, among, the searches, Check. -/
import Derived.Test.YtpneplgaeiomkaaWa
set_option linter.all false
set_option maxRecDepth 20000
set_option maxHeartbeats 2000000
namespace Go.Proofs.Ytpneplgaeiomkaa
open Go.RowKit Go.Shelf
structure RepR where
  gen : Int
  srv : Bool
structure EvR where
  rep : Int
  gen : Int
  ref : Bool
structure Cl where
  fence : Bool
  sets : List Int
  reps : List RepR
  snaps : List Int
def RepR.row (r : RepR) : List Cell := [.int .i64 r.gen, .bool r.srv]
def EvR.row (r : EvR) : List Cell := [.int .i64 r.rep, .int .i64 r.gen, .bool r.ref]
def Cl.row (c : Cl) : List Cell := [.bool c.fence, ints c.sets, .list (c.reps.map RepR.row), ints c.snaps]
abbrev repsV (l : List RepR) : SV := .one (.d (.list (l.map RepR.row)))
abbrev evsV (l : List EvR) : SV := .one (.d (.list (l.map EvR.row)))
abbrev RepR.v (r : RepR) : SV := .agg (r.row.map .d)
abbrev EvR.v (r : EvR) : SV := .agg (r.row.map .d)
abbrev Cl.v (c : Cl) : SV := .agg (c.row.map .d)
abbrev Cl.p (c : Cl) : CV := .rp (c.row.map .d)
abbrev EvR.p (c : EvR) : CV := .rp (c.row.map .d)
def pI (q : Int → Bool) : List DV → Option Cell
  | [.one (.int .i64 z)] => some (.bool (q z))
  | _ => none
def pR (q : RepR → Bool) : List DV → Option Cell
  | [.agg [.int .i64 g, .bool b]] => some (.bool (q ⟨g, b⟩))
  | _ => none
def pE (q : EvR → Bool) : List DV → Option Cell
  | [.agg [.int .i64 r, .int .i64 g, .bool b]] => some (.bool (q ⟨r, g, b⟩))
  | _ => none
def FnC (f : Nat) (caps : List CV) (p : List DV → Option Cell) : Prop := Enters Try.prog f ∧ CV.ntL caps = true ∧ FnSpec Try.prog 30 f caps p
theorem PsS.cfn {H : List (Nat × VH)} {pu : Bool} {f : Nat} {cs cs' : List CV} {p : List DV → Option Cell} (h : PsL Try.prog 30 H pu cs cs') (hf : FnC f cs' p) : PsS Try.prog 30 H pu (.one (.clo f cs)) (.one (.fn p)) := .one (PsC.cfn h hf.1 hf.2.1 hf.2.2)
theorem fnI {f : Nat} {caps : List CV} {q : Int → Bool} (h : ∀ z : Int, ICt f (iv z :: caps.map .one) (fun v => v = bv (q z))) (z0 : Int) (hn : CV.ntL caps = true := by rfl) : FnC f caps (pI q) := by
  refine ⟨(h z0).1, hn, ?_⟩
  intro args r hr
  unfold pI at hr
  split at hr
  · cases hr; exact ⟨⟨_, rfl⟩, h _⟩
  · cases hr
theorem fnR {f : Nat} {caps : List CV} {q : RepR → Bool} (h : ∀ z : RepR, ICt f (z.v :: caps.map .one) (fun v => v = bv (q z))) (z0 : RepR) (hn : CV.ntL caps = true := by rfl) : FnC f caps (pR q) := by
  refine ⟨(h z0).1, hn, ?_⟩
  intro args r hr
  unfold pR at hr
  split at hr
  · cases hr; exact ⟨⟨_, rfl⟩, h ⟨_, _⟩⟩
  · cases hr
def inB (x lo hi : Int) : Bool := decide (lo ≤ x) && decide (x ≤ hi)
theorem inB_iff (x lo hi : Int) : inB x lo hi = true ↔ lo ≤ x ∧ x ≤ hi := by unfold inB; simp
def validB (c : Cl) : Bool :=
  inB c.reps.length 1 5 && inB c.sets.length 1 121 && !decide (120 < (c.snaps.length : Int)) && c.sets.all (fun b => inB b 0 3) && c.reps.all (fun r => inB r.gen 0 ((c.sets.length : Int) - 1)) && c.snaps.all (fun g => inB g 0 ((c.sets.length : Int) - 1))
def checkS (c : Cl) : Int := if validB c = true then 0 else 39
theorem among_ic (x lo hi : Int) : ICt 60 [iv x, iv lo, iv hi] (fun v => v = bv (inB x lo hi)) := by
  refine ic_wk (K 15) Try.func60 rfl rfl rfl rfl (fun w0 => ?_)
  repeat' (first
    | ((with_reducible apply c_l1); exact rfl; exact rfl)
    | ((with_reducible apply c_l2); exact rfl; exact rfl)
    | ((with_reducible apply c_l3); exact rfl)
    | (with_reducible (first | apply c_seq | apply c_rg | apply j_nil | apply q_n | apply g_tt | apply g_ff | apply c_bl | apply c_ex | apply c_ret | apply c_sk | apply q_r | apply q_e | apply b_r | apply b_e | apply b_n | apply n_n | apply n_r | apply n_e))
    | ((with_reducible apply j_v); exact rfl; exact rfl)
    | ((with_reducible apply j_g); exact rfl; exact rfl; (first | with_reducible assumption | with_reducible exact Eq.refl true | with_reducible exact Eq.refl false | (with_reducible refine not_t ?_; with_reducible assumption) | (with_reducible refine not_f ?_; with_reducible assumption) | (refine dec_t ?_; decide) | (refine dec_f ?_; decide)))
    | ((with_reducible apply g_tf); exact rfl)
    | ((with_reducible apply g_ft); exact rfl)
    | ((with_reducible apply j_gz); exact rfl; exact rfl; exact rfl)
    | ((with_reducible apply j_pk); exact rfl; exact rfl; (first | with_reducible assumption | with_reducible exact Eq.refl true | with_reducible exact Eq.refl false | (with_reducible refine not_t ?_; with_reducible assumption) | (with_reducible refine not_f ?_; with_reducible assumption) | (refine dec_t ?_; decide) | (refine dec_f ?_; decide)); exact rfl)
    | ((with_reducible apply b_o); exact rfl)
    | ((with_reducible apply r_g); exact rfl; (· repeat' (first | exact True.intro | refine And.intro ?_ ?_ | (first | exact rfl | exact (List.length_map _).symm | omega | (simp only [List.length_set, List.length_map, List.length_append] <;> omega) | (simp; done)))))
    | (with_reducible rfl)
    | ((with_reducible apply j_gs); exact rfl; exact rfl; all_goals intro hg)
    | ((with_reducible apply c_if); exact rfl; all_goals intro hc))
  all_goals (first | exact congrArg bv (by simp_all [inB]; try omega) | skip)
theorem in_ic (x lo hi : Int) : ICt 63 [iv x, iv lo, iv hi] (fun v => v = bv (inB x lo hi)) := by
  refine ic_wk (K 15) Try.func63 rfl rfl rfl rfl (fun w0 => ?_)
  repeat' (first
    | ((with_reducible apply c_l1); exact rfl; exact rfl)
    | ((with_reducible apply c_l2); exact rfl; exact rfl)
    | ((with_reducible apply c_l3); exact rfl)
    | (with_reducible (first | apply c_seq | apply c_rg | apply j_nil | apply q_n | apply g_tt | apply g_ff | apply c_bl | apply c_ex | apply c_ret | apply c_sk | apply q_r | apply q_e | apply b_r | apply b_e | apply b_n | apply n_n | apply n_r | apply n_e))
    | ((with_reducible apply j_v); exact rfl; exact rfl)
    | ((with_reducible apply j_g); exact rfl; exact rfl; (first | with_reducible assumption | with_reducible exact Eq.refl true | with_reducible exact Eq.refl false | (with_reducible refine not_t ?_; with_reducible assumption) | (with_reducible refine not_f ?_; with_reducible assumption) | (refine dec_t ?_; decide) | (refine dec_f ?_; decide)))
    | ((with_reducible apply g_tf); exact rfl)
    | ((with_reducible apply g_ft); exact rfl)
    | ((with_reducible apply j_gz); exact rfl; exact rfl; exact rfl)
    | ((with_reducible apply j_pk); exact rfl; exact rfl; (first | with_reducible assumption | with_reducible exact Eq.refl true | with_reducible exact Eq.refl false | (with_reducible refine not_t ?_; with_reducible assumption) | (with_reducible refine not_f ?_; with_reducible assumption) | (refine dec_t ?_; decide) | (refine dec_f ?_; decide)); exact rfl)
    | ((with_reducible apply b_o); exact rfl)
    | ((with_reducible apply r_g); exact rfl; (· repeat' (first | exact True.intro | refine And.intro ?_ ?_ | (first | exact rfl | exact (List.length_map _).symm | omega | (simp only [List.length_set, List.length_map, List.length_append] <;> omega) | (simp; done)))))
    | (with_reducible rfl)
    | ((with_reducible apply j_gs); exact rfl; exact rfl; all_goals intro hg)
    | ((with_reducible apply c_if); exact rfl; all_goals intro hc))
  all_goals (first | exact congrArg bv (by simp_all [inB]; try omega) | skip)
theorem idxI_ic (l : List Int) (q : Int → Bool) : ICt 71 [.one (.d (.list (l.map irow))), .one (.fn (pI q))] (fun v => v = iv (idxOf q l)) := by
  refine ic_wk (K 19) Try.func71 rfl rfl rfl rfl (fun w0 => ?_)
  refine k_one (x := 0) rfl fun ho => ?_
  have hlen := ho.map.1
  repeat' (first
    | ((with_reducible apply c_l1); exact rfl; exact rfl)
    | ((with_reducible apply c_l2); exact rfl; exact rfl)
    | ((with_reducible apply c_l3); exact rfl)
    | (with_reducible (first | apply c_seq | apply c_rg | apply j_nil | apply q_n | apply c_ct | apply c_cf | apply c_bl | apply c_ex | apply c_ret | apply c_sk | apply q_r | apply q_e | apply b_r | apply b_e | apply b_n | apply n_n | apply n_r | apply n_e))
    | ((with_reducible apply j_v); exact rfl; exact rfl)
    | ((with_reducible apply j_lenm); exact rfl; exact rfl; exact rfl)
    | ((with_reducible apply j_lens); exact rfl; exact rfl; exact rfl)
    | ((with_reducible apply j_len); exact rfl; exact rfl; exact rfl)
    | ((with_reducible apply j_len0); exact rfl; exact rfl; exact rfl)
    | ((with_reducible apply j_ld_el1); exact rfl; exact rfl; exact rfl; exact rfl; (first | with_reducible assumption | exact map_get (by omega) | exact set_get (by simp; omega) | exact rfl); exact rfl)
    | ((with_reducible apply j_add); exact rfl; exact rfl; exact rfl; exact Go.IntWalk.i64_in _ (by omega))
    | ((with_reducible apply j_ia); exact rfl; exact rfl; exact rfl; exact rfl; omega; (first | with_reducible exact Int.toNat_natCast _ | exact rfl); (first | with_reducible assumption | exact map_get (by omega) | exact set_get (by simp; omega) | exact rfl); exact rfl; exact rfl)
    | ((with_reducible apply j_ia_sl); exact rfl; exact rfl; exact rfl; exact rfl; omega; omega; (first | with_reducible exact Int.toNat_natCast _ | exact rfl))
    | ((with_reducible apply j_ia_ar); exact rfl; exact rfl; exact rfl; exact rfl; omega; omega; (first | with_reducible exact Int.toNat_natCast _ | exact rfl))
    | ((with_reducible apply c_c); exact rfl; (first | with_reducible assumption | with_reducible exact Eq.refl true | with_reducible exact Eq.refl false | (with_reducible refine not_t ?_; with_reducible assumption) | (with_reducible refine not_f ?_; with_reducible assumption) | (refine dec_t ?_; decide) | (refine dec_f ?_; decide)))
    | ((with_reducible apply b_o); exact rfl)
    | ((with_reducible apply r_g); exact rfl; (· repeat' (first | exact True.intro | refine And.intro ?_ ?_ | (first | exact rfl | exact (List.length_map _).symm | omega | (simp only [List.length_set, List.length_map, List.length_append] <;> omega) | (simp; done)))))
    | (with_reducible rfl)
    | ((with_reducible apply j_gs); exact rfl; exact rfl; all_goals intro hg)
    | ((with_reducible apply c_if); exact rfl; all_goals intro hc))
  refine c_loop (ι := Nat) (fun i => ⟨[(0, .one (.d (.list (l.map irow)))), (1, .one (.fn (pI q))), (7, iv l.length), (8, iv i)], []⟩) (fun i => i ≤ l.length ∧ ∀ j (hj : j < l.length), j < i → q l[j] = false) (fun i => l.length - i) [] 0 ⟨by omega, by intros; omega⟩ ⟨(by repeat' (first | exact .nil | exact .nil _ | refine .cons ?_ ?_ | exact .u _ | exact SVle_pl rfl | refine .one ?_ | refine .agg ?_ | exact .d rfl | exact .ref rfl rfl | exact .sl rfl (by first | rfl | omega | (rw [List.length_append, List.length_map]; show _ + 1 = _; omega) | simp) | exact .fn _ | exact .tape | exact .nils rfl | exact .nild | exact .nil | exact .rp (by simp) | exact .clo (by simp) | exact .el rfl rfl rfl | exact .d (by first | rfl | (congr 1; omega) | (congr 1; assumption) | simp) | exact .virt rfl | exact .gone _ | refine .blk rfl ?_ | exact .arr rfl (by first | rfl | assumption | simp))), (by repeat' (first | exact .nil | exact .nil _ | refine .cons ?_ ?_ | exact .u _ | exact SVle_pl rfl | refine .one ?_ | refine .agg ?_ | exact .d rfl | exact .ref rfl rfl | exact .sl rfl (by first | rfl | omega | (rw [List.length_append, List.length_map]; show _ + 1 = _; omega) | simp) | exact .fn _ | exact .tape | exact .nils rfl | exact .nild | exact .nil | exact .rp (by simp) | exact .clo (by simp) | exact .el rfl rfl rfl | exact .d (by first | rfl | (congr 1; omega) | (congr 1; assumption) | simp) | exact .virt rfl | exact .gone _ | refine .blk rfl ?_ | exact .arr rfl (by first | rfl | assumption | simp)))⟩ ?_
  rintro i ⟨hi, hall⟩
  by_cases hlt : i < l.length
  · have h1 : decide ((i : Int) < (l.length : Int)) = true := by simp; omega
    repeat' (first
    | ((with_reducible apply c_l1); exact rfl; exact rfl)
    | ((with_reducible apply c_l2); exact rfl; exact rfl)
    | ((with_reducible apply c_l3); exact rfl)
    | (with_reducible (first | apply c_seq | apply c_rg | apply j_nil | apply q_n | apply c_ct | apply c_cf | apply c_bl | apply c_ex | apply c_ret | apply c_sk | apply q_r | apply q_e | apply b_r | apply b_e | apply b_n | apply n_n | apply n_r | apply n_e))
    | ((with_reducible apply j_v); exact rfl; exact rfl)
    | ((with_reducible apply j_lenm); exact rfl; exact rfl; exact rfl)
    | ((with_reducible apply j_lens); exact rfl; exact rfl; exact rfl)
    | ((with_reducible apply j_len); exact rfl; exact rfl; exact rfl)
    | ((with_reducible apply j_len0); exact rfl; exact rfl; exact rfl)
    | ((with_reducible apply j_ld_el1); exact rfl; exact rfl; exact rfl; exact rfl; (first | with_reducible assumption | exact map_get (by omega) | exact set_get (by simp; omega) | exact rfl); exact rfl)
    | ((with_reducible apply j_add); exact rfl; exact rfl; exact rfl; exact Go.IntWalk.i64_in _ (by omega))
    | ((with_reducible apply j_ia); exact rfl; exact rfl; exact rfl; exact rfl; omega; (first | with_reducible exact Int.toNat_natCast _ | exact rfl); (first | with_reducible assumption | exact map_get (by omega) | exact set_get (by simp; omega) | exact rfl); exact rfl; exact rfl)
    | ((with_reducible apply j_ia_sl); exact rfl; exact rfl; exact rfl; exact rfl; omega; omega; (first | with_reducible exact Int.toNat_natCast _ | exact rfl))
    | ((with_reducible apply j_ia_ar); exact rfl; exact rfl; exact rfl; exact rfl; omega; omega; (first | with_reducible exact Int.toNat_natCast _ | exact rfl))
    | ((with_reducible apply c_c); exact rfl; (first | with_reducible assumption | with_reducible exact Eq.refl true | with_reducible exact Eq.refl false | (with_reducible refine not_t ?_; with_reducible assumption) | (with_reducible refine not_f ?_; with_reducible assumption) | (refine dec_t ?_; decide) | (refine dec_f ?_; decide)))
    | ((with_reducible apply b_o); exact rfl)
    | ((with_reducible apply r_g); exact rfl; (· repeat' (first | exact True.intro | refine And.intro ?_ ?_ | (first | exact rfl | exact (List.length_map _).symm | omega | (simp only [List.length_set, List.length_map, List.length_append] <;> omega) | (simp; done)))))
    | refine j_callf (args := [.one (.int .i64 l[i])]) (r := .bool (q l[i])) rfl rfl ⟨rfl, trivial⟩ rfl (by simp) (by simp) ?_
    | (with_reducible rfl)
    | ((with_reducible apply j_gs); exact rfl; exact rfl; all_goals intro hg)
    | ((with_reducible apply c_if); exact rfl; all_goals intro hc))
    · refine congrArg iv (idxOf_at hlt hc fun j hj => hall j (by omega) hj).symm
    · exact ⟨i + 1, ⟨by omega, fun j h1 h2 => by
        by_cases e : j < i
        · exact hall j h1 e
        · obtain rfl : j = i := by omega
          exact hc⟩, by omega, [], ⟨(by repeat' (first | exact .nil | exact .nil _ | refine .cons ?_ ?_ | exact .u _ | exact SVle_pl rfl | refine .one ?_ | refine .agg ?_ | exact .d rfl | exact .ref rfl rfl | exact .sl rfl (by first | rfl | omega | (rw [List.length_append, List.length_map]; show _ + 1 = _; omega) | simp) | exact .fn _ | exact .tape | exact .nils rfl | exact .nild | exact .nil | exact .rp (by simp) | exact .clo (by simp) | exact .el rfl rfl rfl | exact .d (by first | rfl | (congr 1; omega) | (congr 1; assumption) | simp) | exact .virt rfl | exact .gone _ | refine .blk rfl ?_ | exact .arr rfl (by first | rfl | assumption | simp))), (by repeat' (first | exact .nil | exact .nil _ | refine .cons ?_ ?_ | exact .u _ | exact SVle_pl rfl | refine .one ?_ | refine .agg ?_ | exact .d rfl | exact .ref rfl rfl | exact .sl rfl (by first | rfl | omega | (rw [List.length_append, List.length_map]; show _ + 1 = _; omega) | simp) | exact .fn _ | exact .tape | exact .nils rfl | exact .nild | exact .nil | exact .rp (by simp) | exact .clo (by simp) | exact .el rfl rfl rfl | exact .d (by first | rfl | (congr 1; omega) | (congr 1; assumption) | simp) | exact .virt rfl | exact .gone _ | refine .blk rfl ?_ | exact .arr rfl (by first | rfl | assumption | simp)))⟩⟩
  · have h1 : decide ((i : Int) < (l.length : Int)) = false := by simp; omega
    repeat' (first
    | ((with_reducible apply c_l1); exact rfl; exact rfl)
    | ((with_reducible apply c_l2); exact rfl; exact rfl)
    | ((with_reducible apply c_l3); exact rfl)
    | (with_reducible (first | apply c_seq | apply c_rg | apply j_nil | apply q_n | apply c_ct | apply c_cf | apply c_bl | apply c_ex | apply c_ret | apply c_sk | apply q_r | apply q_e | apply b_r | apply b_e | apply b_n | apply n_n | apply n_r | apply n_e))
    | ((with_reducible apply j_v); exact rfl; exact rfl)
    | ((with_reducible apply j_lenm); exact rfl; exact rfl; exact rfl)
    | ((with_reducible apply j_lens); exact rfl; exact rfl; exact rfl)
    | ((with_reducible apply j_len); exact rfl; exact rfl; exact rfl)
    | ((with_reducible apply j_len0); exact rfl; exact rfl; exact rfl)
    | ((with_reducible apply j_ld_el1); exact rfl; exact rfl; exact rfl; exact rfl; (first | with_reducible assumption | exact map_get (by omega) | exact set_get (by simp; omega) | exact rfl); exact rfl)
    | ((with_reducible apply j_add); exact rfl; exact rfl; exact rfl; exact Go.IntWalk.i64_in _ (by omega))
    | ((with_reducible apply j_ia); exact rfl; exact rfl; exact rfl; exact rfl; omega; (first | with_reducible exact Int.toNat_natCast _ | exact rfl); (first | with_reducible assumption | exact map_get (by omega) | exact set_get (by simp; omega) | exact rfl); exact rfl; exact rfl)
    | ((with_reducible apply j_ia_sl); exact rfl; exact rfl; exact rfl; exact rfl; omega; omega; (first | with_reducible exact Int.toNat_natCast _ | exact rfl))
    | ((with_reducible apply j_ia_ar); exact rfl; exact rfl; exact rfl; exact rfl; omega; omega; (first | with_reducible exact Int.toNat_natCast _ | exact rfl))
    | ((with_reducible apply c_c); exact rfl; (first | with_reducible assumption | with_reducible exact Eq.refl true | with_reducible exact Eq.refl false | (with_reducible refine not_t ?_; with_reducible assumption) | (with_reducible refine not_f ?_; with_reducible assumption) | (refine dec_t ?_; decide) | (refine dec_f ?_; decide)))
    | ((with_reducible apply b_o); exact rfl)
    | ((with_reducible apply r_g); exact rfl; (· repeat' (first | exact True.intro | refine And.intro ?_ ?_ | (first | exact rfl | exact (List.length_map _).symm | omega | (simp only [List.length_set, List.length_map, List.length_append] <;> omega) | (simp; done)))))
    | (with_reducible rfl)
    | ((with_reducible apply j_gs); exact rfl; exact rfl; all_goals intro hg)
    | ((with_reducible apply c_if); exact rfl; all_goals intro hc))
    refine congrArg iv (idxOf_none fun x hx => ?_).symm
    obtain ⟨j, hj, rfl⟩ := List.getElem_of_mem hx
    exact hall j hj (by omega)
theorem hasI_ic (l : List Int) (q : Int → Bool) : ICt 65 [.one (.d (.list (l.map irow))), .one (.fn (pI q))] (fun v => v = bv (l.any q)) := by
  refine ic_wk (K 9) Try.func65 rfl rfl rfl rfl (fun w0 => ?_)
  repeat' (first
    | ((with_reducible apply c_l1); exact rfl; exact rfl)
    | ((with_reducible apply c_l2); exact rfl; exact rfl)
    | ((with_reducible apply c_l3); exact rfl)
    | (with_reducible (first | apply c_seq | apply c_rg | apply j_nil | apply q_n | apply c_bl | apply c_ex | apply c_ret | apply c_sk | apply q_r | apply q_e | apply b_r | apply b_e | apply b_n | apply n_n | apply n_r | apply n_e))
    | ((with_reducible apply j_v); exact rfl; exact rfl)
    | ((with_reducible apply b_o); exact rfl)
    | ((with_reducible apply r_g); exact rfl; (· repeat' (first | exact True.intro | refine And.intro ?_ ?_ | (first | exact rfl | exact (List.length_map _).symm | omega | (simp only [List.length_set, List.length_map, List.length_append] <;> omega) | (simp; done)))))
    | ((with_reducible apply j_call (pu := false)); exact rfl; exact idxI_ic l q; (focus ((repeat' (first | exact .nil _ | refine .cons ?_ ?_ | exact .one (.d _ _) | exact .one (.nil _) | exact .one (.tape _) | exact .one (.fn _ _) | exact .agg (.same _ _) | refine .agg ?_ | exact .d _ _ | exact .one (.sl rfl rfl) | exact .sl rfl rfl | exact .same _ _)) <;> fail)); exact .inr rfl)
    | (with_reducible rfl)
    | ((with_reducible apply j_gs); exact rfl; exact rfl; all_goals intro hg)
    | ((with_reducible apply c_if); exact rfl; all_goals intro hc))
  exact congrArg bv (idxOf_ge q l)

theorem idxR_ic (l : List RepR) (q : RepR → Bool) : ICt 73 [.one (.d (.list (l.map RepR.row))), .one (.fn (pR q))] (fun v => v = iv (idxOf q l)) := by
  refine ic_wk (K 19) Try.func73 rfl rfl rfl rfl (fun w0 => ?_)
  refine k_one (x := 0) rfl fun ho => ?_
  have hlen := ho.map.1
  repeat' (first
    | ((with_reducible apply c_l1); exact rfl; exact rfl)
    | ((with_reducible apply c_l2); exact rfl; exact rfl)
    | ((with_reducible apply c_l3); exact rfl)
    | (with_reducible (first | apply c_seq | apply c_rg | apply j_nil | apply q_n | apply c_ct | apply c_cf | apply c_bl | apply c_ex | apply c_ret | apply c_sk | apply q_r | apply q_e | apply b_r | apply b_e | apply b_n | apply n_n | apply n_r | apply n_e))
    | ((with_reducible apply j_v); exact rfl; exact rfl)
    | ((with_reducible apply j_lenm); exact rfl; exact rfl; exact rfl)
    | ((with_reducible apply j_lens); exact rfl; exact rfl; exact rfl)
    | ((with_reducible apply j_len); exact rfl; exact rfl; exact rfl)
    | ((with_reducible apply j_len0); exact rfl; exact rfl; exact rfl)
    | ((with_reducible apply j_ld_el1); exact rfl; exact rfl; exact rfl; exact rfl; (first | with_reducible assumption | exact map_get (by omega) | exact set_get (by simp; omega) | exact rfl); exact rfl)
    | ((with_reducible apply j_add); exact rfl; exact rfl; exact rfl; exact Go.IntWalk.i64_in _ (by omega))
    | ((with_reducible apply j_ia); exact rfl; exact rfl; exact rfl; exact rfl; omega; (first | with_reducible exact Int.toNat_natCast _ | exact rfl); (first | with_reducible assumption | exact map_get (by omega) | exact set_get (by simp; omega) | exact rfl); exact rfl; exact rfl)
    | ((with_reducible apply j_ia_sl); exact rfl; exact rfl; exact rfl; exact rfl; omega; omega; (first | with_reducible exact Int.toNat_natCast _ | exact rfl))
    | ((with_reducible apply j_ia_ar); exact rfl; exact rfl; exact rfl; exact rfl; omega; omega; (first | with_reducible exact Int.toNat_natCast _ | exact rfl))
    | ((with_reducible apply c_c); exact rfl; (first | with_reducible assumption | with_reducible exact Eq.refl true | with_reducible exact Eq.refl false | (with_reducible refine not_t ?_; with_reducible assumption) | (with_reducible refine not_f ?_; with_reducible assumption) | (refine dec_t ?_; decide) | (refine dec_f ?_; decide)))
    | ((with_reducible apply b_o); exact rfl)
    | ((with_reducible apply r_g); exact rfl; (· repeat' (first | exact True.intro | refine And.intro ?_ ?_ | (first | exact rfl | exact (List.length_map _).symm | omega | (simp only [List.length_set, List.length_map, List.length_append] <;> omega) | (simp; done)))))
    | (with_reducible rfl)
    | ((with_reducible apply j_gs); exact rfl; exact rfl; all_goals intro hg)
    | ((with_reducible apply c_if); exact rfl; all_goals intro hc))
  refine c_loop (ι := Nat) (fun i => ⟨[(0, .one (.d (.list (l.map RepR.row)))), (1, .one (.fn (pR q))), (7, iv l.length), (8, iv i)], []⟩) (fun i => i ≤ l.length ∧ ∀ j (hj : j < l.length), j < i → q l[j] = false) (fun i => l.length - i) [] 0 ⟨by omega, by intros; omega⟩ ⟨(by repeat' (first | exact .nil | exact .nil _ | refine .cons ?_ ?_ | exact .u _ | exact SVle_pl rfl | refine .one ?_ | refine .agg ?_ | exact .d rfl | exact .ref rfl rfl | exact .sl rfl (by first | rfl | omega | (rw [List.length_append, List.length_map]; show _ + 1 = _; omega) | simp) | exact .fn _ | exact .tape | exact .nils rfl | exact .nild | exact .nil | exact .rp (by simp) | exact .clo (by simp) | exact .el rfl rfl rfl | exact .d (by first | rfl | (congr 1; omega) | (congr 1; assumption) | simp) | exact .virt rfl | exact .gone _ | refine .blk rfl ?_ | exact .arr rfl (by first | rfl | assumption | simp))), (by repeat' (first | exact .nil | exact .nil _ | refine .cons ?_ ?_ | exact .u _ | exact SVle_pl rfl | refine .one ?_ | refine .agg ?_ | exact .d rfl | exact .ref rfl rfl | exact .sl rfl (by first | rfl | omega | (rw [List.length_append, List.length_map]; show _ + 1 = _; omega) | simp) | exact .fn _ | exact .tape | exact .nils rfl | exact .nild | exact .nil | exact .rp (by simp) | exact .clo (by simp) | exact .el rfl rfl rfl | exact .d (by first | rfl | (congr 1; omega) | (congr 1; assumption) | simp) | exact .virt rfl | exact .gone _ | refine .blk rfl ?_ | exact .arr rfl (by first | rfl | assumption | simp)))⟩ ?_
  rintro i ⟨hi, hall⟩
  by_cases hlt : i < l.length
  · have h1 : decide ((i : Int) < (l.length : Int)) = true := by simp; omega
    repeat' (first
    | ((with_reducible apply c_l1); exact rfl; exact rfl)
    | ((with_reducible apply c_l2); exact rfl; exact rfl)
    | ((with_reducible apply c_l3); exact rfl)
    | (with_reducible (first | apply c_seq | apply c_rg | apply j_nil | apply q_n | apply c_ct | apply c_cf | apply c_bl | apply c_ex | apply c_ret | apply c_sk | apply q_r | apply q_e | apply b_r | apply b_e | apply b_n | apply n_n | apply n_r | apply n_e))
    | ((with_reducible apply j_v); exact rfl; exact rfl)
    | ((with_reducible apply j_lenm); exact rfl; exact rfl; exact rfl)
    | ((with_reducible apply j_lens); exact rfl; exact rfl; exact rfl)
    | ((with_reducible apply j_len); exact rfl; exact rfl; exact rfl)
    | ((with_reducible apply j_len0); exact rfl; exact rfl; exact rfl)
    | ((with_reducible apply j_ld_el1); exact rfl; exact rfl; exact rfl; exact rfl; (first | with_reducible assumption | exact map_get (by omega) | exact set_get (by simp; omega) | exact rfl); exact rfl)
    | ((with_reducible apply j_add); exact rfl; exact rfl; exact rfl; exact Go.IntWalk.i64_in _ (by omega))
    | ((with_reducible apply j_ia); exact rfl; exact rfl; exact rfl; exact rfl; omega; (first | with_reducible exact Int.toNat_natCast _ | exact rfl); (first | with_reducible assumption | exact map_get (by omega) | exact set_get (by simp; omega) | exact rfl); exact rfl; exact rfl)
    | ((with_reducible apply j_ia_sl); exact rfl; exact rfl; exact rfl; exact rfl; omega; omega; (first | with_reducible exact Int.toNat_natCast _ | exact rfl))
    | ((with_reducible apply j_ia_ar); exact rfl; exact rfl; exact rfl; exact rfl; omega; omega; (first | with_reducible exact Int.toNat_natCast _ | exact rfl))
    | ((with_reducible apply c_c); exact rfl; (first | with_reducible assumption | with_reducible exact Eq.refl true | with_reducible exact Eq.refl false | (with_reducible refine not_t ?_; with_reducible assumption) | (with_reducible refine not_f ?_; with_reducible assumption) | (refine dec_t ?_; decide) | (refine dec_f ?_; decide)))
    | ((with_reducible apply b_o); exact rfl)
    | ((with_reducible apply r_g); exact rfl; (· repeat' (first | exact True.intro | refine And.intro ?_ ?_ | (first | exact rfl | exact (List.length_map _).symm | omega | (simp only [List.length_set, List.length_map, List.length_append] <;> omega) | (simp; done)))))
    | refine j_callf (args := [.agg (l[i]).row]) (r := .bool (q l[i])) rfl rfl ⟨rfl, trivial⟩ rfl (by simp) (by simp) ?_
    | (with_reducible rfl)
    | ((with_reducible apply j_gs); exact rfl; exact rfl; all_goals intro hg)
    | ((with_reducible apply c_if); exact rfl; all_goals intro hc))
    · refine congrArg iv (idxOf_at hlt hc fun j hj => hall j (by omega) hj).symm
    · exact ⟨i + 1, ⟨by omega, fun j h1 h2 => by
        by_cases e : j < i
        · exact hall j h1 e
        · obtain rfl : j = i := by omega
          exact hc⟩, by omega, [], ⟨(by repeat' (first | exact .nil | exact .nil _ | refine .cons ?_ ?_ | exact .u _ | exact SVle_pl rfl | refine .one ?_ | refine .agg ?_ | exact .d rfl | exact .ref rfl rfl | exact .sl rfl (by first | rfl | omega | (rw [List.length_append, List.length_map]; show _ + 1 = _; omega) | simp) | exact .fn _ | exact .tape | exact .nils rfl | exact .nild | exact .nil | exact .rp (by simp) | exact .clo (by simp) | exact .el rfl rfl rfl | exact .d (by first | rfl | (congr 1; omega) | (congr 1; assumption) | simp) | exact .virt rfl | exact .gone _ | refine .blk rfl ?_ | exact .arr rfl (by first | rfl | assumption | simp))), (by repeat' (first | exact .nil | exact .nil _ | refine .cons ?_ ?_ | exact .u _ | exact SVle_pl rfl | refine .one ?_ | refine .agg ?_ | exact .d rfl | exact .ref rfl rfl | exact .sl rfl (by first | rfl | omega | (rw [List.length_append, List.length_map]; show _ + 1 = _; omega) | simp) | exact .fn _ | exact .tape | exact .nils rfl | exact .nild | exact .nil | exact .rp (by simp) | exact .clo (by simp) | exact .el rfl rfl rfl | exact .d (by first | rfl | (congr 1; omega) | (congr 1; assumption) | simp) | exact .virt rfl | exact .gone _ | refine .blk rfl ?_ | exact .arr rfl (by first | rfl | assumption | simp)))⟩⟩
  · have h1 : decide ((i : Int) < (l.length : Int)) = false := by simp; omega
    repeat' (first
    | ((with_reducible apply c_l1); exact rfl; exact rfl)
    | ((with_reducible apply c_l2); exact rfl; exact rfl)
    | ((with_reducible apply c_l3); exact rfl)
    | (with_reducible (first | apply c_seq | apply c_rg | apply j_nil | apply q_n | apply c_ct | apply c_cf | apply c_bl | apply c_ex | apply c_ret | apply c_sk | apply q_r | apply q_e | apply b_r | apply b_e | apply b_n | apply n_n | apply n_r | apply n_e))
    | ((with_reducible apply j_v); exact rfl; exact rfl)
    | ((with_reducible apply j_lenm); exact rfl; exact rfl; exact rfl)
    | ((with_reducible apply j_lens); exact rfl; exact rfl; exact rfl)
    | ((with_reducible apply j_len); exact rfl; exact rfl; exact rfl)
    | ((with_reducible apply j_len0); exact rfl; exact rfl; exact rfl)
    | ((with_reducible apply j_ld_el1); exact rfl; exact rfl; exact rfl; exact rfl; (first | with_reducible assumption | exact map_get (by omega) | exact set_get (by simp; omega) | exact rfl); exact rfl)
    | ((with_reducible apply j_add); exact rfl; exact rfl; exact rfl; exact Go.IntWalk.i64_in _ (by omega))
    | ((with_reducible apply j_ia); exact rfl; exact rfl; exact rfl; exact rfl; omega; (first | with_reducible exact Int.toNat_natCast _ | exact rfl); (first | with_reducible assumption | exact map_get (by omega) | exact set_get (by simp; omega) | exact rfl); exact rfl; exact rfl)
    | ((with_reducible apply j_ia_sl); exact rfl; exact rfl; exact rfl; exact rfl; omega; omega; (first | with_reducible exact Int.toNat_natCast _ | exact rfl))
    | ((with_reducible apply j_ia_ar); exact rfl; exact rfl; exact rfl; exact rfl; omega; omega; (first | with_reducible exact Int.toNat_natCast _ | exact rfl))
    | ((with_reducible apply c_c); exact rfl; (first | with_reducible assumption | with_reducible exact Eq.refl true | with_reducible exact Eq.refl false | (with_reducible refine not_t ?_; with_reducible assumption) | (with_reducible refine not_f ?_; with_reducible assumption) | (refine dec_t ?_; decide) | (refine dec_f ?_; decide)))
    | ((with_reducible apply b_o); exact rfl)
    | ((with_reducible apply r_g); exact rfl; (· repeat' (first | exact True.intro | refine And.intro ?_ ?_ | (first | exact rfl | exact (List.length_map _).symm | omega | (simp only [List.length_set, List.length_map, List.length_append] <;> omega) | (simp; done)))))
    | (with_reducible rfl)
    | ((with_reducible apply j_gs); exact rfl; exact rfl; all_goals intro hg)
    | ((with_reducible apply c_if); exact rfl; all_goals intro hc))
    refine congrArg iv (idxOf_none fun x hx => ?_).symm
    obtain ⟨j, hj, rfl⟩ := List.getElem_of_mem hx
    exact hall j hj (by omega)
theorem hasR_ic (l : List RepR) (q : RepR → Bool) : ICt 67 [.one (.d (.list (l.map RepR.row))), .one (.fn (pR q))] (fun v => v = bv (l.any q)) := by
  refine ic_wk (K 9) Try.func67 rfl rfl rfl rfl (fun w0 => ?_)
  repeat' (first
    | ((with_reducible apply c_l1); exact rfl; exact rfl)
    | ((with_reducible apply c_l2); exact rfl; exact rfl)
    | ((with_reducible apply c_l3); exact rfl)
    | (with_reducible (first | apply c_seq | apply c_rg | apply j_nil | apply q_n | apply c_bl | apply c_ex | apply c_ret | apply c_sk | apply q_r | apply q_e | apply b_r | apply b_e | apply b_n | apply n_n | apply n_r | apply n_e))
    | ((with_reducible apply j_v); exact rfl; exact rfl)
    | ((with_reducible apply b_o); exact rfl)
    | ((with_reducible apply r_g); exact rfl; (· repeat' (first | exact True.intro | refine And.intro ?_ ?_ | (first | exact rfl | exact (List.length_map _).symm | omega | (simp only [List.length_set, List.length_map, List.length_append] <;> omega) | (simp; done)))))
    | ((with_reducible apply j_call (pu := false)); exact rfl; exact idxR_ic l q; (focus ((repeat' (first | exact .nil _ | refine .cons ?_ ?_ | exact .one (.d _ _) | exact .one (.nil _) | exact .one (.tape _) | exact .one (.fn _ _) | exact .agg (.same _ _) | refine .agg ?_ | exact .d _ _ | exact .one (.sl rfl rfl) | exact .sl rfl rfl | exact .same _ _)) <;> fail)); exact .inr rfl)
    | (with_reducible rfl)
    | ((with_reducible apply j_gs); exact rfl; exact rfl; all_goals intro hg)
    | ((with_reducible apply c_if); exact rfl; all_goals intro hc))
  exact congrArg bv (idxOf_ge q l)

theorem strange_ic (c : Cl) (g : Int) : ICt 64 [iv g, .one c.p] (fun v => v = bv (!inB g 0 ((c.sets.length : Int) - 1))) := by
  refine ic_wk (K 11) Try.func64 rfl rfl rfl rfl (fun w0 => ?_)
  refine k_rp (x := 1) 1 rfl rfl fun ho => ?_
  have hlen := ho.map.1
  repeat' (first
    | ((with_reducible apply c_l1); exact rfl; exact rfl)
    | ((with_reducible apply c_l2); exact rfl; exact rfl)
    | ((with_reducible apply c_l3); exact rfl)
    | (with_reducible (first | apply c_seq | apply c_rg | apply j_nil | apply q_n | apply c_bl | apply c_ex | apply c_ret | apply c_sk | apply q_r | apply q_e | apply b_r | apply b_e | apply b_n | apply n_n | apply n_r | apply n_e))
    | ((with_reducible apply j_v); exact rfl; exact rfl)
    | ((with_reducible apply j_lenm); exact rfl; exact rfl; exact rfl)
    | ((with_reducible apply j_lens); exact rfl; exact rfl; exact rfl)
    | ((with_reducible apply j_len); exact rfl; exact rfl; exact rfl)
    | ((with_reducible apply j_len0); exact rfl; exact rfl; exact rfl)
    | ((with_reducible apply j_sub); exact rfl; exact rfl; exact rfl; exact Go.IntWalk.i64_in _ (by omega))
    | ((with_reducible apply b_o); exact rfl)
    | ((with_reducible apply r_g); exact rfl; (· repeat' (first | exact True.intro | refine And.intro ?_ ?_ | (first | exact rfl | exact (List.length_map _).symm | omega | (simp only [List.length_set, List.length_map, List.length_append] <;> omega) | (simp; done)))))
    | ((with_reducible apply j_call (pu := false)); exact rfl; apply (among_ic _ _ _); rotate_left 3; (focus ((repeat' (first | exact .nil _ | refine .cons ?_ ?_ | exact .one (.d _ _) | exact .one (.nil _) | exact .one (.tape _) | exact .one (.fn _ _) | exact .agg (.same _ _) | refine .agg ?_ | exact .d _ _ | exact .one (.sl rfl rfl) | exact .sl rfl rfl | refine .one (PsC.ref rfl ?_) | refine PsC.ref rfl ?_ | refine .one (PsC.rp ?_) | refine PsC.rp ?_ | refine .one (PsC.clo ?_) | refine PsC.clo ?_ | exact .same _ _)) <;> fail)); exact .inr rfl)
    | (with_reducible rfl)
    | ((with_reducible apply j_gs); exact rfl; exact rfl; all_goals intro hg)
    | ((with_reducible apply c_if); exact rfl; all_goals intro hc))
theorem bits_ic (g : Int) : ICt 66 [iv g] (fun v => v = bv (!inB g 0 3)) := by
  refine ic_wk (K 6) Try.func66 rfl rfl rfl rfl (fun w0 => ?_)
  repeat' (first
    | ((with_reducible apply c_l1); exact rfl; exact rfl)
    | ((with_reducible apply c_l2); exact rfl; exact rfl)
    | ((with_reducible apply c_l3); exact rfl)
    | (with_reducible (first | apply c_seq | apply c_rg | apply j_nil | apply q_n | apply c_bl | apply c_ex | apply c_ret | apply c_sk | apply q_r | apply q_e | apply b_r | apply b_e | apply b_n | apply n_n | apply n_r | apply n_e))
    | ((with_reducible apply j_v); exact rfl; exact rfl)
    | ((with_reducible apply b_o); exact rfl)
    | ((with_reducible apply r_g); exact rfl; (· repeat' (first | exact True.intro | refine And.intro ?_ ?_ | (first | exact rfl | exact (List.length_map _).symm | omega | (simp only [List.length_set, List.length_map, List.length_append] <;> omega) | (simp; done)))))
    | ((with_reducible apply j_call (pu := false)); exact rfl; apply (among_ic _ _ _); rotate_left 3; (focus ((repeat' (first | exact .nil _ | refine .cons ?_ ?_ | exact .one (.d _ _) | exact .one (.nil _) | exact .one (.tape _) | exact .one (.fn _ _) | exact .agg (.same _ _) | refine .agg ?_ | exact .d _ _ | exact .one (.sl rfl rfl) | exact .sl rfl rfl | exact .same _ _)) <;> fail)); exact .inr rfl)
    | (with_reducible rfl)
    | ((with_reducible apply j_gs); exact rfl; exact rfl; all_goals intro hg)
    | ((with_reducible apply c_if); exact rfl; all_goals intro hc))
theorem strangeR_ic (c : Cl) (r : RepR) : ICt 68 [r.v, .one (.rp [.clo 64 [c.p]])] (fun v => v = bv (!inB r.gen 0 ((c.sets.length : Int) - 1))) := by
  refine ic_wk (K 8) Try.func68 rfl rfl rfl rfl (fun w0 => ?_)
  repeat' (first
    | ((with_reducible apply c_l1); exact rfl; exact rfl)
    | ((with_reducible apply c_l2); exact rfl; exact rfl)
    | ((with_reducible apply c_l3); exact rfl)
    | (with_reducible (first | apply c_seq | apply c_rg | apply j_nil | apply q_n | apply c_bl | apply c_ex | apply c_ret | apply c_sk | apply q_r | apply q_e | apply b_r | apply b_e | apply b_n | apply n_n | apply n_r | apply n_e))
    | ((with_reducible apply j_v); exact rfl; exact rfl)
    | ((with_reducible apply j_h); exact rfl; exact rfl)
    | ((with_reducible apply b_o); exact rfl)
    | ((with_reducible apply r_g); exact rfl; (· repeat' (first | exact True.intro | refine And.intro ?_ ?_ | (first | exact rfl | exact (List.length_map _).symm | omega | (simp only [List.length_set, List.length_map, List.length_append] <;> omega) | (simp; done)))))
    | refine i_callc (pu := true) (args := [iv r.gen]) (cs' := [c.p]) rfl rfl (strange_ic c _) (by repeat' (first | exact .nil _ | refine .cons ?_ ?_ | exact .one (.d _ _) | exact .one (.nil _) | exact .one (.tape _) | exact .one (.fn _ _) | exact .agg (.same _ _) | refine .agg ?_ | exact .d _ _ | exact .one (.sl rfl rfl) | exact .sl rfl rfl | refine .one (PsC.ref rfl ?_) | refine PsC.ref rfl ?_ | refine .one (PsC.rp ?_) | refine PsC.rp ?_ | refine .one (PsC.clo ?_) | refine PsC.clo ?_ | exact .same _ _)) (by repeat' (first | exact .nil _ | refine .cons ?_ ?_ | exact .one (.d _ _) | exact .one (.nil _) | exact .one (.tape _) | exact .one (.fn _ _) | exact .agg (.same _ _) | refine .agg ?_ | exact .d _ _ | exact .one (.sl rfl rfl) | exact .sl rfl rfl | refine .one (PsC.ref rfl ?_) | refine PsC.ref rfl ?_ | refine .one (PsC.rp ?_) | refine PsC.rp ?_ | refine .one (PsC.clo ?_) | refine PsC.clo ?_ | exact .same _ _)) (.inl rfl) ?_
    | (with_reducible rfl)
    | ((with_reducible apply j_gs); exact rfl; exact rfl; all_goals intro hg)
    | ((with_reducible apply c_if); exact rfl; all_goals intro hc))
theorem strange_fn (c : Cl) : FnC 64 [c.p] (pI fun g => !inB g 0 ((c.sets.length : Int) - 1)) := fnI (fun g => strange_ic c g) 0
theorem bits_fn : FnC 66 [] (pI fun g => !inB g 0 3) := fnI (fun g => bits_ic g) 0
theorem strangeR_fn (c : Cl) : FnC 68 [.rp [.clo 64 [c.p]]] (pR fun r => !inB r.gen 0 ((c.sets.length : Int) - 1)) := fnR (fun r => strangeR_ic c r) ⟨0, false⟩
theorem check_ic (c : Cl) : ICt 37 [c.v] (fun v => v = iv (checkS c)) := by
  refine ic_wk (K 39) Try.func37 rfl rfl rfl rfl (fun w0 => ?_)
  repeat' (first
    | ((with_reducible apply c_l1); exact rfl; exact rfl)
    | ((with_reducible apply c_l2); exact rfl; exact rfl)
    | ((with_reducible apply c_l3); exact rfl)
    | (with_reducible (first | apply c_seq | apply c_rg | apply j_nil | apply q_n | apply g_tt | apply g_ff | apply c_ct | apply c_cf | apply c_bl | apply c_ex | apply c_ret | apply c_sk | apply q_r | apply q_e | apply b_r | apply b_e | apply b_n | apply n_n | apply n_r | apply n_e))
    | ((with_reducible apply j_v); exact rfl; exact rfl)
    | ((with_reducible apply j_h); exact rfl; exact rfl)
    | ((with_reducible apply j_s); exact rfl)
    | ((with_reducible apply j_g); exact rfl; exact rfl; (first | with_reducible assumption | with_reducible exact Eq.refl true | with_reducible exact Eq.refl false | (with_reducible refine not_t ?_; with_reducible assumption) | (with_reducible refine not_f ?_; with_reducible assumption) | (refine dec_t ?_; decide) | (refine dec_f ?_; decide)))
    | ((with_reducible apply g_tf); exact rfl)
    | ((with_reducible apply g_ft); exact rfl)
    | ((with_reducible apply j_gz); exact rfl; exact rfl; exact rfl)
    | ((with_reducible apply j_lenm); exact rfl; exact rfl; exact rfl)
    | ((with_reducible apply j_lens); exact rfl; exact rfl; exact rfl)
    | ((with_reducible apply j_len); exact rfl; exact rfl; exact rfl)
    | ((with_reducible apply j_len0); exact rfl; exact rfl; exact rfl)
    | ((with_reducible apply j_pk); exact rfl; exact rfl; (first | with_reducible assumption | with_reducible exact Eq.refl true | with_reducible exact Eq.refl false | (with_reducible refine not_t ?_; with_reducible assumption) | (with_reducible refine not_f ?_; with_reducible assumption) | (refine dec_t ?_; decide) | (refine dec_f ?_; decide)); exact rfl)
    | ((with_reducible apply c_c); exact rfl; (first | with_reducible assumption | with_reducible exact Eq.refl true | with_reducible exact Eq.refl false | (with_reducible refine not_t ?_; with_reducible assumption) | (with_reducible refine not_f ?_; with_reducible assumption) | (refine dec_t ?_; decide) | (refine dec_f ?_; decide)))
    | ((with_reducible apply b_o); exact rfl)
    | ((with_reducible apply r_g); exact rfl; (· repeat' (first | exact True.intro | refine And.intro ?_ ?_ | (first | exact rfl | exact (List.length_map _).symm | omega | (simp only [List.length_set, List.length_map, List.length_append] <;> omega) | (simp; done)))))
    | ((with_reducible apply j_call (pu := false)); exact rfl; exact hasI_ic c.sets (fun g => !inB g 0 3); (focus ((repeat' (first | refine PsS.cfn ?_ (bits_fn) | exact .nil _ | refine .cons ?_ ?_ | exact .one (.d _ _) | exact .one (.nil _) | exact .one (.tape _) | exact .one (.fn _ _) | exact .agg (.same _ _) | refine .agg ?_ | exact .d _ _ | exact .one (.sl rfl rfl) | exact .sl rfl rfl | refine .one (PsC.ref rfl ?_) | refine PsC.ref rfl ?_ | refine .one (PsC.rp ?_) | refine PsC.rp ?_ | refine .one (PsC.clo ?_) | refine PsC.clo ?_ | exact .same _ _)) <;> fail)); exact .inr rfl)
    | ((with_reducible apply j_call (pu := false)); exact rfl; exact hasI_ic c.snaps (fun g => !inB g 0 ((c.sets.length : Int) - 1)); (focus ((repeat' (first | refine PsS.cfn ?_ (strange_fn c) | exact .nil _ | refine .cons ?_ ?_ | exact .one (.d _ _) | exact .one (.nil _) | exact .one (.tape _) | exact .one (.fn _ _) | exact .agg (.same _ _) | refine .agg ?_ | exact .d _ _ | exact .one (.sl rfl rfl) | exact .sl rfl rfl | refine .one (PsC.ref rfl ?_) | refine PsC.ref rfl ?_ | refine .one (PsC.rp ?_) | refine PsC.rp ?_ | refine .one (PsC.clo ?_) | refine PsC.clo ?_ | exact .same _ _)) <;> fail)); exact .inr rfl)
    | ((with_reducible apply j_call (pu := false)); exact rfl; exact hasR_ic c.reps (fun r => !inB r.gen 0 ((c.sets.length : Int) - 1)); (focus ((repeat' (first | refine PsS.cfn ?_ (strangeR_fn c) | exact .nil _ | refine .cons ?_ ?_ | exact .one (.d _ _) | exact .one (.nil _) | exact .one (.tape _) | exact .one (.fn _ _) | exact .agg (.same _ _) | refine .agg ?_ | exact .d _ _ | exact .one (.sl rfl rfl) | exact .sl rfl rfl | refine .one (PsC.ref rfl ?_) | refine PsC.ref rfl ?_ | refine .one (PsC.rp ?_) | refine PsC.rp ?_ | refine .one (PsC.clo ?_) | refine PsC.clo ?_ | exact .same _ _)) <;> fail)); exact .inr rfl)
    | ((with_reducible apply j_call (pu := false)); exact rfl; apply (among_ic _ _ _); rotate_left 3; (focus ((repeat' (first | exact .nil _ | refine .cons ?_ ?_ | exact .one (.d _ _) | exact .one (.nil _) | exact .one (.tape _) | exact .one (.fn _ _) | exact .agg (.same _ _) | refine .agg ?_ | exact .d _ _ | exact .one (.sl rfl rfl) | exact .sl rfl rfl | refine .one (PsC.ref rfl ?_) | refine PsC.ref rfl ?_ | refine .one (PsC.rp ?_) | refine PsC.rp ?_ | refine .one (PsC.clo ?_) | refine PsC.clo ?_ | exact .same _ _)) <;> fail)); exact .inr rfl)
    | (with_reducible rfl)
    | ((with_reducible apply j_gs); exact rfl; exact rfl; all_goals intro hg)
    | ((with_reducible apply c_if); exact rfl; all_goals intro hc))
  all_goals refine congrArg iv ?_
  all_goals simp only [← List.not_all_eq_any_not, Bool.not_eq_true', Bool.not_eq_false', Bool.not_eq_eq_eq_not, Bool.not_true, Bool.not_false] at *
  all_goals simp only [checkS, validB, *, Bool.not_true, Bool.not_false, Bool.and_true, Bool.true_and, Bool.and_false, Bool.false_and, if_true, if_false, reduceCtorEq, Bool.false_eq_true]
end Go.Proofs.Ytpneplgaeiomkaa
