/- Searches by a function. -/
import Derived.Test.YtoflahjlnbligaaCa
set_option linter.all false
set_option maxRecDepth 20000
set_option maxHeartbeats 2000000
namespace Go.Proofs.Ytoflahjlnbligaa
open Go.RowKit Go.Shelf
def FnC (f : Nat) (caps : List CV) (p : List DV → Option Cell) : Prop := Enters Try.prog f ∧ CV.ntL caps = true ∧ FnSpec Try.prog 26 f caps p
theorem PsS.cfn {H : List (Nat × VH)} {pu : Bool} {f : Nat} {cs cs' : List CV} {p : List DV → Option Cell} (h : PsL Try.prog 26 H pu cs cs') (hf : FnC f cs' p) : PsS Try.prog 26 H pu (.one (.clo f cs)) (.one (.fn p)) := .one (PsC.cfn h hf.1 hf.2.1 hf.2.2)
def pI (q : Int → Bool) : List DV → Option Cell
  | [.one (.int .i64 z)] => some (.bool (q z))
  | _ => none
theorem fnI {f : Nat} {caps : List CV} {q : Int → Bool} (h : ∀ z : Int, ICt f (iv z :: caps.map .one) (fun v => v = bv (q z))) (z0 : Int) (hn : CV.ntL caps = true := by rfl) : FnC f caps (pI q) := by
  refine ⟨(h z0).1, hn, ?_⟩
  intro args r hr
  unfold pI at hr
  split at hr
  · cases hr; exact ⟨⟨_, rfl⟩, h _⟩
  · cases hr
theorem idxI_ic (l : List Int) (q : Int → Bool) : ICt 101 [.one (.d (.list (l.map irow))), .one (.fn (pI q))] (fun v => v = iv (idxOf q l)) := by
  refine ic_wk (K 19) Try.func101 rfl rfl rfl rfl (fun w0 => ?_)
  refine k_one (x := 0) rfl fun ho => ?_
  have hlen := ho.map.1
  repeat' (first
    | ((with_reducible apply c_l3); exact rfl)
    | (with_reducible (first | apply c_seq | apply c_rg | apply j_nil | apply q_n | apply c_bl))
    | ((with_reducible apply j_v); exact rfl; exact rfl)
    | ((with_reducible apply j_lenm); exact rfl; exact rfl; exact rfl))
  refine c_loop (ι := Nat) (fun i => ⟨[(0, .one (.d (.list (l.map irow)))), (1, .one (.fn (pI q))), (7, iv l.length), (8, iv i)], []⟩) (fun i => i ≤ l.length ∧ ∀ j (hj : j < l.length), j < i → q l[j] = false) (fun i => l.length - i) [] 0 ⟨by omega, by intros; omega⟩ ⟨(by repeat' (first | exact .nil | exact .nil _ | refine .cons ?_ ?_ | exact .u _ | exact SVle_pl rfl | refine .one ?_ | refine .agg ?_ | exact .d rfl | exact .ref rfl rfl | exact .sl rfl (by first | rfl | omega | (rw [List.length_append, List.length_map]; show _ + 1 = _; omega) | simp) | exact .fn _ | exact .tape | exact .nils rfl | exact .nild | exact .nildm | exact .nil | exact .rp (by simp) | exact .clo (by simp) | exact .el rfl rfl rfl | exact .d (by first | rfl | (congr 1; omega) | (congr 1; assumption) | simp) | exact .virt rfl | exact .gone _ | refine .blk rfl ?_ | exact .arr rfl (by first | rfl | assumption | simp))), (by repeat' (first | exact .nil | exact .nil _ | refine .cons ?_ ?_ | exact .u _ | exact SVle_pl rfl | refine .one ?_ | refine .agg ?_ | exact .d rfl | exact .ref rfl rfl | exact .sl rfl (by first | rfl | omega | (rw [List.length_append, List.length_map]; show _ + 1 = _; omega) | simp) | exact .fn _ | exact .tape | exact .nils rfl | exact .nild | exact .nildm | exact .nil | exact .rp (by simp) | exact .clo (by simp) | exact .el rfl rfl rfl | exact .d (by first | rfl | (congr 1; omega) | (congr 1; assumption) | simp) | exact .virt rfl | exact .gone _ | refine .blk rfl ?_ | exact .arr rfl (by first | rfl | assumption | simp)))⟩ ?_
  rintro i ⟨hi, hall⟩
  by_cases hlt : i < l.length
  · have h1 : decide ((i : Int) < (l.length : Int)) = true := by simp; omega
    repeat' (first
    | (with_reducible (first | apply c_seq | apply c_rg | apply j_nil | apply q_n | apply c_ct | apply c_bl | apply c_ret | apply c_sk | apply q_r | apply b_r | apply b_n | apply n_n | apply n_r))
    | ((with_reducible apply j_v); exact rfl; exact rfl)
    | ((with_reducible apply j_add); exact rfl; exact rfl; exact rfl; exact Go.IntWalk.i64_in _ (by omega))
    | ((with_reducible apply j_ia); exact rfl; exact rfl; exact rfl; exact rfl; omega; (first | with_reducible exact Int.toNat_natCast _); (first | exact map_get (by omega)); exact rfl; exact rfl)
    | ((with_reducible apply c_c); exact rfl; (first | with_reducible assumption))
    | ((with_reducible apply r_g); exact rfl; (· repeat' (first | exact True.intro | refine And.intro ?_ ?_)))
    | refine j_callf (args := [.one (.int .i64 l[i])]) (r := .bool (q l[i])) rfl rfl ⟨rfl, trivial⟩ rfl (by simp) (by simp) ?_
    | ((with_reducible apply c_if); exact rfl; all_goals intro hc))
    · refine congrArg iv (idxOf_at hlt hc fun j hj => hall j (by omega) hj).symm
    · exact ⟨i + 1, ⟨by omega, fun j h1 h2 => by
        by_cases e : j < i
        · exact hall j h1 e
        · obtain rfl : j = i := by omega
          exact hc⟩, by omega, [], ⟨(by repeat' (first | exact .nil | exact .nil _ | refine .cons ?_ ?_ | exact .u _ | exact SVle_pl rfl | refine .one ?_ | refine .agg ?_ | exact .d rfl | exact .ref rfl rfl | exact .sl rfl (by first | rfl | omega | (rw [List.length_append, List.length_map]; show _ + 1 = _; omega) | simp) | exact .fn _ | exact .tape | exact .nils rfl | exact .nild | exact .nildm | exact .nil | exact .rp (by simp) | exact .clo (by simp) | exact .el rfl rfl rfl | exact .d (by first | rfl | (congr 1; omega) | (congr 1; assumption) | simp) | exact .virt rfl | exact .gone _ | refine .blk rfl ?_ | exact .arr rfl (by first | rfl | assumption | simp))), (by repeat' (first | exact .nil | exact .nil _ | refine .cons ?_ ?_ | exact .u _ | exact SVle_pl rfl | refine .one ?_ | refine .agg ?_ | exact .d rfl | exact .ref rfl rfl | exact .sl rfl (by first | rfl | omega | (rw [List.length_append, List.length_map]; show _ + 1 = _; omega) | simp) | exact .fn _ | exact .tape | exact .nils rfl | exact .nild | exact .nildm | exact .nil | exact .rp (by simp) | exact .clo (by simp) | exact .el rfl rfl rfl | exact .d (by first | rfl | (congr 1; omega) | (congr 1; assumption) | simp) | exact .virt rfl | exact .gone _ | refine .blk rfl ?_ | exact .arr rfl (by first | rfl | assumption | simp)))⟩⟩
  · have h1 : decide ((i : Int) < (l.length : Int)) = false := by simp; omega
    repeat' (first
    | (with_reducible (first | apply c_seq | apply c_rg | apply j_nil | apply q_n | apply c_cf | apply c_ex | apply c_ret | apply q_e | apply b_e | apply n_e))
    | ((with_reducible apply j_v); exact rfl; exact rfl)
    | ((with_reducible apply c_c); exact rfl; (first | with_reducible assumption))
    | ((with_reducible apply r_g); exact rfl; (· repeat' (first | exact True.intro | refine And.intro ?_ ?_))))
    refine congrArg iv (idxOf_none fun x hx => ?_).symm
    obtain ⟨j, hj, rfl⟩ := List.getElem_of_mem hx
    exact hall j hj (by omega)
theorem hasI_ic (l : List Int) (q : Int → Bool) : ICt 81 [.one (.d (.list (l.map irow))), .one (.fn (pI q))] (fun v => v = bv (l.any q)) := by
  refine ic_wk (K 9) Try.func81 rfl rfl rfl rfl (fun w0 => ?_)
  repeat' (first
    | ((with_reducible apply c_l3); exact rfl)
    | (with_reducible (first | apply c_seq | apply c_rg | apply j_nil | apply q_n | apply c_ret))
    | ((with_reducible apply j_v); exact rfl; exact rfl)
    | ((with_reducible apply r_g); exact rfl; (· repeat' (first | exact True.intro | refine And.intro ?_ ?_)))
    | ((with_reducible apply j_call (pu := false)); exact rfl; exact idxI_ic l q; (focus ((repeat' (first | exact .nil _ | refine PsSL.cons ?_ ?_ | exact .one (.d _ _) | exact .one (.fn _ _))) <;> fail)); exact .inr rfl))
  exact congrArg bv (idxOf_ge q l)

end Go.Proofs.Ytoflahjlnbligaa
