/- Archives: types, bytes. -/
import Derived.Test.YtbnmcdnkeipdhaaLb4
import Derived.Test.YtbnmcdnkeipdhaaTq
set_option linter.all false
set_option maxRecDepth 20000
set_option maxHeartbeats 4000000
namespace Go.Proofs.Ytbnmcdnkeipdhaa
open Go.RowKit Go.Shelf
structure Ent where
  nm : ByteArray
  dat : List Int
def Ent.row (x : Ent) : List Cell := [.str x.nm, .list (x.dat.map irow_u8)]
abbrev Ent.v (x : Ent) : SV := .agg (x.row.map .d)
abbrev Ent.p (x : Ent) : CV := .rp (x.row.map .d)
instance : Inhabited Ent := ⟨⟨ByteArray.empty, []⟩⟩
deriving instance DecidableEq for Ent
theorem Ent.row_mk (a0 : ByteArray) (a1 : List Int) : [(.str a0 : Cell), (.list (List.map irow_u8 a1) : Cell)] = Ent.row ⟨a0, a1⟩ := rfl
theorem Ent.ar {a0 : ByteArray} {a1 : List Int} {xs : List Ent} {cs : List CV} (h : CvD cs (xs.flatMap Ent.row)) : CvD (.d (.str a0) :: .d (.list (List.map irow_u8 a1)) :: cs) ((⟨a0, a1⟩ :: xs).flatMap Ent.row) := by rw [List.flatMap_cons]; exact (.d (.d h))
def InB (l : List Int) : Prop := ∀ z ∈ l, 0 ≤ z ∧ z ≤ 255
def FnC (f : Nat) (caps : List CV) (p : List DV → Option Cell) : Prop := Enters Try.prog f ∧ CV.ntL caps = true ∧ FnSpec Try.prog 26 f caps p
theorem PsS.cfn {H : List (Nat × VH)} {pu : Bool} {f : Nat} {cs cs' : List CV} {p : List DV → Option Cell} (h : PsL Try.prog 26 H pu cs cs') (hf : FnC f cs' p) : PsS Try.prog 26 H pu (.one (.clo f cs)) (.one (.fn p)) := .one (PsC.cfn h hf.1 hf.2.1 hf.2.2)
abbrev by_ (l : List Int) : SV := .one (.d (.list (l.map irow_u8)))
abbrev ev (l : List Ent) : SV := .one (.d (.list (l.map Ent.row)))
theorem InB_ok {l : List Int} (h : ∀ x ∈ l, ∀ c ∈ irow_u8 x, c.Ok) : InB l := by
  intro z hz
  have := h z hz _ (List.mem_singleton.2 rfl)
  cases this with
  | int hk =>
    simp [Lit.wf, IntKind.min, IntKind.max, IntKind.bits, IntKind.signed] at hk
    omega
theorem InB_drop {l : List Int} (n : Nat) (h : InB l) : InB (l.drop n) := fun z hz => h z (List.mem_of_mem_drop hz)
theorem InB_gt {l : List Int} (h : InB l) {i : Int} (h0 : 0 ≤ i) (h1 : i < l.length) : 0 ≤ gt l i ∧ gt l i ≤ 255 := h _ (gt_mem h0 h1)
theorem InB_snoc {l : List Int} {z : Int} (h : InB l) (hz : 0 ≤ z ∧ z ≤ 255) : InB (l ++ [z]) := by
  intro y hy
  rcases List.mem_append.1 hy with hy | hy
  · exact h y hy
  · rw [List.mem_singleton] at hy; subst hy; exact hz
noncomputable def Bytes_V (n : Int) (Q : SV → Prop) : Σ' P : Prop, (P → ICt 14 [.one .tape, .one (.d (.int .i64 n))] Q) := by
  apply mkV; intro hP
  refine ic_wk (K 47) Try.func14 rfl rfl rfl rfl (fun w0 => ?_)
  apply (v_kint (x := 1)); exact rfl; exact hP; clear hP; intro hP
  repeat' (first
    | ((fail_if_success (have hTest : Hld False := hP)); (have hq := chk_c hP); (replace hP := chk_p hP))
    | (with_reducible (first | apply c_seq | apply c_rg | apply j_nil | apply q_n | apply c_ct | apply c_bl | apply c_ex | apply c_ret | apply c_sk | apply q_e | apply b_e | apply b_n | apply n_n | apply n_e))
    | ((with_reducible apply (v_conv (t := 3) (t' := 5) .u8)); exact rfl; kernel_rfl; exact rfl; exact wr_u8t)
    | ((with_reducible apply v_ixs); exact rfl; exact rfl; exact rfl; kernel_rfl; (apply chk_c; exact hP; (first | skip)))
    | ((with_reducible apply j_v); exact rfl; exact rfl)
    | ((with_reducible apply (v_bsf (d := 26) (irow_u8))); exact rfl; exact rfl; exact (row_cons (irow_u8_mk _) row_nil); exact rfl; exact rfl)
    | ((with_reducible apply (v_bsf (d := 34) (irow_u8))); exact rfl; exact rfl; exact (row_cons (irow_u8_mk _) row_nil); exact rfl; exact rfl)
    | ((with_reducible apply (v_bsf (d := 44) (irow_u8))); exact rfl; exact rfl; exact (row_cons (irow_u8_mk _) row_nil); exact rfl; exact rfl)
    | ((with_reducible apply (v_bsf (d := 18) (irow_u8))); exact rfl; exact rfl; exact (row_cons (irow_u8_mk _) row_nil); exact rfl; exact rfl)
    | ((with_reducible apply j_add); exact rfl; exact rfl; exact rfl; (with_reducible apply wr_i64; (apply chk_c; exact hP; (first | skip))))
    | ((with_reducible apply (v_ap (irow_u8))); exact rfl; exact rfl; exact rfl; exact rfl; exact rfl; exact rfl; exact rfl; (first | exact rfl); exact rfl; exact rfl; exact rfl; (apply src_d; exact rfl; (intro row hrow; obtain ⟨q, _, rfl⟩ := List.mem_map.1 hrow; rfl)); (first | exact rfl); exact rfl; exact rfl; exact rfl; (apply chk_c; exact hP; (first | skip)))
    | ((with_reducible apply c_c); exact rfl; (first | with_reducible assumption))
    | ((with_reducible apply r_g); exact rfl; (· repeat' (first | exact True.intro | refine And.intro ?_ ?_ | (show (_ : Nat) = _; (first | exact (List.length_map _).symm)))); (exact hP.out))
    | ((with_reducible apply v_ndp (pu := false)); exact rfl; exact ⟨rfl, rfl⟩; (apply (next_nd _); rotate_left 1); (focus ((repeat' (first | exact .nil _ | refine PsSL.cons ?_ ?_ | exact .one (.d _ _) | exact .one (.tape _))) <;> fail)); exact .inr (fun _ => rfl); (exact hP); clear hP; intro x hx hP)
    | ((with_reducible refine v_loopat (c := (.seq (.seq (.region 3 _ _) _) _)) ?_); (apply (v_loop2 [] _ [0, 1] [] (fun x1 x2 => [(5, .one (.sl 205 (List.length x1) 1)), (6, .one (.d (.int .i64 x2)))]) (fun x1 x2 => [(205, .arr 5 1 (List.map irow_u8 x1))]) [205])); exact rfl; exact rfl; (focus (refine ⟨?_, ?_⟩; rotate_left 1; (focus (repeat' (first | exact .nil | refine .cons ?_ ?_ | exact .virt rfl))); (focus (repeat' (first | exact .nil | refine .cons ?_ ?_ | exact SVle_pl rfl | refine .one ?_ | exact .tape | exact .nils rfl))))); (exact hP); clear hP; intro I μ x1 x2 hP)
    | ((with_reducible apply (v_nxt2 (a1 := _) (a2 := _))); rotate_left 1; (focus (repeat' (first | exact .nil | refine .cons ?_ ?_ | exact .arr rfl (by first | rfl | assumption | simp)))); rotate_right 1; (focus (repeat' (first | exact .nil | refine .cons ?_ ?_ | exact SVle_pl rfl | refine .one ?_ | exact .sl rfl (by first | rfl | exact List.length_set.symm | exact (splT_len (by simp only [List.length_take, List.length_drop]; omega)).symm | omega | (rw [List.length_append, List.length_map]; show _ + 1 = _; omega) | simp) | exact .tape))); (exact hP))
    | ((with_reducible apply v_if); exact rfl; (exact hP); all_goals (clear hP; intro hc hP)))
theorem Bytes_nd (n : Int) : ICp (0 ≤ n ∧ n ≤ 65536) 14 [.one .tape, iv n] (ND (fun l : List Int => (l.length : Int) = n ∧ InB l) by_) := fun hn => (Bytes_V n _).2 (by
  (delta Bytes_V; dsimp only [mkV])
  (repeat' (first | with_reducible refine brn_nd (fun h => ?_) (fun h => ?_) | with_reducible refine brn_d (fun h => ?_) (fun h => ?_) | with_reducible refine brn_nn (fun h => ?_) (fun h => ?_) | with_reducible refine brn_nb (fun h => ?_) (fun h => ?_) | with_reducible refine Brn.mk (fun h => ?_) (fun h => ?_) | with_reducible refine Chk.mk ?_ ?_ | with_reducible refine Bth.mk ?_ ?_ | with_reducible refine Fct.mk (fun hf => ?_)))
  refine up2 (fun l z => (l.length : Int) = z ∧ InB l) (by omega) ⟨rfl, fun z hz => by cases hz⟩ (fun I μ l z h0 h1 ⟨hl, hi⟩ nx => ?_) (fun I μ l hj => ⟨l, hj, rfl⟩)
  have nx2 : ∀ y : Int, 0 ≤ y ∧ y ≤ 255 → I (l ++ [y]) (z + 1) ∧ μ (l ++ [y]) (z + 1) < μ l z := fun y hy => nx _ ⟨by simp; omega, InB_snoc hi hy⟩
  have hb : ∀ (s : ByteArray) (i : Int), 0 ≤ byteAt s i ∧ byteAt s i ≤ 255 := byteAt_in
  repeat' (first | with_reducible refine brn_d (fun h => ?_) (fun h => ?_) | with_reducible refine Chk.mk ?_ ?_ | intro _)
  all_goals first
    | omega
    | (unfold InI; omega)
    | exact nx2 _ (hb _ _)
    | exact nx2 _ (by omega)
    | (simp; omega)
    | (rename_i hx; exact ⟨hx.1, Int.lt_of_lt_of_le hx.2 (by decide)⟩)
    | trace_state)
noncomputable def Clone_V (l : List Int) (Q : SV → Prop) : Σ' P : Prop, (P → ICt 50 [.one (.d (.list (List.map irow_u8 l)))] Q) := by
  apply mkV; intro hP
  refine ic_wk (K 8) Try.func50 rfl rfl rfl rfl (fun w0 => ?_)
  repeat' (first
    | ((fail_if_success (have hTest : Hld False := hP)); (have hq := chk_c hP); (replace hP := chk_p hP))
    | (with_reducible (first | apply c_seq | apply c_rg | apply j_nil | apply q_n | apply c_ret | apply c_sk | apply q_r))
    | ((with_reducible apply (v_bs0 (irow_u8))); exact rfl; exact rfl; exact rfl; exact rfl)
    | ((with_reducible apply v_eqnil); exact rfl; exact rfl; exact rfl; exact rfl; (exact hP); clear hP; intro x hx hP)
    | ((with_reducible apply j_v); exact rfl; exact rfl)
    | ((with_reducible apply (v_ap (irow_u8))); exact rfl; exact rfl; exact rfl; exact rfl; exact rfl; exact rfl; exact rfl; (first | exact rfl); exact rfl; exact rfl; exact rfl; (apply src_d; exact rfl; (intro row hrow; obtain ⟨q, _, rfl⟩ := List.mem_map.1 hrow; rfl)); (first | exact rfl); exact rfl; exact rfl; exact rfl; (apply chk_c; exact hP; (first | skip)))
    | ((with_reducible apply r_g); exact rfl; (· repeat' (first | exact True.intro | refine And.intro ?_ ?_ | (show (_ : Nat) = _; (first | exact (List.length_map _).symm)))); (exact hP.out))
    | ((with_reducible apply v_if); exact rfl; (exact hP); all_goals (clear hP; intro hc hP)))
theorem Clone_ic (l : List Int) : ICp (l.length ≤ 1000000000) 50 [by_ l] (fun v => v = by_ l) := fun h => (Clone_V l _).2 (by
  (delta Clone_V; dsimp only [mkV])
  (repeat' (first | with_reducible refine brn_nd (fun h => ?_) (fun h => ?_) | with_reducible refine brn_d (fun h => ?_) (fun h => ?_) | with_reducible refine brn_nn (fun h => ?_) (fun h => ?_) | with_reducible refine brn_nb (fun h => ?_) (fun h => ?_) | with_reducible refine Brn.mk (fun h => ?_) (fun h => ?_) | with_reducible refine Chk.mk ?_ ?_ | with_reducible refine Bth.mk ?_ ?_ | with_reducible refine Fct.mk (fun hf => ?_) | (intro _) | (refine up0 (by omega) (by omega) (fun I μ z hz0 hz1 nx => ?_) (fun I μ => ?_)) | with_reducible assumption | (refine And.intro ?_ ?_)))
  all_goals simp_all)
def num3 (a b c : Int) : Int := a * 65536 + b * 256 + c
theorem bits_or_nat {m n : Nat} (hm : m < 16777216) (hn : n < 16777216) : bits .or .i64 (m : Int) (n : Int) = ((m ||| n : Nat) : Int) := by
  have h0 : bits .or .i64 (m : Int) (n : Int) = IntKind.i64.wrap ((BitVec.ofInt 64 (m : Int) ||| BitVec.ofInt 64 (n : Int)).toNat : Int) := rfl
  have e1 : (BitVec.ofInt 64 (m : Int)).toNat = m := by rw [BitVec.toNat_ofInt]; omega
  have e2 : (BitVec.ofInt 64 (n : Int)).toNat = n := by rw [BitVec.toNat_ofInt]; omega
  rw [h0, BitVec.toNat_or, e1, e2]
  have h3 : m ||| n < 2 ^ 24 := Nat.or_lt_two_pow (by omega) (by omega)
  exact Go.IntWalk.i64_in _ (by omega)
theorem or3 {a b c : Int} (ha : 0 ≤ a ∧ a ≤ 255) (hb : 0 ≤ b ∧ b ≤ 255) (hc : 0 ≤ c ∧ c ≤ 255) : bits .or .i64 (bits .or .i64 (IntKind.i64.wrap (a * 2 ^ min (Int.toNat 16) IntKind.i64.bits)) (IntKind.i64.wrap (b * 2 ^ min (Int.toNat 8) IntKind.i64.bits))) c = num3 a b c := by
  obtain ⟨a, rfl⟩ : ∃ n : Nat, a = n := ⟨a.toNat, by omega⟩
  obtain ⟨b, rfl⟩ : ∃ n : Nat, b = n := ⟨b.toNat, by omega⟩
  obtain ⟨c, rfl⟩ : ∃ n : Nat, c = n := ⟨c.toNat, by omega⟩
  have e1 : IntKind.i64.wrap ((a : Int) * 2 ^ min (Int.toNat 16) IntKind.i64.bits) = ((a * 65536 : Nat) : Int) := by
    have : ((a : Int) * 2 ^ min (Int.toNat 16) IntKind.i64.bits) = ((a * 65536 : Nat) : Int) := by
      rw [show ((2 : Int) ^ min (Int.toNat 16) IntKind.i64.bits) = 65536 from by decide]; omega
    rw [this]; exact Go.IntWalk.i64_in _ (by omega)
  have e2 : IntKind.i64.wrap ((b : Int) * 2 ^ min (Int.toNat 8) IntKind.i64.bits) = ((b * 256 : Nat) : Int) := by
    have : ((b : Int) * 2 ^ min (Int.toNat 8) IntKind.i64.bits) = ((b * 256 : Nat) : Int) := by
      rw [show ((2 : Int) ^ min (Int.toNat 8) IntKind.i64.bits) = 256 from by decide]; omega
    rw [this]; exact Go.IntWalk.i64_in _ (by omega)
  have o1 : a * 65536 ||| b * 256 = a * 65536 + b * 256 := by
    have := Nat.shiftLeft_add_eq_or_of_lt (b := b * 256) (i := 16) (by omega) a
    rw [Nat.shiftLeft_eq] at this
    exact this.symm
  have o2 : (a * 65536 + b * 256) ||| c = a * 65536 + b * 256 + c := by
    have := Nat.shiftLeft_add_eq_or_of_lt (b := c) (i := 8) (by omega) (a * 256 + b)
    rw [Nat.shiftLeft_eq] at this
    have e : (a * 256 + b) * 2 ^ 8 = a * 65536 + b * 256 := by omega
    rw [e] at this
    exact this.symm
  rw [e1, e2, bits_or_nat (by omega) (by omega), o1, bits_or_nat (by omega) (by omega), o2]
  unfold num3; omega
def threeS (n : Int) : List Int := [n / 65536 % 256, n / 256 % 256, n % 256]
theorem shr16 (n : Int) : n.fdiv (2 ^ min (Int.toNat 16) IntKind.i64.bits) = n / 65536 := Int.fdiv_eq_ediv_of_nonneg n (by decide)
theorem shr8 (n : Int) : n.fdiv (2 ^ min (Int.toNat 8) IntKind.i64.bits) = n / 256 := Int.fdiv_eq_ediv_of_nonneg n (by decide)
noncomputable def three_V (n : Int) (Q : SV → Prop) : Σ' P : Prop, (P → ICt 62 [.one (.d (.int .i64 n))] Q) := by
  apply mkV; intro hP
  refine ic_wk (K 12) Try.func62 rfl rfl rfl rfl (fun w0 => ?_)
  apply (v_kint (x := 0)); exact rfl; exact hP; clear hP; intro hP
  repeat' (first
    | (with_reducible (first | apply c_seq | apply c_rg | apply j_nil | apply q_n | apply c_ret))
    | ((with_reducible apply (v_conv (t := 3) (t' := 5) .u8)); exact rfl; kernel_rfl; exact rfl; exact wr_u8t)
    | ((with_reducible apply v_shr); exact rfl; exact rfl; exact rfl; (first | decide); exact rfl)
    | ((with_reducible apply j_v); exact rfl; exact rfl)
    | ((with_reducible apply (v_bsf (d := 11) (irow_u8))); exact rfl; exact rfl; exact (row_cons (irow_u8_mk _) (row_cons (irow_u8_mk _) (row_cons (irow_u8_mk _) row_nil))); exact rfl; exact rfl)
    | ((with_reducible apply r_g); exact rfl; (· repeat' (first | exact True.intro | refine And.intro ?_ ?_)); (exact hP.out)))
theorem three_ic (n : Int) : ICt 62 [iv n] (fun v => v = by_ (threeS n)) := (three_V n _).2 (by
  (delta three_V; dsimp only [mkV])
  (repeat' (first | with_reducible refine brn_nd (fun h => ?_) (fun h => ?_) | with_reducible refine brn_d (fun h => ?_) (fun h => ?_) | with_reducible refine brn_nn (fun h => ?_) (fun h => ?_) | with_reducible refine brn_nb (fun h => ?_) (fun h => ?_) | with_reducible refine Brn.mk (fun h => ?_) (fun h => ?_) | with_reducible refine Chk.mk ?_ ?_ | with_reducible refine Bth.mk ?_ ?_ | with_reducible refine Fct.mk (fun hf => ?_)))
  rw [shr16, shr8]; rfl)

def numI (b : List Int) : Int := num3 (gt b 0) (gt b 1) (gt b 2)
noncomputable def number_V (b : List Int) (Q : SV → Prop) : Σ' P : Prop, (P → ICt 89 [.one (.d (.list (List.map irow_u8 b)))] Q) := by
  apply mkV; intro hP
  refine ic_wk (K 19) Try.func89 rfl rfl rfl rfl (fun w0 => ?_)
  apply (v_klist (x := 0)); exact rfl; exact hP; clear hP; intro hP
  repeat' (first
    | (with_reducible (first | apply c_seq | apply c_rg | apply j_nil | apply q_n | apply c_ret))
    | ((with_reducible apply j_v); exact rfl; exact rfl)
    | ((with_reducible apply r_g); exact rfl; (· repeat' (first | exact True.intro | refine And.intro ?_ ?_)); (exact hP.out))
    | ((with_reducible refine v_rgat (i := 1) ?_); (refine n_start (by kernel_rfl) ?_; (refine n_quiet none #[true, true, true, true, true, true, true, true, true, true, true, true, true, true, true, true, true] [0, 1, 2, 3, 4, 5, 6, 7, 8, 9, 10, 11, 12, 13, 14, 15, 16] 0 rfl ?_; (repeat' (first | ((fail_if_success (have hTest : Hld False := hP)); (have hq := chk_c hP); (replace hP := chk_p hP)) | ((with_reducible apply (d_e (some []))); exact rfl; exact rfl; kernel_rfl; kernel_rfl; exact rfl; exact rfl; (first | ((with_reducible apply e_v); exact rfl) | ((with_reducible apply f_ia); exact rfl; exact rfl; exact rfl; (case inst => exact inferInstance); exact rfl; exact rfl; (apply chk_c; exact hP; (first | skip))) | ((with_reducible apply (f_conv (t := 5) (t' := 3) .i64)); kernel_rfl; exact rfl; (with_reducible apply wr_i64; (apply chk_c; exact hP; (first | skip)))) | ((with_reducible apply f_shl); exact rfl; exact rfl; (first | decide); exact rfl))) | ((with_reducible apply d_leaf); exact (by decide +kernel)))); all_goals ((with_reducible apply n_doneZ); exact rfl; exact (by decide +kernel))))))
theorem number_ic (b : List Int) : ICp (3 ≤ b.length) 89 [by_ b] (fun v => v = iv (numI b)) := fun hl => (number_V b _).2 (by
  (delta number_V; dsimp only [mkV])
  (repeat' (first | with_reducible refine brn_nd (fun h => ?_) (fun h => ?_) | with_reducible refine brn_d (fun h => ?_) (fun h => ?_) | with_reducible refine brn_nn (fun h => ?_) (fun h => ?_) | with_reducible refine brn_nb (fun h => ?_) (fun h => ?_) | with_reducible refine Brn.mk (fun h => ?_) (fun h => ?_) | with_reducible refine Chk.mk ?_ ?_ | with_reducible refine Bth.mk ?_ ?_ | with_reducible refine Fct.mk (fun hf => ?_)))
  all_goals
    have hb : InB b := InB_ok (by assumption : b.length ≤ _ ∧ _).2
    have b0 := InB_gt hb (i := 0) (by omega) (by omega)
    have b1 := InB_gt hb (i := 1) (by omega) (by omega)
    have b2 := InB_gt hb (i := 2) (by omega) (by omega)
  all_goals first | omega | (unfold InI; omega) | skip
  rw [or3 b0 b1 b2]
  rfl)
end Go.Proofs.Ytbnmcdnkeipdhaa
