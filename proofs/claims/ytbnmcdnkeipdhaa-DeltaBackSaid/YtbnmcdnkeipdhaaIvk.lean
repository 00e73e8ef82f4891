/- The steps of a walk on ideal states: one rule for each kind of operation. -/
import Derived.Test.YtbnmcdnkeipdhaaIvj
set_option linter.all false
namespace Go.Proofs.Ytbnmcdnkeipdhaa
open Go.RowKit Go.Shelf

/-- The function walked, and where. -/
structure Wk where
  P : Program
  T : TypeId
  N : Nat
  τ : List TyI
  ok : tabB P 0 τ = true
@[irreducible] def rg (k : Wk) (w0 : Org) (ops : Array Oper) (l : List Oper) (Q : St → Prop) (s : St) : Prop := irg k.P k.T k.N w0 ops l Q s
@[irreducible] def wk (k : Wk) (w0 : Org) (c : Code) (Q : Exit → St → Prop) (s : St) : Prop := iwp k.P k.T k.N w0 c Q s
theorem rgI {k : Wk} {w0 : Org} {ops : Array Oper} {l : List Oper} {Q : St → Prop} {s : St} (h : irg k.P k.T k.N w0 ops l Q s) : rg k w0 ops l Q s := by unfold rg; exact h
theorem rgO {k : Wk} {w0 : Org} {ops : Array Oper} {l : List Oper} {Q : St → Prop} {s : St} (h : rg k w0 ops l Q s) : irg k.P k.T k.N w0 ops l Q s := by unfold rg at h; exact h
theorem wkI {k : Wk} {w0 : Org} {c : Code} {Q : Exit → St → Prop} {s : St} (h : iwp k.P k.T k.N w0 c Q s) : wk k w0 c Q s := by unfold wk; exact h
theorem wkO {k : Wk} {w0 : Org} {c : Code} {Q : Exit → St → Prop} {s : St} (h : wk k w0 c Q s) : iwp k.P k.T k.N w0 c Q s := by unfold wk at h; exact h
/-- Behind x comes y. -/
@[irreducible] def kThen (k : Wk) (w0 : Org) (y : Code) (Q : Exit → St → Prop) : Exit → St → Prop := IThen k.P k.T k.N w0 y Q
@[irreducible] def kBlock (id : Nat) (Q : Exit → St → Prop) : Exit → St → Prop := IBlock id Q
@[irreducible] def kRound (Q : Exit → St → Prop) (R : St → Prop) : Exit → St → Prop := IRound Q R
section
variable {k : Wk} {w0 : Org} {ops : Array Oper} {l : List Oper} {Q : St → Prop} {s : St} {d t t' : Nat} {x y : Operand} {p : String} {af : Array Edge}
theorem nlt {a b : Nat} (h : Nat.blt a b = true) : a < b := Nat.lt_of_lt_of_le (Nat.lt_succ_self _) (Nat.le_of_ble_eq_true h)
theorem ope_cg {P : Program} {T : TypeId} {N : Nat} {w0 : Org} {s : St} {o : Oper} {v v' : SV} (h : OpE P T N w0 s o v) (e : v = v') : OpE P T N w0 s o v' := e ▸ h
theorem i_nil (h : Q s) : rg k w0 ops [] Q s := rgI (irg_nil h)
/-! guards -/
theorem i_gy {o : Op} {dst : Option Nat} {j q : Nat} {w c : Bool} (hj : (ops[j]?).bind (·.dst) = some q) (hv : getF s.F q = .one (.d (.bool c))) (hc : c = w) (h : rg k w0 ops (⟨dst, o, t, p, af, none⟩ :: l) Q s) : rg k w0 ops (⟨dst, o, t, p, af, some (j, w)⟩ :: l) Q s := by
  refine rgI ?_
  intro g a w' hs Q' hQ
  have := rgO h g a w' hs Q' hQ
  have hy := yielded_of hs hj hv
  unfold wpList at this ⊢
  rw [if_pos (by simp [Region.wanted])] at this
  rw [if_pos (by simp [Region.wanted, hy, hc])]
  exact this
theorem i_gn {o : Op} {j q : Nat} {c : Bool} (hj : (ops[j]?).bind (·.dst) = some q) (hv : getF s.F q = .one (.d (.bool c))) (hc : c = false) (hN : Nat.blt d k.N = true) (h : rg k w0 ops l Q (s.put d (.tup []))) : rg k w0 ops (⟨some d, o, t, p, af, some (j, true)⟩ :: l) Q s :=
  rgI (irg_gno rfl hj hv hc rfl (nlt hN) (rgO h))
theorem i_gm {o : Op} {j q : Nat} {c : Bool} (hj : (ops[j]?).bind (·.dst) = some q) (hv : getF s.F q = .one (.d (.bool c))) (hc : c = true) (hN : Nat.blt d k.N = true) (h : rg k w0 ops l Q (s.put d (.tup []))) : rg k w0 ops (⟨some d, o, t, p, af, some (j, false)⟩ :: l) Q s :=
  rgI (irg_gno rfl hj hv hc rfl (nlt hN) (rgO h))
theorem i_gz {o : Op} {j q : Nat} {w : Bool} (hj : (ops[j]?).bind (·.dst) = some q) (hv : getF s.F q = .tup []) (hN : Nat.blt d k.N = true) (h : rg k w0 ops l Q (s.put d (.tup []))) : rg k w0 ops (⟨some d, o, t, p, af, some (j, w)⟩ :: l) Q s :=
  rgI (irg_gz rfl hj hv rfl (nlt hN) (rgO h))
theorem i_gs {o : Op} {dst : Option Nat} {j q : Nat} {w : Bool} (c : Bool) (hj : (ops[j]?).bind (·.dst) = some q) (hv : getF s.F q = .one (.d (.bool c))) (h1 : c = true → rg k w0 ops (⟨dst, o, t, p, af, some (j, w)⟩ :: l) Q s) (h2 : c = false → rg k w0 ops (⟨dst, o, t, p, af, some (j, w)⟩ :: l) Q s) : rg k w0 ops (⟨dst, o, t, p, af, some (j, w)⟩ :: l) Q s :=
  rgI (irg_split c (fun e => rgO (h1 e)) (fun e => rgO (h2 e)))
theorem i_mv1 {c : CV} (hN : Nat.blt d k.N = true) (hx : s.ev x = .one c) (h : rg k w0 ops l Q (s.put d (.one c))) : rg k w0 ops (⟨some d, .move x, t, p, af, none⟩ :: l) Q s :=
  rgI (irg_e rfl rfl (nlt hN) (hx ▸ ope_move rfl) (rgO h))
theorem i_mv2 {cs : List CV} (hN : Nat.blt d k.N = true) (hx : s.ev x = .agg cs) (h : rg k w0 ops l Q (s.put d (.agg cs))) : rg k w0 ops (⟨some d, .move x, t, p, af, none⟩ :: l) Q s :=
  rgI (irg_e rfl rfl (nlt hN) (hx ▸ ope_move rfl) (rgO h))
theorem i_mv3 {vs : List SV} (hN : Nat.blt d k.N = true) (hx : s.ev x = .tup vs) (h : rg k w0 ops l Q (s.put d (.tup vs))) : rg k w0 ops (⟨some d, .move x, t, p, af, none⟩ :: l) Q s :=
  rgI (irg_e rfl rfl (nlt hN) (hx ▸ ope_move rfl) (rgO h))
theorem i_mv0 (hN : Nat.blt d k.N = true) (hx : s.ev x = .u) (h : rg k w0 ops l Q (s.put d .u)) : rg k w0 ops (⟨some d, .move x, t, p, af, none⟩ :: l) Q s :=
  rgI (irg_e rfl rfl (nlt hN) (hx ▸ ope_move rfl) (rgO h))
theorem i_as1 {c : CV} (hN : Nat.blt d k.N = true) (hx : s.ev x = .one c) (h : rg k w0 ops l Q (s.put d (.one c))) : rg k w0 ops (⟨some d, .assign x, t, p, af, none⟩ :: l) Q s :=
  rgI (irg_e rfl rfl (nlt hN) (hx ▸ ope_assign rfl) (rgO h))
theorem i_as2 {cs : List CV} (hN : Nat.blt d k.N = true) (hx : s.ev x = .agg cs) (h : rg k w0 ops l Q (s.put d (.agg cs))) : rg k w0 ops (⟨some d, .assign x, t, p, af, none⟩ :: l) Q s :=
  rgI (irg_e rfl rfl (nlt hN) (hx ▸ ope_assign rfl) (rgO h))
theorem i_as3 {vs : List SV} (hN : Nat.blt d k.N = true) (hx : s.ev x = .tup vs) (h : rg k w0 ops l Q (s.put d (.tup vs))) : rg k w0 ops (⟨some d, .assign x, t, p, af, none⟩ :: l) Q s :=
  rgI (irg_e rfl rfl (nlt hN) (hx ▸ ope_assign rfl) (rgO h))
theorem i_as0 (hN : Nat.blt d k.N = true) (hx : s.ev x = .u) (h : rg k w0 ops l Q (s.put d .u)) : rg k w0 ops (⟨some d, .assign x, t, p, af, none⟩ :: l) Q s :=
  rgI (irg_e rfl rfl (nlt hN) (hx ▸ ope_assign rfl) (rgO h))
theorem i_pt {c : Operand} {b : Bool} {v : CV} (hN : Nat.blt d k.N = true) (hc : s.ev c = .one (.d (.bool b))) (hb : b = true) (hx : s.ev x = .one v) (h : rg k w0 ops l Q (s.put d (.one v))) : rg k w0 ops (⟨some d, .pick c x y, t, p, af, none⟩ :: l) Q s :=
  rgI (irg_e rfl rfl (nlt hN) (hx ▸ ope_pick_t rfl (hb ▸ hc)) (rgO h))
theorem i_pf {c : Operand} {b : Bool} {v : CV} (hN : Nat.blt d k.N = true) (hc : s.ev c = .one (.d (.bool b))) (hb : b = false) (hx : s.ev y = .one v) (h : rg k w0 ops l Q (s.put d (.one v))) : rg k w0 ops (⟨some d, .pick c x y, t, p, af, none⟩ :: l) Q s :=
  rgI (irg_e rfl rfl (nlt hN) (hx ▸ ope_pick_f rfl (hb ▸ hc)) (rgO h))
theorem i_ld_rp1 {cs : List CV} {c : CV} (hN : Nat.blt d k.N = true) (hx : s.ev x = .one (.rp cs)) (ht : (tyAt k.τ t').isOne = true) (hc : cs[0]? = some c) (h : rg k w0 ops l Q (s.put d (.one c))) : rg k w0 ops (⟨some d, .load t' x, t, p, af, none⟩ :: l) Q s :=
  rgI (irg_e rfl rfl (nlt hN) (ope_load_rp1 rfl hx (tab_one k.ok ht) hc) (rgO h))
theorem i_ld_rpn {cs : List CV} {n fs zs} (hN : Nat.blt d k.N = true) (hx : s.ev x = .one (.rp cs)) (ht : tyAt k.τ t' = .st n fs zs) (hc : Nat.ble n cs.length = true) (h : rg k w0 ops l Q (s.put d (.agg (cs.take n)))) : rg k w0 ops (⟨some d, .load t' x, t, p, af, none⟩ :: l) Q s :=
  rgI (irg_e rfl rfl (nlt hN) (ope_load_rpn rfl hx (tab_agg k.ok ht) (Nat.le_of_ble_eq_true hc)) (rgO h))
theorem i_ld_ref1 {r off : Nat} {tt : Nat} {cs : List CV} {c : CV} (hN : Nat.blt d k.N = true) (hx : s.ev x = .one (.ref r off)) (hH : getH s.H r = .blk tt cs) (ht : (tyAt k.τ t').isOne = true) (hc : cs[off]? = some c) (h : rg k w0 ops l Q (s.put d (.one c))) : rg k w0 ops (⟨some d, .load t' x, t, p, af, none⟩ :: l) Q s :=
  rgI (irg_e rfl rfl (nlt hN) (ope_load_ref1 rfl hx hH (tab_one k.ok ht) hc) (rgO h))
theorem i_ld_refn {r off tt : Nat} {cs : List CV} {n fs zs} (hN : Nat.blt d k.N = true) (hx : s.ev x = .one (.ref r off)) (hH : getH s.H r = .blk tt cs) (ht : tyAt k.τ t' = .st n fs zs) (hc : Nat.ble (off + n) cs.length = true) (h : rg k w0 ops l Q (s.put d (.agg ((cs.drop off).take n)))) : rg k w0 ops (⟨some d, .load t' x, t, p, af, none⟩ :: l) Q s :=
  rgI (irg_e rfl rfl (nlt hN) (ope_load_refn rfl hx hH (tab_agg k.ok ht) (Nat.le_of_ble_eq_true hc)) (rgO h))
theorem i_ld_refa {r off tt : Nat} {cs : List CV} {n len e sz zs} (hN : Nat.blt d k.N = true) (hx : s.ev x = .one (.ref r off)) (hH : getH s.H r = .blk tt cs) (ht : tyAt k.τ t' = .ar n len e sz zs) (hc : Nat.ble (off + n) cs.length = true) (h : rg k w0 ops l Q (s.put d (.agg ((cs.drop off).take n)))) : rg k w0 ops (⟨some d, .load t' x, t, p, af, none⟩ :: l) Q s :=
  rgI (irg_e rfl rfl (nlt hN) (ope_load_refn rfl hx hH (tab_agga k.ok ht) (Nat.le_of_ble_eq_true hc)) (rgO h))
theorem i_ld_el1 {r i j sz e : Nat} {rows : List (List Cell)} {row : List Cell} {c : Cell} (hN : Nat.blt d k.N = true) (hx : s.ev x = .one (.el r i j sz)) (hH : getH s.H r = .arr e sz rows) (ht : (tyAt k.τ t').isOne = true) (hi : rows[i]? = some row) (hj : row[j]? = some c) (h : rg k w0 ops l Q (s.put d (.one (.d c)))) : rg k w0 ops (⟨some d, .load t' x, t, p, af, none⟩ :: l) Q s :=
  rgI (irg_e rfl rfl (nlt hN) (ope_load_el1 rfl hx hH (tab_one k.ok ht) hi hj) (rgO h))
theorem i_ld_eln {r i j sz e : Nat} {rows : List (List Cell)} {row : List Cell} {n fs zs} (hN : Nat.blt d k.N = true) (hx : s.ev x = .one (.el r i j sz)) (hH : getH s.H r = .arr e sz rows) (ht : tyAt k.τ t' = .st n fs zs) (hi : rows[i]? = some row) (hj : j + n ≤ row.length) (h : rg k w0 ops l Q (s.put d (.agg (((row.drop j).take n).map .d)))) : rg k w0 ops (⟨some d, .load t' x, t, p, af, none⟩ :: l) Q s :=
  rgI (irg_e rfl rfl (nlt hN) (ope_load_eln rfl hx hH (tab_agg k.ok ht) hi hj) (rgO h))
theorem i_fa_ref {r off f n : Nat} {fs zs} {e : Nat × Nat × Nat} (hN : Nat.blt d k.N = true) (hx : s.ev x = .one (.ref r off)) (ht : tyAt k.τ t' = .st n fs zs) (hf : fs[f]? = some e) (h : rg k w0 ops l Q (s.put d (.one (.ref r (off + e.1))))) : rg k w0 ops (⟨some d, .fieldAddr t' x f, t, p, af, none⟩ :: l) Q s :=
  rgI (irg_e rfl rfl (nlt hN) (ope_fieldAddr_ref rfl hx (tab_fld k.ok ht hf).1) (rgO h))
theorem i_fa_el {r i j sz f n : Nat} {fs zs} {e : Nat × Nat × Nat} (hN : Nat.blt d k.N = true) (hx : s.ev x = .one (.el r i j sz)) (ht : tyAt k.τ t' = .st n fs zs) (hf : fs[f]? = some e) (h : rg k w0 ops l Q (s.put d (.one (.el r i (j + e.1) sz)))) : rg k w0 ops (⟨some d, .fieldAddr t' x f, t, p, af, none⟩ :: l) Q s :=
  rgI (irg_e rfl rfl (nlt hN) (ope_fieldAddr_el rfl hx (tab_fld k.ok ht hf).1) (rgO h))
theorem i_fa_rp {cs : List CV} {f n : Nat} {fs zs} {e : Nat × Nat × Nat} (hN : Nat.blt d k.N = true) (hx : s.ev x = .one (.rp cs)) (ht : tyAt k.τ t' = .st n fs zs) (hf : fs[f]? = some e) (h : rg k w0 ops l Q (s.put d (.one (.rp (cs.drop e.1))))) : rg k w0 ops (⟨some d, .fieldAddr t' x f, t, p, af, none⟩ :: l) Q s :=
  rgI (irg_e rfl rfl (nlt hN) (ope_fieldAddr_rp rfl hx (tab_fld k.ok ht hf).1) (rgO h))
theorem i_fd1 {cs : List CV} {c : CV} {f n : Nat} {fs zs} {e : Nat × Nat × Nat} (hN : Nat.blt d k.N = true) (hx : s.ev x = .agg cs) (ht : tyAt k.τ t' = .st n fs zs) (hf : fs[f]? = some e) (h1 : (tyAt k.τ e.2.1).isOne = true) (hc : cs[e.1]? = some c) (h : rg k w0 ops l Q (s.put d (.one c))) : rg k w0 ops (⟨some d, .field t' x f, t, p, af, none⟩ :: l) Q s :=
  rgI (irg_e rfl rfl (nlt hN) (ope_field1 rfl hx (tab_fld k.ok ht hf).2 (tab_one k.ok h1) hc) (rgO h))
theorem i_fdn {cs : List CV} {f n m : Nat} {fs zs fs2 zs2} {e : Nat × Nat × Nat} (hN : Nat.blt d k.N = true) (hx : s.ev x = .agg cs) (ht : tyAt k.τ t' = .st n fs zs) (hf : fs[f]? = some e) (h1 : tyAt k.τ e.2.1 = .st m fs2 zs2) (hc : Nat.ble (e.1 + m) cs.length = true) (h : rg k w0 ops l Q (s.put d (.agg ((cs.drop e.1).take m)))) : rg k w0 ops (⟨some d, .field t' x f, t, p, af, none⟩ :: l) Q s :=
  rgI (irg_e rfl rfl (nlt hN) (ope_fieldn rfl hx (tab_fld k.ok ht hf).2 (tab_agg k.ok h1) (Nat.le_of_ble_eq_true hc)) (rgO h))
theorem map_get {α β : Type} {f : α → β} {l : List α} {i : Nat} (h : i < l.length) : (l.map f)[i]? = some (f l[i]) := by simp [h]
theorem i_ia {e sz by_ i : Nat} {rows : List (List Cell)} {row : List Cell} {kk : IntKind} {m : Int} (hN : Nat.blt d k.N = true) (hx : s.ev x = .one (.d (.list rows))) (hy : s.ev y = .one (.d (.int kk m))) (ht : tyAt k.τ t' = .sl e sz by_) (h0 : 0 ≤ m) (hm : m.toNat = i) (hi : rows[i]? = some row) (hl : row.length = sz) (hz : Nat.blt 0 sz = true) (h : rg k w0 ops l Q (s.put d (.one (.rp (row.map .d))))) : rg k w0 ops (⟨some d, .indexAddr t' x y, t, p, af, none⟩ :: l) Q s :=
  rgI (irg_e rfl rfl (nlt hN) (ope_indexAddr_d rfl hx hy (tab_sl k.ok ht) h0 (hm ▸ hi) hl (nlt hz)) (rgO h))
theorem i_ia_sl {r n e sz by_ i : Nat} {kk : IntKind} {m : Int} (hN : Nat.blt d k.N = true) (hx : s.ev x = .one (.sl r n sz)) (hy : s.ev y = .one (.d (.int kk m))) (ht : tyAt k.τ t' = .sl e sz by_) (h0 : 0 ≤ m) (hi : m < (n : Int)) (hm : m.toNat = i) (h : rg k w0 ops l Q (s.put d (.one (.el r i 0 sz)))) : rg k w0 ops (⟨some d, .indexAddr t' x y, t, p, af, none⟩ :: l) Q s :=
  rgI (irg_e rfl rfl (nlt hN) (hm ▸ ope_indexAddr_sl rfl hx hy (tab_sl k.ok ht) h0 hi) (rgO h))
theorem i_ia_ar {r off n len e sz i : Nat} {zs} {kk : IntKind} {m : Int} (hN : Nat.blt d k.N = true) (hx : s.ev x = .one (.ref r off)) (hy : s.ev y = .one (.d (.int kk m))) (ht : tyAt k.τ t' = .ar n len e sz zs) (h0 : 0 ≤ m) (hi : m < (len : Int)) (hm : m.toNat = i) (h : rg k w0 ops l Q (s.put d (.one (.ref r (off + i * sz))))) : rg k w0 ops (⟨some d, .indexAddr t' x y, t, p, af, none⟩ :: l) Q s :=
  rgI (irg_e rfl rfl (nlt hN) (hm ▸ ope_indexAddr_arr rfl hx hy (tab_ar k.ok ht) h0 hi) (rgO h))
theorem i_ix1 {n len e i : Nat} {zs} {cs : List CV} {c : CV} {kk : IntKind} {m : Int} (hN : Nat.blt d k.N = true) (hx : s.ev x = .agg cs) (hy : s.ev y = .one (.d (.int kk m))) (ht : tyAt k.τ t' = .ar n len e 1 zs) (he : (tyAt k.τ e).isOne = true) (h0 : 0 ≤ m) (hi : m < (len : Int)) (hm : m.toNat = i) (hc : cs[i]? = some c) (h : rg k w0 ops l Q (s.put d (.one c))) : rg k w0 ops (⟨some d, .index t' x y, t, p, af, none⟩ :: l) Q s :=
  rgI (irg_e rfl rfl (nlt hN) (ope_index1 rfl hx hy (tab_ar k.ok ht) (tab_one k.ok he) h0 hi (hm ▸ hc)) (rgO h))
theorem i_ixn {n len e sz i : Nat} {zs fs2 zs2} {cs : List CV} {kk : IntKind} {m : Int} (hN : Nat.blt d k.N = true) (hx : s.ev x = .agg cs) (hy : s.ev y = .one (.d (.int kk m))) (ht : tyAt k.τ t' = .ar n len e sz zs) (he : tyAt k.τ e = .st sz fs2 zs2) (h0 : 0 ≤ m) (hi : m < (len : Int)) (hm : m.toNat = i) (hc : i * sz + sz ≤ cs.length) (h : rg k w0 ops l Q (s.put d (.agg ((cs.drop (i * sz)).take sz)))) : rg k w0 ops (⟨some d, .index t' x y, t, p, af, none⟩ :: l) Q s :=
  rgI (irg_e rfl rfl (nlt hN) (hm ▸ ope_indexn rfl hx hy (tab_ar k.ok ht) (tab_agg k.ok he) h0 hi (hm ▸ hc)) (rgO h))
theorem i_len {e n b : Nat} {rows : List (List Cell)} (hN : Nat.blt d k.N = true) (hx : s.ev x = .one (.d (.list rows))) (ht : tyAt k.τ t' = .sl e n b) (h : rg k w0 ops l Q (s.put d (.one (.d (.int .i64 (rows.length : Int)))))) : rg k w0 ops (⟨some d, .call { callee := .builtin .len, args := #[x], argTypes := #[t'] }, t, p, af, none⟩ :: l) Q s :=
  rgI (irg_e rfl rfl (nlt hN) (ope_len_d rfl hx (tab_sl k.ok ht)) (rgO h))
theorem len_map {α β : Type} (f : α → β) (l : List α) (n : Nat) (h : l.length = n) : (l.map f).length = n := by simp [h]
theorem i_lenm {α : Type} {f : α → List Cell} {xs : List α} {e n b : Nat} (hN : Nat.blt d k.N = true) (hx : s.ev x = .one (.d (.list (xs.map f)))) (ht : tyAt k.τ t' = .sl e n b) (h : rg k w0 ops l Q (s.put d (.one (.d (.int .i64 (xs.length : Int)))))) : rg k w0 ops (⟨some d, .call { callee := .builtin .len, args := #[x], argTypes := #[t'] }, t, p, af, none⟩ :: l) Q s :=
  rgI (irg_e rfl rfl (nlt hN) (ope_cg (ope_len_d rfl hx (tab_sl k.ok ht)) (by rw [List.length_map])) (rgO h))
theorem i_lens {r m sz e n b : Nat} (hN : Nat.blt d k.N = true) (hx : s.ev x = .one (.sl r m sz)) (ht : tyAt k.τ t' = .sl e n b) (h : rg k w0 ops l Q (s.put d (.one (.d (.int .i64 (m : Int)))))) : rg k w0 ops (⟨some d, .call { callee := .builtin .len, args := #[x], argTypes := #[t'] }, t, p, af, none⟩ :: l) Q s :=
  rgI (irg_e rfl rfl (nlt hN) (ope_len_sl rfl hx (tab_sl k.ok ht)) (rgO h))
theorem i_len0 {e n b : Nat} (hN : Nat.blt d k.N = true) (hx : s.ev x = .one .nil) (ht : tyAt k.τ t' = .sl e n b) (h : rg k w0 ops l Q (s.put d (.one (.d (.int .i64 0))))) : rg k w0 ops (⟨some d, .call { callee := .builtin .len, args := #[x], argTypes := #[t'] }, t, p, af, none⟩ :: l) Q s :=
  rgI (irg_e rfl rfl (nlt hN) (ope_len_nil rfl hx (tab_sl k.ok ht)) (rgO h))
theorem i_not {b : Bool} (hN : Nat.blt d k.N = true) (hx : s.ev x = .one (.d (.bool b))) (h : rg k w0 ops l Q (s.put d (.one (.d (.bool (!b)))))) : rg k w0 ops (⟨some d, .unOp .not t' x, t, p, af, none⟩ :: l) Q s :=
  rgI (irg_e rfl rfl (nlt hN) (ope_not rfl hx) (rgO h))
theorem i_nc {c : CV} (hN : Nat.blt d k.N = true) (hx : s.ev x = .one c) (hc : c.ptr = true) (h : rg k w0 ops l Q (s.put d (.one c))) : rg k w0 ops (⟨some d, .nilCheck x, t, p, af, none⟩ :: l) Q s :=
  rgI (irg_e rfl rfl (nlt hN) (ope_nilCheck rfl hx hc) (rgO h))
theorem i_ex {i : Nat} {vs : List SV} {c : CV} (hN : Nat.blt d k.N = true) (hx : s.ev x = .tup vs) (hv : vs[i]? = some (.one c)) (h : rg k w0 ops l Q (s.put d (.one c))) : rg k w0 ops (⟨some d, .extract x i, t, p, af, none⟩ :: l) Q s :=
  rgI (irg_e rfl rfl (nlt hN) (ope_extract rfl hx hv) (rgO h))
theorem i_exa {i : Nat} {vs : List SV} {cs : List CV} (hN : Nat.blt d k.N = true) (hx : s.ev x = .tup vs) (hv : vs[i]? = some (.agg cs)) (h : rg k w0 ops l Q (s.put d (.agg cs))) : rg k w0 ops (⟨some d, .extract x i, t, p, af, none⟩ :: l) Q s :=
  rgI (irg_e rfl rfl (nlt hN) (ope_extract rfl hx hv) (rgO h))
theorem i_mf {f : FuncId} {caps : Array Operand} {cs : List CV} (hN : Nat.blt d k.N = true) (hc : evL s caps.toList = some cs) (h : rg k w0 ops l Q (s.put d (.one (.clo f cs)))) : rg k w0 ops (⟨some d, .makeFunc (.func f) #[] caps, t, p, af, none⟩ :: l) Q s :=
  rgI (irg_e rfl rfl (nlt hN) (ope_makeFunc rfl hc) (rgO h))
theorem i_bd {n : Nat} {fs zs} {parts : Array (Nat × Operand)} {cp : List (Nat × List CV)} {r : List CV} (hN : Nat.blt d k.N = true) (ht : tyAt k.τ t' = .st n fs zs) (hp : partsOf s parts.toList = some cp) (hr : cfill (fs.map fun f => (f.1, f.2.2)) (zs.map Z.cv) cp = some r) (h : rg k w0 ops l Q (s.put d (.agg r))) : rg k w0 ops (⟨some d, .build t' parts, t, p, af, none⟩ :: l) Q s :=
  rgI (irg_e rfl rfl (nlt hN) (ope_build k.ok rfl ht hp hr) (rgO h))
theorem i_bda {n len e sz : Nat} {zs} {parts : Array (Nat × Operand)} {cp : List (Nat × List CV)} {r : List CV} (hN : Nat.blt d k.N = true) (ht : tyAt k.τ t' = .ar n len e sz zs) (hp : partsOf s parts.toList = some cp) (hr : cfill ((List.range len).map fun i => (i * sz, sz)) (zs.map Z.cv) cp = some r) (h : rg k w0 ops l Q (s.put d (.agg r))) : rg k w0 ops (⟨some d, .build t' parts, t, p, af, none⟩ :: l) Q s :=
  rgI (irg_e rfl rfl (nlt hN) (ope_build_arr k.ok rfl ht hp hr) (rgO h))
theorem i_add {kk : IntKind} {m n : Int} {r : Int} {tb : Nat} (hN : Nat.blt d k.N = true) (hx : s.ev x = .one (.d (.int kk m))) (hy : s.ev y = .one (.d (.int kk n))) (hr : kk.wrap (m + n) = r) (h : rg k w0 ops l Q (s.put d (.one (.d (.int kk r))))) : rg k w0 ops (⟨some d, .binOp .add t' x y tb, t, p, af, none⟩ :: l) Q s :=
  rgI (irg_e rfl rfl (nlt hN) (ope_add rfl hx hy hr) (rgO h))
theorem i_sub {kk : IntKind} {m n : Int} {r : Int} {tb : Nat} (hN : Nat.blt d k.N = true) (hx : s.ev x = .one (.d (.int kk m))) (hy : s.ev y = .one (.d (.int kk n))) (hr : kk.wrap (m - n) = r) (h : rg k w0 ops l Q (s.put d (.one (.d (.int kk r))))) : rg k w0 ops (⟨some d, .binOp .sub t' x y tb, t, p, af, none⟩ :: l) Q s :=
  rgI (irg_e rfl rfl (nlt hN) (ope_sub rfl hx hy hr) (rgO h))
theorem i_mul {kk : IntKind} {m n : Int} {r : Int} {tb : Nat} (hN : Nat.blt d k.N = true) (hx : s.ev x = .one (.d (.int kk m))) (hy : s.ev y = .one (.d (.int kk n))) (hr : kk.wrap (m * n) = r) (h : rg k w0 ops l Q (s.put d (.one (.d (.int kk r))))) : rg k w0 ops (⟨some d, .binOp .mul t' x y tb, t, p, af, none⟩ :: l) Q s :=
  rgI (irg_e rfl rfl (nlt hN) (ope_mul rfl hx hy hr) (rgO h))
theorem i_quo {kk : IntKind} {m n : Int} {r : Int} {tb : Nat} (hN : Nat.blt d k.N = true) (hx : s.ev x = .one (.d (.int kk m))) (hy : s.ev y = .one (.d (.int kk n))) (hn : n ≠ 0) (hr : kk.wrap (m.tdiv n) = r) (h : rg k w0 ops l Q (s.put d (.one (.d (.int kk r))))) : rg k w0 ops (⟨some d, .binOp .quo t' x y tb, t, p, af, none⟩ :: l) Q s :=
  rgI (irg_e rfl rfl (nlt hN) (ope_quo rfl hx hy hn hr) (rgO h))
theorem i_rem {kk : IntKind} {m n : Int} {r : Int} {tb : Nat} (hN : Nat.blt d k.N = true) (hx : s.ev x = .one (.d (.int kk m))) (hy : s.ev y = .one (.d (.int kk n))) (hn : n ≠ 0) (hr : m.tmod n = r) (h : rg k w0 ops l Q (s.put d (.one (.d (.int kk r))))) : rg k w0 ops (⟨some d, .binOp .rem t' x y tb, t, p, af, none⟩ :: l) Q s :=
  rgI (irg_e rfl rfl (nlt hN) (ope_rem rfl hx hy hn hr) (rgO h))
theorem i_and {kk : IntKind} {m n : Int} {r : Int} {tb : Nat} (hN : Nat.blt d k.N = true) (hx : s.ev x = .one (.d (.int kk m))) (hy : s.ev y = .one (.d (.int kk n))) (hr : bits .and kk m n = r) (h : rg k w0 ops l Q (s.put d (.one (.d (.int kk r))))) : rg k w0 ops (⟨some d, .binOp .and t' x y tb, t, p, af, none⟩ :: l) Q s :=
  rgI (irg_e rfl rfl (nlt hN) (ope_bits (.inl rfl) rfl hx hy hr) (rgO h))
theorem i_or {kk : IntKind} {m n : Int} {r : Int} {tb : Nat} (hN : Nat.blt d k.N = true) (hx : s.ev x = .one (.d (.int kk m))) (hy : s.ev y = .one (.d (.int kk n))) (hr : bits .or kk m n = r) (h : rg k w0 ops l Q (s.put d (.one (.d (.int kk r))))) : rg k w0 ops (⟨some d, .binOp .or t' x y tb, t, p, af, none⟩ :: l) Q s :=
  rgI (irg_e rfl rfl (nlt hN) (ope_bits (.inr (.inl rfl)) rfl hx hy hr) (rgO h))
theorem i_xor {kk : IntKind} {m n : Int} {r : Int} {tb : Nat} (hN : Nat.blt d k.N = true) (hx : s.ev x = .one (.d (.int kk m))) (hy : s.ev y = .one (.d (.int kk n))) (hr : bits .xor kk m n = r) (h : rg k w0 ops l Q (s.put d (.one (.d (.int kk r))))) : rg k w0 ops (⟨some d, .binOp .xor t' x y tb, t, p, af, none⟩ :: l) Q s :=
  rgI (irg_e rfl rfl (nlt hN) (ope_bits (.inr (.inr (.inl rfl))) rfl hx hy hr) (rgO h))
theorem i_anot {kk : IntKind} {m n : Int} {r : Int} {tb : Nat} (hN : Nat.blt d k.N = true) (hx : s.ev x = .one (.d (.int kk m))) (hy : s.ev y = .one (.d (.int kk n))) (hr : bits .andNot kk m n = r) (h : rg k w0 ops l Q (s.put d (.one (.d (.int kk r))))) : rg k w0 ops (⟨some d, .binOp .andNot t' x y tb, t, p, af, none⟩ :: l) Q s :=
  rgI (irg_e rfl rfl (nlt hN) (ope_bits (.inr (.inr (.inr rfl))) rfl hx hy hr) (rgO h))
theorem i_eq {kk : IntKind} {m n : Int} {tb : Nat} (hN : Nat.blt d k.N = true) (hx : s.ev x = .one (.d (.int kk m))) (hy : s.ev y = .one (.d (.int kk n))) (h : rg k w0 ops l Q (s.put d (.one (.d (.bool (decide (m = n))))))) : rg k w0 ops (⟨some d, .binOp .eql t' x y tb, t, p, af, none⟩ :: l) Q s :=
  rgI (irg_e rfl rfl (nlt hN) (ope_eql rfl hx hy) (rgO h))
theorem i_ne {kk : IntKind} {m n : Int} {tb : Nat} (hN : Nat.blt d k.N = true) (hx : s.ev x = .one (.d (.int kk m))) (hy : s.ev y = .one (.d (.int kk n))) (h : rg k w0 ops l Q (s.put d (.one (.d (.bool (!decide (m = n))))))) : rg k w0 ops (⟨some d, .binOp .neq t' x y tb, t, p, af, none⟩ :: l) Q s :=
  rgI (irg_e rfl rfl (nlt hN) (ope_neq rfl hx hy) (rgO h))
theorem i_lt {kk : IntKind} {m n : Int} {tb : Nat} (hN : Nat.blt d k.N = true) (hx : s.ev x = .one (.d (.int kk m))) (hy : s.ev y = .one (.d (.int kk n))) (h : rg k w0 ops l Q (s.put d (.one (.d (.bool (decide (m < n))))))) : rg k w0 ops (⟨some d, .binOp .lss t' x y tb, t, p, af, none⟩ :: l) Q s :=
  rgI (irg_e rfl rfl (nlt hN) (ope_lss rfl hx hy) (rgO h))
theorem i_le {kk : IntKind} {m n : Int} {tb : Nat} (hN : Nat.blt d k.N = true) (hx : s.ev x = .one (.d (.int kk m))) (hy : s.ev y = .one (.d (.int kk n))) (h : rg k w0 ops l Q (s.put d (.one (.d (.bool (decide (m ≤ n))))))) : rg k w0 ops (⟨some d, .binOp .leq t' x y tb, t, p, af, none⟩ :: l) Q s :=
  rgI (irg_e rfl rfl (nlt hN) (ope_leq rfl hx hy) (rgO h))
theorem i_gt {kk : IntKind} {m n : Int} {tb : Nat} (hN : Nat.blt d k.N = true) (hx : s.ev x = .one (.d (.int kk m))) (hy : s.ev y = .one (.d (.int kk n))) (h : rg k w0 ops l Q (s.put d (.one (.d (.bool (decide (n < m))))))) : rg k w0 ops (⟨some d, .binOp .gtr t' x y tb, t, p, af, none⟩ :: l) Q s :=
  rgI (irg_e rfl rfl (nlt hN) (ope_gtr rfl hx hy) (rgO h))
theorem i_ge {kk : IntKind} {m n : Int} {tb : Nat} (hN : Nat.blt d k.N = true) (hx : s.ev x = .one (.d (.int kk m))) (hy : s.ev y = .one (.d (.int kk n))) (h : rg k w0 ops l Q (s.put d (.one (.d (.bool (decide (n ≤ m))))))) : rg k w0 ops (⟨some d, .binOp .geq t' x y tb, t, p, af, none⟩ :: l) Q s :=
  rgI (irg_e rfl rfl (nlt hN) (ope_geq rfl hx hy) (rgO h))
theorem i_q {o : Op} {post : SV → Prop} (hN : Nat.blt d k.N = true) (h : OpQ k.P k.T k.N w0 s ⟨some d, o, t, p, af, none⟩ post) (h2 : ∀ v, post v → rg k w0 ops l Q (s.put d v)) : rg k w0 ops (⟨some d, o, t, p, af, none⟩ :: l) Q s :=
  rgI (irg_q rfl rfl (nlt hN) h fun v hv => rgO (h2 v hv))
/-- A call whose result is just v. -/
theorem i_call {pu : Bool} {f : FuncId} {xs : Array Operand} {ts : Array TypeId} {args : List SV} {v : SV} (hN : Nat.blt d k.N = true) (hic : IC k.P k.T f args (fun x => x = v)) (ha : PsSL k.P k.T s pu xs.toList args) (hsc : pu = true ∨ v.sc = true)
    (h : rg k w0 ops l Q (s.put d v)) : rg k w0 ops (⟨some d, .call { callee := .value (.func f), args := xs, argTypes := ts }, t, p, af, none⟩ :: l) Q s :=
  rgI (irg_e rfl rfl (nlt hN) (opq_call rfl hic ha (hsc.imp id fun h sv e => e ▸ h)) (rgO h))
theorem i_callp {pu : Bool} {f : FuncId} {xs : Array Operand} {ts : Array TypeId} {args : List SV} {post : SV → Prop} (hN : Nat.blt d k.N = true) (hic : IC k.P k.T f args post) (ha : PsSL k.P k.T s pu xs.toList args) (hsc : pu = true ∨ ∀ v, post v → v.sc = true)
    (h : ∀ v, post v → rg k w0 ops l Q (s.put d v)) : rg k w0 ops (⟨some d, .call { callee := .value (.func f), args := xs, argTypes := ts }, t, p, af, none⟩ :: l) Q s :=
  rgI (irg_q rfl rfl (nlt hN) (opq_call rfl hic ha hsc) fun v hv => rgO (h v hv))
theorem i_callc {pu : Bool} {f : FuncId} {cs cs' : List CV} {xs : Array Operand} {ts : Array TypeId} {args : List SV} {v : SV} (hN : Nat.blt d k.N = true) (hy : s.ev y = .one (.clo f cs)) (hic : IC k.P k.T f (args ++ cs'.map .one) (fun x => x = v)) (ha : PsSL k.P k.T s pu xs.toList args) (hc : PsL k.P k.T s.H pu cs cs') (hsc : pu = true ∨ v.sc = true)
    (h : rg k w0 ops l Q (s.put d v)) : rg k w0 ops (⟨some d, .call { callee := .value y, args := xs, argTypes := ts }, t, p, af, none⟩ :: l) Q s :=
  rgI (irg_e rfl rfl (nlt hN) (opq_call_clo rfl hy hic ha hc (hsc.imp id fun h sv e => e ▸ h)) (rgO h))
theorem i_callf {pp : List DV → Option Cell} {xs : Array Operand} {ts : Array TypeId} {args : List DV} {r : Cell} (hN : Nat.blt d k.N = true) (hy : s.ev y = .one (.fn pp)) (ha : dvL s xs.toList args) (hp : pp args = some r) (hw : ∀ k n, r = .int k n → (Lit.int k n).wf = true) (hz : ∀ b, r = .str b → b.size ≤ maxLen)
    (h : rg k w0 ops l Q (s.put d (.one (.d r)))) : rg k w0 ops (⟨some d, .call { callee := .value y, args := xs, argTypes := ts }, t, p, af, none⟩ :: l) Q s :=
  rgI (irg_e rfl rfl (nlt hN) (ope_call_fn rfl hy ha hp hw hz) (rgO h))
theorem i_box {cs : List CV} (hN : Nat.blt d k.N = true) (hx : (s.ev x).cells = some cs) (hf : s.fresh d = true) (h : rg k w0 ops l Q ((s.hput d (.blk t' cs)).put d (.one (.ref d 0)))) : rg k w0 ops (⟨some d, .box t' x, t, p, af, none⟩ :: l) Q s :=
  rgI (irg_h rfl (opr_box rfl rfl (nlt hN) hx hf) (rgO h))
theorem i_al {zs : List Z} (hN : Nat.blt d k.N = true) (hz : (tyAt k.τ t').zs = some zs) (hf : s.fresh d = true) (h : rg k w0 ops l Q ((s.hput d (.blk t' (zs.map Z.cv))).put d (.one (.ref d 0)))) : rg k w0 ops (⟨some d, .alloc t', t, p, af, none⟩ :: l) Q s :=
  rgI (irg_h rfl (opr_alloc k.ok rfl rfl (nlt hN) hz hf) (rgO h))
theorem i_st {r off n : Nat} {tt : Nat} {cs vs : List CV} (hx : s.ev x = .one (.ref r off)) (hH : getH s.H r = .blk tt cs) (hn : (tyAt k.τ t').size = some n) (hy : (s.ev y).cells = some vs) (hl : Nat.beq vs.length n = true) (hle : Nat.ble (off + n) cs.length = true)
    (h : rg k w0 ops l Q (s.hput r (.blk tt (setSeg cs off vs)))) : rg k w0 ops (⟨none, .store t' x y, t, p, af, none⟩ :: l) Q s :=
  rgI (irg_h rfl (opr_store k.ok rfl rfl hx hH hn hy (Nat.eq_of_beq_eq_true hl) (Nat.le_of_ble_eq_true hle)) (rgO h))
theorem i_ste {r i j sz n e : Nat} {rows : List (List Cell)} {row : List Cell} {vs : List CV} {ds : List Cell} (hx : s.ev x = .one (.el r i j sz)) (hH : getH s.H r = .arr e sz rows) (hn : (tyAt k.τ t').size = some n) (hy : (s.ev y).cells = some vs) (hds : unDL vs = some ds) (hl : ds.length = n) (hi : rows[i]? = some row) (hle : j + n ≤ row.length)
    (h : rg k w0 ops l Q (s.hput r (.arr e sz (rows.set i (setSegC row j ds))))) : rg k w0 ops (⟨none, .store t' x y, t, p, af, none⟩ :: l) Q s :=
  rgI (irg_h rfl (opr_store_el k.ok rfl rfl hx hH hn hy hds hl hi hle) (rgO h))
theorem i_bs {len e sz by_ : Nat} {zs : List Z} {parts : Array (Nat × Operand)} {cp : List (Nat × List CV)} {r : List CV} {fl : List Cell} (hN : Nat.blt d k.N = true) (ht : tyAt k.τ t' = .sl e sz by_) (hz : (tyAt k.τ e).zs = some zs) (hp : partsOf s parts.toList = some cp) (hr : cfill ((List.range len).map fun i => (i * sz, sz)) (List.replicate (len * sz) .u) cp = some r) (hfl : unDL r = some fl)
    (h0 : Nat.blt 0 (len * sz) = true) (hm : Nat.ble (len * sz) 16777216 = true) (hf : s.fresh d = true) (hzl : zs.length = sz) (h : rg k w0 ops l Q ((s.hput d (.arr e sz (chunks sz len fl))).put d (.one (.sl d len sz)))) : rg k w0 ops (⟨some d, .buildSlice t' len parts, t, p, af, none⟩ :: l) Q s :=
  rgI (irg_h rfl (opr_buildSlice k.ok rfl rfl (nlt hN) ht hz hp hr hfl (nlt h0) (Nat.le_of_ble_eq_true hm) hf hzl) (rgO h))
theorem i_ap0 {e sz by_ : Nat} {zs : List Z} {rows' : List (List Cell)} (hN : Nat.blt d k.N = true) (ht : tyAt k.τ t' = .sl e sz by_) (hz : (tyAt k.τ e).zs = some zs) (hzl : zs.length = sz) (h0 : Nat.blt 0 sz = true) (hx : s.ev x = .one .nil) (hy : Src s sz (s.ev y) rows') (hf : s.fresh d = true)
    (hbd : rows'.length * by_ ≤ 140737488355328) (hb0 : Nat.blt 0 by_ = true) (h : rg k w0 ops l Q ((s.hput d (.arr e sz rows')).put d (.one (.sl d rows'.length sz)))) : rg k w0 ops (⟨some d, .call { callee := .builtin .append, args := #[x, y], argTypes := #[t', t'] }, t, p, af, none⟩ :: l) Q s :=
  rgI (irg_h rfl (opr_append_nil k.ok rfl rfl (nlt hN) ht hz hzl (nlt h0) hx hy hf hbd (nlt hb0)) (rgO h))
theorem i_ap {e sz by_ r n : Nat} {zs : List Z} {rows rows' : List (List Cell)} (hN : Nat.blt d k.N = true) (ht : tyAt k.τ t' = .sl e sz by_) (hz : (tyAt k.τ e).zs = some zs) (hzl : zs.length = sz) (h0 : Nat.blt 0 sz = true) (hx : s.ev x = .one (.sl r n sz)) (hr : getH s.H r = .arr e sz rows) (hn : n = rows.length) (hy : Src s sz (s.ev y) rows') (hf : allH r s.H = true)
    (hbd : (rows.length + rows'.length) * by_ ≤ 140737488355328) (hb0 : Nat.blt 0 by_ = true) (h : rg k w0 ops l Q ((St.mk (killF r s.F) ((r, .arr e sz (rows ++ rows')) :: s.H)).put d (.one (.sl r (rows ++ rows').length sz)))) : rg k w0 ops (⟨some d, .call { callee := .builtin .append, args := #[x, y], argTypes := #[t', t'] }, t, p, af, none⟩ :: l) Q s :=
  rgI (irg_h rfl (opr_append_sl k.ok rfl rfl (nlt hN) ht hz hzl (nlt h0) hx hr hn hy hf hbd (nlt hb0)) (rgO h))
end
/-! code -/
section
variable {k : Wk} {w0 : Org} {s : St} {Q : Exit → St → Prop}
theorem c_seq {x y : Code} (h : wk k w0 x (kThen k w0 y Q) s) : wk k w0 (.seq x y) Q s := wkI (iwp_seq (by have := wkO h; unfold kThen at this; exact this))
theorem c_rg {id : Nat} {l : List Oper} (h : rg k w0 l.toArray l (Q .normal) s) : wk k w0 (.region id l.toArray false) Q s := wkI (iwp_region (rgO h))
theorem c_t {c : Operand} {x y : Code} {b : Bool} (hc : s.ev c = .one (.d (.bool b))) (hb : b = true) (h : wk k w0 x Q s) : wk k w0 (.cond c x y) Q s := wkI (iwp_cond_t (hb ▸ hc) (wkO h))
theorem c_f {c : Operand} {x y : Code} {b : Bool} (hc : s.ev c = .one (.d (.bool b))) (hb : b = false) (h : wk k w0 y Q s) : wk k w0 (.cond c x y) Q s := wkI (iwp_cond_f (hb ▸ hc) (wkO h))
theorem c_if {c : Operand} {x y : Code} {b : Bool} (hc : s.ev c = .one (.d (.bool b))) (h1 : b = true → wk k w0 x Q s) (h2 : b = false → wk k w0 y Q s) : wk k w0 (.cond c x y) Q s := wkI (iwp_cond hc (fun e => wkO (h1 e)) fun e => wkO (h2 e))
theorem c_bl {id : Nat} {c : Code} (h : wk k w0 c (kBlock id Q) s) : wk k w0 (.block id c) Q s := wkI (iwp_block (by have := wkO h; unfold kBlock at this; exact this))
theorem c_ex {id : Nat} (h : Q (.exit id) s) : wk k w0 (.exit id) Q s := wkI (iwp_exit h)
theorem c_ret (h : Q .ret s) : wk k w0 .ret Q s := wkI (iwp_ret h)
theorem c_sk (h : Q .normal s) : wk k w0 .skip Q s := wkI (iwp_skip h)
theorem q_n {y : Code} (h : wk k w0 y Q s) : kThen k w0 y Q .normal s := by unfold kThen; exact wkO h
theorem q_r {y : Code} (h : Q .ret s) : kThen k w0 y Q .ret s := by unfold kThen; exact h
theorem q_e {y : Code} {i : Nat} (h : Q (.exit i) s) : kThen k w0 y Q (.exit i) s := by unfold kThen; exact h
theorem b_n {id : Nat} (h : Q .normal s) : kBlock id Q .normal s := by unfold kBlock; exact h
theorem b_r {id : Nat} (h : Q .ret s) : kBlock id Q .ret s := by unfold kBlock; exact h
theorem b_e {id : Nat} (h : Q .normal s) : kBlock id Q (.exit id) s := by unfold kBlock; exact iblock_e h
theorem b_o {id i : Nat} (hn : Nat.beq i id = false) (h : Q (.exit i) s) : kBlock id Q (.exit i) s := by unfold kBlock; exact iblock_o hn h
theorem n_n {R : St → Prop} (h : R s) : kRound Q R .normal s := by unfold kRound; exact h
theorem n_r {R : St → Prop} (h : Q .ret s) : kRound Q R .ret s := by unfold kRound; exact h
theorem n_e {R : St → Prop} {i : Nat} (h : Q (.exit i) s) : kRound Q R (.exit i) s := by unfold kRound; exact h
theorem c_loop {ι : Type} {c : Code} (I : ι → St) (p : ι → Prop) (μ : ι → Nat) (vs : List Nat) (i0 : ι) (hp : p i0) (h0 : Fits vs s (I i0))
    (round : ∀ i, p i → wk k w0 c (kRound Q (fun s' => ∃ i', p i' ∧ μ i' < μ i ∧ ∃ vs', Fits vs' s' (I i'))) (I i)) : wk k w0 (.loop c) Q s :=
  wkI (iwp_loop I p μ vs i0 hp h0 fun i hi => by have := wkO (round i hi); unfold kRound at this; exact this)
theorem c_meet {ι : Type} {x y : Code} (J : ι → St) (p : ι → Prop) (h : wk k w0 x (kRound Q (fun s' => ∃ i, p i ∧ ∃ vs', Fits vs' s' (J i))) s) (hy : ∀ i, p i → wk k w0 y Q (J i)) : wk k w0 (.seq x y) Q s :=
  wkI (iwp_meet J p (by have := wkO h; unfold kRound at this; exact this) fun i hi => wkO (hy i hi))
theorem c_fits {c : Code} {s' : St} (vs : List Nat) (h : Fits vs s s') (hq : wk k w0 c Q s') : wk k w0 c Q s := wkI (iwp_fits h (wkO hq))
end
section
variable {τ : List TyI} {fn : Func} {post : SV → Prop} {s : St}
theorem r_1 {t : Tmp} {x : Cell} (hr : fn.results = #[.tmp t]) (hv : getF s.F t = .one (.d x)) (h : post (.one (.d x))) : RetQ τ fn post .ret s :=
  ⟨.inl rfl, _, _, by rw [hr]; exact .cons (.tmp t) .nil, by rw [hv]; exact .one (.one (.d x)), h⟩
theorem r_1n {t : Tmp} (hr : fn.results = #[.tmp t]) (hv : getF s.F t = .one .nil) (h : post (.one (.d (.list [])))) : RetQ τ fn post .ret s :=
  ⟨.inl rfl, _, _, by rw [hr]; exact .cons (.tmp t) .nil, by rw [hv]; exact .one (.one .nil), h⟩
theorem r_1s {t : Tmp} {r n sz e : Nat} {rows : List (List Cell)} (hr : fn.results = #[.tmp t]) (hv : getF s.F t = .one (.sl r n sz)) (hH : getH s.H r = .arr e sz rows) (hn : n = rows.length) (h : post (.one (.d (.list rows)))) : RetQ τ fn post .ret s :=
  ⟨.inl rfl, _, _, by rw [hr]; exact .cons (.tmp t) .nil, by rw [hv]; exact .one (.one (.sl hH hn)), h⟩
theorem r_2 {t u : Tmp} {a b c d : CV} (hr : fn.results = #[.tmp t, .tmp u]) (hv : getF s.F t = .one a) (hu : getF s.F u = .one b) (ha : RzC s.H a c) (hb : RzC s.H b d) (h : post (.tup [.one c, .one d])) : RetQ τ fn post .ret s :=
  ⟨.inl rfl, _, _, by rw [hr]; exact .cons (.tmp t) (.cons (.tmp u) .nil), by rw [hv, hu]; exact .two (.cons (.one ha) (.cons (.one hb) .nil)), h⟩
/-- A struct in a variable. -/
theorem r_c {t : Tmp} {ty r off n tt : Nat} {cs cs' : List CV} {fs zs} (hr : fn.results = #[.cell t ty]) (hv : getF s.F t = .one (.ref r off)) (hH : getH s.H r = .blk tt cs) (ht : tyAt τ ty = .st n fs zs) (hle : off + n ≤ cs.length) (hz : RzL s.H ((cs.drop off).take n) cs') (h : post (.agg cs')) : RetQ τ fn post .ret s :=
  ⟨.inl rfl, _, _, by rw [hr]; exact .cons (.celln hv hH ht hle) .nil, .one (.agg hz), h⟩
theorem r_ct {t u : Tmp} {ty r off n tt : Nat} {b d : CV} {cs cs' : List CV} {fs zs} (hr : fn.results = #[.cell t ty, .tmp u]) (hv : getF s.F t = .one (.ref r off)) (hH : getH s.H r = .blk tt cs) (ht : tyAt τ ty = .st n fs zs) (hle : off + n ≤ cs.length) (hz : RzL s.H ((cs.drop off).take n) cs') (hu : getF s.F u = .one b) (hb : RzC s.H b d) (h : post (.tup [.agg cs', .one d])) : RetQ τ fn post .ret s :=
  ⟨.inl rfl, _, _, by rw [hr]; exact .cons (.celln hv hH ht hle) (.cons (.tmp u) .nil), by rw [hu]; exact .two (.cons (.agg hz) (.cons (.one hb) .nil)), h⟩
end
theorem ic_wk (k : Wk) {f : FuncId} {fn : Func} {c : Code} {args : List SV} {post : SV → Prop} (hf : k.P.funcs[f]? = some fn) (hN : fn.ntmps = k.N) (hname : (fn.name == "runtime.NumGoroutine") = false) (hb : fn.body = some c) (hn : Nat.ble args.length k.N = true)
    (h : ∀ w0, wk k w0 c (RetQ k.τ fn post) ⟨argF 0 args, []⟩) : IC k.P k.T f args post :=
  ic_of k.ok hf hname hb (by rw [hN]; exact hn) fun w0 => by rw [hN]; exact wkO (h w0)
end Go.Proofs.Ytbnmcdnkeipdhaa

