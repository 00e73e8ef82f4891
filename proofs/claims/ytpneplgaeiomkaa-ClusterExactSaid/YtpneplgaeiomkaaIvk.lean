/- The steps of a walk on ideal states: one rule for each kind of operation. -/
import Derived.Test.YtpneplgaeiomkaaIvj
set_option linter.all false
namespace Go.Proofs.Ytpneplgaeiomkaa
open Go.RowKit Go.Shelf

structure Wk where
  P : Program
  T : TypeId
  N : Nat
  τ : List TyI
  ok : tabB P 0 τ = true
@[irreducible] def rg (k : Wk) (w0 : Org) (ops : Array Oper) (l : List Oper) (Q : St → Prop) (s : St) : Prop := irg k.P k.T k.N w0 ops l Q s
@[irreducible] def wk (k : Wk) (w0 : Org) (c : Code) (Q : Exit → St → Prop) (s : St) : Prop := iwp k.P k.T k.N w0 c Q s
theorem rgI {k : Wk} {w0 : Org} {ops : Array Oper} {l : List Oper} {Q : St → Prop} {s : St} (h : irg k.P k.T k.N w0 ops l Q s) : rg k w0 ops l Q s := by unfold rg; exact h
theorem rgO {k : Wk} {w0 : Org} {ops : Array Oper} {l : List Oper} {Q : St → Prop} {s : St} (h : rg k w0 ops l Q s) : irg k.P k.T k.N w0 ops l Q s := by unfold rg at h; exact h
theorem wkI {k : Wk} {w0 : Org} {c : Code} {Q : Exit → St → Prop} {s : St} (h : iwp k.P k.T k.N w0 c Q s) : wk k w0 c Q s := by unfold wk; exact h
theorem wkO {k : Wk} {w0 : Org} {c : Code} {Q : Exit → St → Prop} {s : St} (h : wk k w0 c Q s) : iwp k.P k.T k.N w0 c Q s := by unfold wk at h; exact h
@[irreducible] def kThen (k : Wk) (w0 : Org) (y : Code) (Q : Exit → St → Prop) : Exit → St → Prop := IThen k.P k.T k.N w0 y Q
@[irreducible] def kBlock (id : Nat) (Q : Exit → St → Prop) : Exit → St → Prop := IBlock id Q
@[irreducible] def kRound (Q : Exit → St → Prop) (R : St → Prop) : Exit → St → Prop := IRound Q R
section
variable {k : Wk} {w0 : Org} {ops : Array Oper} {l : List Oper} {Q : St → Prop} {s : St} {d t t' : Nat} {x y : Operand} {p : String} {af : Array Edge}
theorem nlt {a b : Nat} (h : Nat.blt a b = true) : a < b := Nat.lt_of_lt_of_le (Nat.lt_succ_self _) (Nat.le_of_ble_eq_true h)
theorem ope_cg {P : Program} {T : TypeId} {N : Nat} {w0 : Org} {s : St} {o : Oper} {v v' : SV} (h : OpE P T N w0 s o v) (e : v = v') : OpE P T N w0 s o v' := e ▸ h
theorem i_nil (h : Q s) : rg k w0 ops [] Q s := rgI (irg_nil h)
theorem i_gy {o : Op} {dst : Option Nat} {j q : Nat} {w c : Bool} (hj : (ops[j]?).bind (·.dst) = some q) (hv : getF s.F q = .one (.d (.bool c))) (hc : c = w) (h : rg k w0 ops (⟨dst, o, t, p, af, none⟩ :: l) Q s) : rg k w0 ops (⟨dst, o, t, p, af, some (j, w)⟩ :: l) Q s := by
  refine rgI ?_
  intro g a w' hs Q' hQ
  have := rgO h g a w' hs Q' hQ
  have hy := yielded_of hs hj hv
  unfold wpList at this ⊢
  rw [if_pos (by simp [Region.wanted])] at this
  rw [if_pos (by simp [Region.wanted, hy, hc])]
  exact this
theorem i_gn {o : Op} {j q : Nat} {c : Bool} (hj : (ops[j]?).bind (·.dst) = some q) (hv : getF s.F q = .one (.d (.bool c))) (hc : c = false) (hN : Nat.blt d k.N = true) (h : rg k w0 ops l Q (s.put d (.tup []))) : rg k w0 ops (⟨some d, o, t, p, af, some (j, true)⟩ :: l) Q s :=
  rgI (irg_gno rfl hj hv hc rfl (nlt hN) (rgO h))
theorem i_gm {o : Op} {j q : Nat} {c : Bool} (hj : (ops[j]?).bind (·.dst) = some q) (hv : getF s.F q = .one (.d (.bool c))) (hc : c = true) (hN : Nat.blt d k.N = true) (h : rg k w0 ops l Q (s.put d (.tup []))) : rg k w0 ops (⟨some d, o, t, p, af, some (j, false)⟩ :: l) Q s :=
  rgI (irg_gno rfl hj hv hc rfl (nlt hN) (rgO h))
theorem i_gz {o : Op} {j q : Nat} {w : Bool} (hj : (ops[j]?).bind (·.dst) = some q) (hv : getF s.F q = .tup []) (hN : Nat.blt d k.N = true) (h : rg k w0 ops l Q (s.put d (.tup []))) : rg k w0 ops (⟨some d, o, t, p, af, some (j, w)⟩ :: l) Q s :=
  rgI (irg_gz rfl hj hv rfl (nlt hN) (rgO h))
theorem i_gs {o : Op} {dst : Option Nat} {j q : Nat} {w : Bool} (c : Bool) (hj : (ops[j]?).bind (·.dst) = some q) (hv : getF s.F q = .one (.d (.bool c))) (h1 : c = true → rg k w0 ops (⟨dst, o, t, p, af, some (j, w)⟩ :: l) Q s) (h2 : c = false → rg k w0 ops (⟨dst, o, t, p, af, some (j, w)⟩ :: l) Q s) : rg k w0 ops (⟨dst, o, t, p, af, some (j, w)⟩ :: l) Q s :=
  rgI (irg_split c (fun e => rgO (h1 e)) (fun e => rgO (h2 e)))
theorem i_pt {c : Operand} {b : Bool} {v : CV} (hN : Nat.blt d k.N = true) (hc : s.ev c = .one (.d (.bool b))) (hb : b = true) (hx : s.ev x = .one v) (h : rg k w0 ops l Q (s.put d (.one v))) : rg k w0 ops (⟨some d, .pick c x y, t, p, af, none⟩ :: l) Q s :=
  rgI (irg_e rfl rfl (nlt hN) (hx ▸ ope_pick_t rfl (hb ▸ hc)) (rgO h))
theorem i_pf {c : Operand} {b : Bool} {v : CV} (hN : Nat.blt d k.N = true) (hc : s.ev c = .one (.d (.bool b))) (hb : b = false) (hx : s.ev y = .one v) (h : rg k w0 ops l Q (s.put d (.one v))) : rg k w0 ops (⟨some d, .pick c x y, t, p, af, none⟩ :: l) Q s :=
  rgI (irg_e rfl rfl (nlt hN) (hx ▸ ope_pick_f rfl (hb ▸ hc)) (rgO h))
theorem i_ld_el1 {r i j sz e : Nat} {rows : List (List Cell)} {row : List Cell} {c : Cell} (hN : Nat.blt d k.N = true) (hx : s.ev x = .one (.el r i j sz)) (hH : getH s.H r = .arr e sz rows) (ht : (tyAt k.τ t').isOne = true) (hi : rows[i]? = some row) (hj : row[j]? = some c) (h : rg k w0 ops l Q (s.put d (.one (.d c)))) : rg k w0 ops (⟨some d, .load t' x, t, p, af, none⟩ :: l) Q s :=
  rgI (irg_e rfl rfl (nlt hN) (ope_load_el1 rfl hx hH (tab_one k.ok ht) hi hj) (rgO h))
theorem map_get {α β : Type} {f : α → β} {l : List α} {i : Nat} (h : i < l.length) : (l.map f)[i]? = some (f l[i]) := by simp [h]
theorem i_ia {e sz by_ i : Nat} {rows : List (List Cell)} {row : List Cell} {kk : IntKind} {m : Int} (hN : Nat.blt d k.N = true) (hx : s.ev x = .one (.d (.list rows))) (hy : s.ev y = .one (.d (.int kk m))) (ht : tyAt k.τ t' = .sl e sz by_) (h0 : 0 ≤ m) (hm : m.toNat = i) (hi : rows[i]? = some row) (hl : row.length = sz) (hz : Nat.blt 0 sz = true) (h : rg k w0 ops l Q (s.put d (.one (.rp (row.map .d))))) : rg k w0 ops (⟨some d, .indexAddr t' x y, t, p, af, none⟩ :: l) Q s :=
  rgI (irg_e rfl rfl (nlt hN) (ope_indexAddr_d rfl hx hy (tab_sl k.ok ht) h0 (hm ▸ hi) hl (nlt hz)) (rgO h))
theorem i_ia_sl {r n e sz by_ i : Nat} {kk : IntKind} {m : Int} (hN : Nat.blt d k.N = true) (hx : s.ev x = .one (.sl r n sz)) (hy : s.ev y = .one (.d (.int kk m))) (ht : tyAt k.τ t' = .sl e sz by_) (h0 : 0 ≤ m) (hi : m < (n : Int)) (hm : m.toNat = i) (h : rg k w0 ops l Q (s.put d (.one (.el r i 0 sz)))) : rg k w0 ops (⟨some d, .indexAddr t' x y, t, p, af, none⟩ :: l) Q s :=
  rgI (irg_e rfl rfl (nlt hN) (hm ▸ ope_indexAddr_sl rfl hx hy (tab_sl k.ok ht) h0 hi) (rgO h))
theorem i_ia_ar {r off n len e sz i : Nat} {zs} {kk : IntKind} {m : Int} (hN : Nat.blt d k.N = true) (hx : s.ev x = .one (.ref r off)) (hy : s.ev y = .one (.d (.int kk m))) (ht : tyAt k.τ t' = .ar n len e sz zs) (h0 : 0 ≤ m) (hi : m < (len : Int)) (hm : m.toNat = i) (h : rg k w0 ops l Q (s.put d (.one (.ref r (off + i * sz))))) : rg k w0 ops (⟨some d, .indexAddr t' x y, t, p, af, none⟩ :: l) Q s :=
  rgI (irg_e rfl rfl (nlt hN) (hm ▸ ope_indexAddr_arr rfl hx hy (tab_ar k.ok ht) h0 hi) (rgO h))
theorem i_ix1 {n len e i : Nat} {zs} {cs : List CV} {c : CV} {kk : IntKind} {m : Int} (hN : Nat.blt d k.N = true) (hx : s.ev x = .agg cs) (hy : s.ev y = .one (.d (.int kk m))) (ht : tyAt k.τ t' = .ar n len e 1 zs) (he : (tyAt k.τ e).isOne = true) (h0 : 0 ≤ m) (hi : m < (len : Int)) (hm : m.toNat = i) (hc : cs[i]? = some c) (h : rg k w0 ops l Q (s.put d (.one c))) : rg k w0 ops (⟨some d, .index t' x y, t, p, af, none⟩ :: l) Q s :=
  rgI (irg_e rfl rfl (nlt hN) (ope_index1 rfl hx hy (tab_ar k.ok ht) (tab_one k.ok he) h0 hi (hm ▸ hc)) (rgO h))
theorem i_len {e n b : Nat} {rows : List (List Cell)} (hN : Nat.blt d k.N = true) (hx : s.ev x = .one (.d (.list rows))) (ht : tyAt k.τ t' = .sl e n b) (h : rg k w0 ops l Q (s.put d (.one (.d (.int .i64 (rows.length : Int)))))) : rg k w0 ops (⟨some d, .call { callee := .builtin .len, args := #[x], argTypes := #[t'] }, t, p, af, none⟩ :: l) Q s :=
  rgI (irg_e rfl rfl (nlt hN) (ope_len_d rfl hx (tab_sl k.ok ht)) (rgO h))
theorem i_lenm {α : Type} {f : α → List Cell} {xs : List α} {e n b : Nat} (hN : Nat.blt d k.N = true) (hx : s.ev x = .one (.d (.list (xs.map f)))) (ht : tyAt k.τ t' = .sl e n b) (h : rg k w0 ops l Q (s.put d (.one (.d (.int .i64 (xs.length : Int)))))) : rg k w0 ops (⟨some d, .call { callee := .builtin .len, args := #[x], argTypes := #[t'] }, t, p, af, none⟩ :: l) Q s :=
  rgI (irg_e rfl rfl (nlt hN) (ope_cg (ope_len_d rfl hx (tab_sl k.ok ht)) (by rw [List.length_map])) (rgO h))
theorem i_lens {r m sz e n b : Nat} (hN : Nat.blt d k.N = true) (hx : s.ev x = .one (.sl r m sz)) (ht : tyAt k.τ t' = .sl e n b) (h : rg k w0 ops l Q (s.put d (.one (.d (.int .i64 (m : Int)))))) : rg k w0 ops (⟨some d, .call { callee := .builtin .len, args := #[x], argTypes := #[t'] }, t, p, af, none⟩ :: l) Q s :=
  rgI (irg_e rfl rfl (nlt hN) (ope_len_sl rfl hx (tab_sl k.ok ht)) (rgO h))
theorem i_len0 {e n b : Nat} (hN : Nat.blt d k.N = true) (hx : s.ev x = .one .nil) (ht : tyAt k.τ t' = .sl e n b) (h : rg k w0 ops l Q (s.put d (.one (.d (.int .i64 0))))) : rg k w0 ops (⟨some d, .call { callee := .builtin .len, args := #[x], argTypes := #[t'] }, t, p, af, none⟩ :: l) Q s :=
  rgI (irg_e rfl rfl (nlt hN) (ope_len_nil rfl hx (tab_sl k.ok ht)) (rgO h))
theorem i_add {kk : IntKind} {m n : Int} {r : Int} {tb : Nat} (hN : Nat.blt d k.N = true) (hx : s.ev x = .one (.d (.int kk m))) (hy : s.ev y = .one (.d (.int kk n))) (hr : kk.wrap (m + n) = r) (h : rg k w0 ops l Q (s.put d (.one (.d (.int kk r))))) : rg k w0 ops (⟨some d, .binOp .add t' x y tb, t, p, af, none⟩ :: l) Q s :=
  rgI (irg_e rfl rfl (nlt hN) (ope_add rfl hx hy hr) (rgO h))
theorem i_sub {kk : IntKind} {m n : Int} {r : Int} {tb : Nat} (hN : Nat.blt d k.N = true) (hx : s.ev x = .one (.d (.int kk m))) (hy : s.ev y = .one (.d (.int kk n))) (hr : kk.wrap (m - n) = r) (h : rg k w0 ops l Q (s.put d (.one (.d (.int kk r))))) : rg k w0 ops (⟨some d, .binOp .sub t' x y tb, t, p, af, none⟩ :: l) Q s :=
  rgI (irg_e rfl rfl (nlt hN) (ope_sub rfl hx hy hr) (rgO h))
theorem i_mul {kk : IntKind} {m n : Int} {r : Int} {tb : Nat} (hN : Nat.blt d k.N = true) (hx : s.ev x = .one (.d (.int kk m))) (hy : s.ev y = .one (.d (.int kk n))) (hr : kk.wrap (m * n) = r) (h : rg k w0 ops l Q (s.put d (.one (.d (.int kk r))))) : rg k w0 ops (⟨some d, .binOp .mul t' x y tb, t, p, af, none⟩ :: l) Q s :=
  rgI (irg_e rfl rfl (nlt hN) (ope_mul rfl hx hy hr) (rgO h))
theorem i_call {pu : Bool} {f : FuncId} {xs : Array Operand} {ts : Array TypeId} {args : List SV} {v : SV} (hN : Nat.blt d k.N = true) (hic : IC k.P k.T f args (fun x => x = v)) (ha : PsSL k.P k.T s pu xs.toList args) (hsc : pu = true ∨ v.sc = true)
    (h : rg k w0 ops l Q (s.put d v)) : rg k w0 ops (⟨some d, .call { callee := .value (.func f), args := xs, argTypes := ts }, t, p, af, none⟩ :: l) Q s :=
  rgI (irg_e rfl rfl (nlt hN) (opq_call rfl hic ha (hsc.imp id fun h sv e => e ▸ h)) (rgO h))
theorem i_callp {pu : Bool} {f : FuncId} {xs : Array Operand} {ts : Array TypeId} {args : List SV} {post : SV → Prop} (hN : Nat.blt d k.N = true) (hic : IC k.P k.T f args post) (ha : PsSL k.P k.T s pu xs.toList args) (hsc : pu = true ∨ ∀ v, post v → v.sc = true)
    (h : ∀ v, post v → rg k w0 ops l Q (s.put d v)) : rg k w0 ops (⟨some d, .call { callee := .value (.func f), args := xs, argTypes := ts }, t, p, af, none⟩ :: l) Q s :=
  rgI (irg_q rfl rfl (nlt hN) (opq_call rfl hic ha hsc) fun v hv => rgO (h v hv))
theorem i_callc {pu : Bool} {f : FuncId} {cs cs' : List CV} {xs : Array Operand} {ts : Array TypeId} {args : List SV} {v : SV} (hN : Nat.blt d k.N = true) (hy : s.ev y = .one (.clo f cs)) (hic : IC k.P k.T f (args ++ cs'.map .one) (fun x => x = v)) (ha : PsSL k.P k.T s pu xs.toList args) (hc : PsL k.P k.T s.H pu cs cs') (hsc : pu = true ∨ v.sc = true)
    (h : rg k w0 ops l Q (s.put d v)) : rg k w0 ops (⟨some d, .call { callee := .value y, args := xs, argTypes := ts }, t, p, af, none⟩ :: l) Q s :=
  rgI (irg_e rfl rfl (nlt hN) (opq_call_clo rfl hy hic ha hc (hsc.imp id fun h sv e => e ▸ h)) (rgO h))
theorem i_callf {pp : List DV → Option Cell} {xs : Array Operand} {ts : Array TypeId} {args : List DV} {r : Cell} (hN : Nat.blt d k.N = true) (hy : s.ev y = .one (.fn pp)) (ha : dvL s xs.toList args) (hp : pp args = some r) (hw : ∀ k n, r = .int k n → (Lit.int k n).wf = true) (hz : ∀ b, r = .str b → b.size ≤ maxLen)
    (h : rg k w0 ops l Q (s.put d (.one (.d r)))) : rg k w0 ops (⟨some d, .call { callee := .value y, args := xs, argTypes := ts }, t, p, af, none⟩ :: l) Q s :=
  rgI (irg_e rfl rfl (nlt hN) (ope_call_fn rfl hy ha hp hw hz) (rgO h))
theorem i_ste {r i j sz n e : Nat} {rows : List (List Cell)} {row : List Cell} {vs : List CV} {ds : List Cell} (hx : s.ev x = .one (.el r i j sz)) (hH : getH s.H r = .arr e sz rows) (hn : (tyAt k.τ t').size = some n) (hy : (s.ev y).cells = some vs) (hds : unDL vs = some ds) (hl : ds.length = n) (hi : rows[i]? = some row) (hle : j + n ≤ row.length)
    (h : rg k w0 ops l Q (s.hput r (.arr e sz (rows.set i (setSegC row j ds))))) : rg k w0 ops (⟨none, .store t' x y, t, p, af, none⟩ :: l) Q s :=
  rgI (irg_h rfl (opr_store_el k.ok rfl rfl hx hH hn hy hds hl hi hle) (rgO h))
theorem i_ap0 {e sz by_ : Nat} {zs : List Z} {rows' : List (List Cell)} (hN : Nat.blt d k.N = true) (ht : tyAt k.τ t' = .sl e sz by_) (hz : (tyAt k.τ e).zs = some zs) (hzl : zs.length = sz) (h0 : Nat.blt 0 sz = true) (hx : s.ev x = .one .nil) (hy : Src s sz (s.ev y) rows') (hf : s.fresh d = true)
    (hbd : rows'.length * by_ ≤ 140737488355328) (hb0 : Nat.blt 0 by_ = true) (h : rg k w0 ops l Q ((s.hput d (.arr e sz rows')).put d (.one (.sl d rows'.length sz)))) : rg k w0 ops (⟨some d, .call { callee := .builtin .append, args := #[x, y], argTypes := #[t', t'] }, t, p, af, none⟩ :: l) Q s :=
  rgI (irg_h rfl (opr_append_nil k.ok rfl rfl (nlt hN) ht hz hzl (nlt h0) hx hy hf hbd (nlt hb0)) (rgO h))
theorem i_ap {e sz by_ r n : Nat} {zs : List Z} {rows rows' : List (List Cell)} (hN : Nat.blt d k.N = true) (ht : tyAt k.τ t' = .sl e sz by_) (hz : (tyAt k.τ e).zs = some zs) (hzl : zs.length = sz) (h0 : Nat.blt 0 sz = true) (hx : s.ev x = .one (.sl r n sz)) (hr : getH s.H r = .arr e sz rows) (hn : n = rows.length) (hy : Src s sz (s.ev y) rows') (hf : allH r s.H = true)
    (hbd : (rows.length + rows'.length) * by_ ≤ 140737488355328) (hb0 : Nat.blt 0 by_ = true) (h : rg k w0 ops l Q ((St.mk (killF r s.F) ((r, .arr e sz (rows ++ rows')) :: s.H)).put d (.one (.sl r (rows ++ rows').length sz)))) : rg k w0 ops (⟨some d, .call { callee := .builtin .append, args := #[x, y], argTypes := #[t', t'] }, t, p, af, none⟩ :: l) Q s :=
  rgI (irg_h rfl (opr_append_sl k.ok rfl rfl (nlt hN) ht hz hzl (nlt h0) hx hr hn hy hf hbd (nlt hb0)) (rgO h))
end
section
variable {k : Wk} {w0 : Org} {s : St} {Q : Exit → St → Prop}
theorem c_seq {x y : Code} (h : wk k w0 x (kThen k w0 y Q) s) : wk k w0 (.seq x y) Q s := wkI (iwp_seq (by have := wkO h; unfold kThen at this; exact this))
theorem c_rg {id : Nat} {l : List Oper} (h : rg k w0 l.toArray l (Q .normal) s) : wk k w0 (.region id l.toArray false) Q s := wkI (iwp_region (rgO h))
theorem c_t {c : Operand} {x y : Code} {b : Bool} (hc : s.ev c = .one (.d (.bool b))) (hb : b = true) (h : wk k w0 x Q s) : wk k w0 (.cond c x y) Q s := wkI (iwp_cond_t (hb ▸ hc) (wkO h))
theorem c_f {c : Operand} {x y : Code} {b : Bool} (hc : s.ev c = .one (.d (.bool b))) (hb : b = false) (h : wk k w0 y Q s) : wk k w0 (.cond c x y) Q s := wkI (iwp_cond_f (hb ▸ hc) (wkO h))
theorem c_if {c : Operand} {x y : Code} {b : Bool} (hc : s.ev c = .one (.d (.bool b))) (h1 : b = true → wk k w0 x Q s) (h2 : b = false → wk k w0 y Q s) : wk k w0 (.cond c x y) Q s := wkI (iwp_cond hc (fun e => wkO (h1 e)) fun e => wkO (h2 e))
theorem c_bl {id : Nat} {c : Code} (h : wk k w0 c (kBlock id Q) s) : wk k w0 (.block id c) Q s := wkI (iwp_block (by have := wkO h; unfold kBlock at this; exact this))
theorem c_ex {id : Nat} (h : Q (.exit id) s) : wk k w0 (.exit id) Q s := wkI (iwp_exit h)
theorem c_ret (h : Q .ret s) : wk k w0 .ret Q s := wkI (iwp_ret h)
theorem c_sk (h : Q .normal s) : wk k w0 .skip Q s := wkI (iwp_skip h)
theorem q_n {y : Code} (h : wk k w0 y Q s) : kThen k w0 y Q .normal s := by unfold kThen; exact wkO h
theorem q_r {y : Code} (h : Q .ret s) : kThen k w0 y Q .ret s := by unfold kThen; exact h
theorem q_e {y : Code} {i : Nat} (h : Q (.exit i) s) : kThen k w0 y Q (.exit i) s := by unfold kThen; exact h
theorem b_n {id : Nat} (h : Q .normal s) : kBlock id Q .normal s := by unfold kBlock; exact h
theorem b_r {id : Nat} (h : Q .ret s) : kBlock id Q .ret s := by unfold kBlock; exact h
theorem b_e {id : Nat} (h : Q .normal s) : kBlock id Q (.exit id) s := by unfold kBlock; exact iblock_e h
theorem b_o {id i : Nat} (hn : Nat.beq i id = false) (h : Q (.exit i) s) : kBlock id Q (.exit i) s := by unfold kBlock; exact iblock_o hn h
theorem n_n {R : St → Prop} (h : R s) : kRound Q R .normal s := by unfold kRound; exact h
theorem n_r {R : St → Prop} (h : Q .ret s) : kRound Q R .ret s := by unfold kRound; exact h
theorem n_e {R : St → Prop} {i : Nat} (h : Q (.exit i) s) : kRound Q R (.exit i) s := by unfold kRound; exact h
theorem c_loop {ι : Type} {c : Code} (I : ι → St) (p : ι → Prop) (μ : ι → Nat) (vs : List Nat) (i0 : ι) (hp : p i0) (h0 : Fits vs s (I i0))
    (round : ∀ i, p i → wk k w0 c (kRound Q (fun s' => ∃ i', p i' ∧ μ i' < μ i ∧ ∃ vs', Fits vs' s' (I i'))) (I i)) : wk k w0 (.loop c) Q s :=
  wkI (iwp_loop I p μ vs i0 hp h0 fun i hi => by have := wkO (round i hi); unfold kRound at this; exact this)
end
section
variable {τ : List TyI} {fn : Func} {post : SV → Prop} {s : St}
end
theorem ic_wk (k : Wk) {f : FuncId} {fn : Func} {c : Code} {args : List SV} {post : SV → Prop} (hf : k.P.funcs[f]? = some fn) (hN : fn.ntmps = k.N) (hname : (fn.name == "runtime.NumGoroutine") = false) (hb : fn.body = some c) (hn : Nat.ble args.length k.N = true)
    (h : ∀ w0, wk k w0 c (RetQ k.τ fn post) ⟨argF 0 args, []⟩) : IC k.P k.T f args post :=
  ic_of k.ok hf hname hb (by rw [hN]; exact hn) fun w0 => by rw [hN]; exact wkO (h w0)
end Go.Proofs.Ytpneplgaeiomkaa

