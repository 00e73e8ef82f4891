/- Operations that store into nothing, on ideal states. -/
import Derived.Test.YtbnmcdnkeipdhaaIvb
import Derived.IntWalk
import Derived.Laws.StructEq
set_option linter.all false
namespace Go.Proofs.Ytbnmcdnkeipdhaa
open Go.RowKit

def ccell : Value → CV
  | .bool b => .d (.bool b)
  | .int k n => bif (Lit.int k n).wf then .d (.int k n) else .u
  | .string s => bif Nat.ble s.size 1000000 then .d (.str s) else .u
  | .slice none 0 0 => .nil
  | _ => .u
def cval : Value → SV
  | .bool b => .one (.d (.bool b))
  | .int k n => bif (Lit.int k n).wf then .one (.d (.int k n)) else .u
  | .string s => bif Nat.ble s.size 1000000 then .one (.d (.str s)) else .u
  | .slice none 0 0 => .one .nil
  | .agg vs => bif vs.all (·.oneCell') then .agg (vs.toList.map ccell) else .u
  | _ => .u
def St.ev (s : St) : Operand → SV
  | .tmp t => getF s.F t
  | .const v => cval v
  | .func f => .one (.clo f [])
  | .global _ => .u

section
variable {P : Program} {T : TypeId} {N : Nat} {w0 : Org} {g : Gh} {s : St} {a : Act} {w : World}
theorem ccell_rep {v : Value} (h : v.oneCell' = true) : RepCV P g w v (ccell v) := by
  unfold ccell
  split
  · exact .d (.bool _)
  · rename_i k n
    cases hw : (Lit.int k n).wf
    · exact .u rfl
    · exact .d (.int _ _ hw)
  · rename_i s
    cases hw : Nat.ble s.size 1000000
    · exact .u rfl
    · exact .d (.str _ (by have := Nat.le_of_ble_eq_true hw; unfold maxLen; omega))
  · exact .nil
  · exact .u h
theorem cval_rep (v : Value) : RepSV P g w v (cval v) := by
  unfold cval
  split
  · exact .one (.d (.bool _))
  · rename_i k n
    cases hw : (Lit.int k n).wf
    · exact .u _
    · exact .one (.d (.int _ _ hw))
  · rename_i s
    cases hw : Nat.ble s.size 1000000
    · exact .u _
    · exact .one (.d (.str _ (by have := Nat.le_of_ble_eq_true hw; unfold maxLen; omega)))
  · exact .one .nil
  · rename_i vs
    cases hw : vs.all (·.oneCell')
    · exact .u _
    · refine .agg vs _ (by simp) fun j v c h1 h2 => ?_
      rw [List.getElem?_map] at h2
      rw [← Array.getElem?_toList] at h1
      rw [h1] at h2
      simp at h2
      subst h2
      rw [Array.all_eq_true] at hw
      obtain ⟨hj, e⟩ := List.getElem?_eq_some_iff.1 h1
      have := hw j (by simpa using hj)
      rw [← e]
      exact ccell_rep (by simpa using this)
  · exact .u _
theorem Sim.ev (h : Sim P T N w0 g s a w) (x : Operand) : RepSV P g w (a.eval x) (s.ev x) := by
  cases x with
  | tmp t => exact h.hF t
  | const v => exact cval_rep v
  | func f => exact .one (.clo f #[] [] rfl (by simp))
  | global g => exact .u _

theorem RepSV.one_inv {v : Value} {c : CV} (h : RepSV P g w v (.one c)) : RepCV P g w v c := by cases h; assumption
theorem RepSV.agg_inv {v : Value} {cs : List CV} (h : RepSV P g w v (.agg cs)) : ∃ vs : Array Value, v = .agg vs ∧ vs.size = cs.length ∧ ∀ (j : Nat) (v : Value) (c : CV), vs[j]? = some v → cs[j]? = some c → RepCV P g w v c := by
  cases h with | agg vs _ hs h => exact ⟨vs, rfl, hs, h⟩
theorem RepSV.bool_inv {v : Value} {b : Bool} (h : RepSV P g w v (.one (.d (.bool b)))) : v = .bool b := by
  cases h with | one h => cases h with | d h => cases h; rfl
theorem RepSV.int_inv {v : Value} {k : IntKind} {n : Int} (h : RepSV P g w v (.one (.d (.int k n)))) : v = .int k n ∧ (Lit.int k n).wf = true := by
  cases h with | one h => cases h with | d h => cases h; exact ⟨rfl, by assumption⟩
theorem RepSV.str_inv {v : Value} {b : ByteArray} (h : RepSV P g w v (.one (.d (.str b)))) : v = .string b ∧ b.size ≤ maxLen := by
  cases h with | one h => cases h with | d h => cases h; exact ⟨rfl, by assumption⟩
theorem RepSV.list_inv {v : Value} {xs : List (List Cell)} (h : RepSV P g w v (.one (.d (.list xs)))) : RepCell g.Rd w v (.list xs) := by
  cases h with | one h => cases h with | d h => exact h
end

/-- What an operation does that hands back a value. -/
def Runs (P : Program) (o : Oper) (a : Act) (w : World) (R : Value → World → Prop) : Prop :=
  ∀ (K : Act → World → Prop) (Q : Exit → Act → World → Prop), (∀ v w', R v w' → K (a.put o.dst v) w') → o.wp P a w K Q
theorem Runs.value {P : Program} {o : Oper} {a : Act} {w w' : World} {R : Value → World → Prop} {v : Value} (h : (execOp a.eval o).run P w = .ok (.value v) w') (hR : R v w') : Runs P o a w R := by
  intro K Q hK
  unfold Oper.wp
  rw [h]
  exact hK _ _ hR
theorem Runs.skip {P : Program} {o : Oper} {a : Act} {w w' : World} {R : Value → World → Prop} (h : (execOp a.eval o).run P w = .ok .skip w') (hR : R undef w') : Runs P o a w R := by
  intro K Q hK
  unfold Oper.wp
  rw [h]
  exact hK _ _ hR

/-- From a state like s the operation yields something of post, and stores into nothing. -/
def OpQ (P : Program) (T : TypeId) (N : Nat) (w0 : Org) (s : St) (o : Oper) (post : SV → Prop) : Prop :=
  ∀ g a w, Sim P T N w0 g s a w → Runs P o a w fun v w' => ∃ g' sv, post sv ∧ Ext T g g' w w' ∧ RepSV P g' w' v sv
/-- It yields just sv. -/
def OpE (P : Program) (T : TypeId) (N : Nat) (w0 : Org) (s : St) (o : Oper) (sv : SV) : Prop := OpQ P T N w0 s o (fun x => x = sv)

section
variable {P : Program} {T : TypeId} {N : Nat} {w0 : Org} {g : Gh} {s : St} {a : Act} {w : World} {o : Oper}
theorem Ext.refl (h : GI T w0 g s.H w) : Ext T g g w w :=
  ⟨rfl, rfl, rfl, rfl, fun _ _ h => h, fun _ _ h => .inl h, Keep.refl _ _, fun tb htb => (h.tape tb htb).2⟩
theorem ope_val {sv : SV} (h : ∀ g a w, Sim P T N w0 g s a w → ∃ v, (execOp a.eval o).run P w = .ok (.value v) w ∧ RepSV P g w v sv) : OpE P T N w0 s o sv := by
  intro g a w hs
  obtain ⟨v, h1, h2⟩ := h g a w hs
  exact Runs.value h1 ⟨g, sv, rfl, Ext.refl hs.gi, h2⟩

theorem ope_move {x : Operand} (ho : o.op = .move x) : OpE P T N w0 s o (s.ev x) :=
  ope_val fun g a w hs => ⟨a.eval x, by simp [execOp, ho, go_sem], hs.ev x⟩
theorem ope_assign {x : Operand} (ho : o.op = .assign x) : OpE P T N w0 s o (s.ev x) :=
  ope_val fun g a w hs => ⟨a.eval x, by simp [execOp, ho, go_sem], hs.ev x⟩
theorem ope_pick_t {c x y : Operand} (ho : o.op = .pick c x y) (hc : s.ev c = .one (.d (.bool true))) : OpE P T N w0 s o (s.ev x) :=
  ope_val fun g a w hs => ⟨a.eval x, by
    have := hs.ev c; rw [hc] at this
    simp [execOp, ho, asBool, this.bool_inv], hs.ev x⟩
theorem ope_pick_f {c x y : Operand} (ho : o.op = .pick c x y) (hc : s.ev c = .one (.d (.bool false))) : OpE P T N w0 s o (s.ev y) :=
  ope_val fun g a w hs => ⟨a.eval y, by
    have := hs.ev c; rw [hc] at this
    simp [execOp, ho, asBool, this.bool_inv], hs.ev y⟩
/-- An operation on scalars: its result is known. -/
theorem ope_scalar {v : Value} {c : Cell} (h : ∀ g a w, Sim P T N w0 g s a w → (execOp a.eval o).run P w = .ok (.value v) w) (hc : c.sval = some v) (hw : ∀ k n, c = .int k n → (Lit.int k n).wf = true) (hz : ∀ b, c = .str b → b.size ≤ maxLen) : OpE P T N w0 s o (.one (.d c)) :=
  ope_val fun g a w hs => ⟨v, h g a w hs, .one (.d (by
    cases c with
    | bool b => simp [Cell.sval] at hc; subst hc; exact .bool b
    | int k n => simp [Cell.sval] at hc; subst hc; exact .int k n (hw k n rfl)
    | str b => simp [Cell.sval] at hc; subst hc; exact .str b (hz b rfl)
    | list xs => simp [Cell.sval] at hc))⟩
theorem ope_not {x : Operand} {b : Bool} {t : TypeId} (ho : o.op = .unOp .not t x) (hx : s.ev x = .one (.d (.bool b))) : OpE P T N w0 s o (.one (.d (.bool (!b)))) :=
  ope_scalar (v := .bool (!b)) (fun g a w hs => by
    have := hs.ev x; rw [hx] at this
    simp [execOp, ho, Op.unary, this.bool_inv]) rfl (by simp) (by simp)
def CV.ptr : CV → Bool
  | .ref _ _ => true
  | .el _ _ _ _ => true
  | .rp _ => true
  | .clo _ _ => true
  | .fn _ => true
  | .tape => true
  | _ => false
theorem nilCheck_ok {v : Value} {c : CV} (h : RepCV P g w v c) (hc : c.ptr = true) : (∃ a, v = .pointer (some a)) ∨ ∃ f vs, v = .func (.func f) #[] vs := by
  cases h with
  | ref off h => exact .inl ⟨_, rfl⟩
  | el i j sz h => exact .inl ⟨_, rfl⟩
  | rp b o cs vals h hr => exact .inl ⟨_, rfl⟩
  | clo f vs cs hs h => exact .inr ⟨_, _, rfl⟩
  | fn h => obtain ⟨f, cap, e, _⟩ := h; exact .inr ⟨_, _, e⟩
  | tape h => exact .inl ⟨_, rfl⟩
  | u h => cases hc
  | d h => cases hc
  | nil => cases hc
  | slv sz h => cases hc
  | sl n sz h h1 h2 => cases hc
  | slp => cases hc
  | slpv => cases hc
theorem ope_nilCheck {x : Operand} {c : CV} (ho : o.op = .nilCheck x) (hx : s.ev x = .one c) (hc : c.ptr = true) : OpE P T N w0 s o (.one c) :=
  ope_val fun g a w hs => ⟨a.eval x, by
    have h := hs.ev x; rw [hx] at h
    rcases nilCheck_ok h.one_inv hc with ⟨v, e⟩ | ⟨f, vs, e⟩ <;> simp [execOp, ho, e], hx ▸ hs.ev x⟩

/-! numbers -/
theorem wrap_wf (k : IntKind) (n : Int) : (Lit.int k (k.wrap n)).wf = true := by
  cases k <;> simp [Lit.wf, IntKind.wrap, IntKind.min, IntKind.max, IntKind.bits, IntKind.signed] <;> (try split) <;> omega
theorem ope_int {op : BinOp} {t t' : TypeId} {x y : Operand} {k : IntKind} {m n r : Int} (ho : o.op = .binOp op t x y t') (hx : s.ev x = .one (.d (.int k m))) (hy : s.ev y = .one (.d (.int k n)))
    (hop : (op == .eql || op == .neq) = false) (hr : ∀ w, (binOp op t (.int k m) (.int k n)).run P w = .ok (.int k r) w) (hw : (Lit.int k m).wf = true → (Lit.int k n).wf = true → (Lit.int k r).wf = true) : OpE P T N w0 s o (.one (.d (.int k r))) :=
  ope_val fun g a w hs => ⟨.int k r, by
    have h1 := hs.ev x; rw [hx] at h1
    have h2 := hs.ev y; rw [hy] at h2
    have e : (eqGuard op t x y (.int k m) (.int k n)).run P w = .ok () w := by unfold eqGuard; cases op <;> simp at hop <;> rfl
    simp [execOp, ho, h1.int_inv.1, h2.int_inv.1, e, hr], .one (.d (.int _ _ (by
    have h1 := hs.ev x; rw [hx] at h1
    have h2 := hs.ev y; rw [hy] at h2
    exact hw h1.int_inv.2 h2.int_inv.2)))⟩
section
variable {t t' : TypeId} {x y : Operand} {k : IntKind} {m n r : Int}
theorem ope_add (ho : o.op = .binOp .add t x y t') (hx : s.ev x = .one (.d (.int k m))) (hy : s.ev y = .one (.d (.int k n))) (hr : k.wrap (m + n) = r) : OpE P T N w0 s o (.one (.d (.int k r))) :=
  ope_int ho hx hy rfl (fun w => by simp [binOp, Op.intArith, hr]) (fun _ _ => hr ▸ wrap_wf k _)
theorem ope_sub (ho : o.op = .binOp .sub t x y t') (hx : s.ev x = .one (.d (.int k m))) (hy : s.ev y = .one (.d (.int k n))) (hr : k.wrap (m - n) = r) : OpE P T N w0 s o (.one (.d (.int k r))) :=
  ope_int ho hx hy rfl (fun w => by simp [binOp, Op.intArith, hr]) (fun _ _ => hr ▸ wrap_wf k _)
theorem ope_mul (ho : o.op = .binOp .mul t x y t') (hx : s.ev x = .one (.d (.int k m))) (hy : s.ev y = .one (.d (.int k n))) (hr : k.wrap (m * n) = r) : OpE P T N w0 s o (.one (.d (.int k r))) :=
  ope_int ho hx hy rfl (fun w => by simp [binOp, Op.intArith, hr]) (fun _ _ => hr ▸ wrap_wf k _)
theorem ope_quo (ho : o.op = .binOp .quo t x y t') (hx : s.ev x = .one (.d (.int k m))) (hy : s.ev y = .one (.d (.int k n))) (hn : n ≠ 0) (hr : k.wrap (m.tdiv n) = r) : OpE P T N w0 s o (.one (.d (.int k r))) :=
  ope_int ho hx hy rfl (fun w => by simp [binOp, Op.intDiv, hn, hr]) (fun _ _ => hr ▸ wrap_wf k _)
theorem tmod_wf (k : IntKind) (m n : Int) (hm : (Lit.int k m).wf = true) (hn : (Lit.int k n).wf = true) (h0 : n ≠ 0) : (Lit.int k (m.tmod n)).wf = true := by
  have a1 : m.tmod n = if 0 ≤ m then m % (if 0 ≤ n then n else -n) else -((-m) % (if 0 ≤ n then n else -n)) := by
    rcases Int.le_total 0 m with h | h
    · rw [if_pos h, Int.tmod_eq_emod_of_nonneg h]
      split
      · rfl
      · rw [Int.emod_neg]
    · by_cases h' : 0 ≤ m
      · have : m = 0 := by omega
        subst this; simp
      · rw [if_neg h']
        have e : m.tmod n = -((-m).tmod n) := by rw [Int.neg_tmod]; omega
        rw [e, Int.tmod_eq_emod_of_nonneg (by omega)]
        split
        · rfl
        · rw [Int.emod_neg]
  obtain ⟨q, hq⟩ : ∃ q, (if 0 ≤ n then n else -n) = q := ⟨_, rfl⟩
  have hq2 : 0 < q ∧ (q = n ∨ q = -n) := by rw [← hq]; split <;> omega
  rw [hq] at a1
  have b1 : 0 ≤ m % q := Int.emod_nonneg _ (by omega)
  have b2 : m % q < q := Int.emod_lt_of_pos _ (by omega)
  have c1 : 0 ≤ (-m) % q := Int.emod_nonneg _ (by omega)
  have c2 : (-m) % q < q := Int.emod_lt_of_pos _ (by omega)
  rw [a1]
  clear a1 hq
  generalize m % q = e1 at *
  generalize (-m) % q = e2 at *
  cases k <;> simp [Lit.wf, IntKind.min, IntKind.max, IntKind.bits, IntKind.signed] at hm hn ⊢ <;> split <;> omega
theorem ope_rem (ho : o.op = .binOp .rem t x y t') (hx : s.ev x = .one (.d (.int k m))) (hy : s.ev y = .one (.d (.int k n))) (hn : n ≠ 0) (hr : m.tmod n = r) : OpE P T N w0 s o (.one (.d (.int k r))) :=
  ope_int ho hx hy rfl (fun w => by simp [binOp, Op.intDiv, hn, hr]) (fun h1 h2 => hr ▸ tmod_wf k m n h1 h2 hn)
theorem ope_bits {op : BinOp} (hop : op = .and ∨ op = .or ∨ op = .xor ∨ op = .andNot) (ho : o.op = .binOp op t x y t') (hx : s.ev x = .one (.d (.int k m))) (hy : s.ev y = .one (.d (.int k n))) (hr : bits op k m n = r) : OpE P T N w0 s o (.one (.d (.int k r))) := by
  rcases hop with rfl | rfl | rfl | rfl
  all_goals
    refine ope_int ho hx hy rfl (fun w => ?_) (fun _ _ => ?_)
    · rw [← hr]; simp [binOp, Op.intBits, bits]
    · rw [← hr]; simp only [bits]; exact wrap_wf k _
theorem ope_cmp {op : BinOp} {b : Bool} (ho : o.op = .binOp op t x y t') (hx : s.ev x = .one (.d (.int k m))) (hy : s.ev y = .one (.d (.int k n))) (hr : Op.intCmp op m n = pure (.bool b)) (hop : (match op with | .eql => true | .neq => true | .lss => true | .leq => true | .gtr => true | .geq => true | _ => false) = true) : OpE P T N w0 s o (.one (.d (.bool b))) :=
  ope_scalar (v := .bool b) (fun g a w hs => by
    have h1 := hs.ev x; rw [hx] at h1
    have h2 := hs.ev y; rw [hy] at h2
    have e : (eqGuard op t x y (.int k m) (.int k n)).run P w = .ok () w := by unfold eqGuard; cases op <;> simp at hop <;> rfl
    have e2 : (binOp op t (.int k m) (.int k n)) = Op.intCmp op m n := by cases op <;> simp at hop <;> simp [binOp]
    simp [execOp, ho, h1.int_inv.1, h2.int_inv.1, e, e2, hr]) rfl (by simp) (by simp)
theorem ope_eql (ho : o.op = .binOp .eql t x y t') (hx : s.ev x = .one (.d (.int k m))) (hy : s.ev y = .one (.d (.int k n))) : OpE P T N w0 s o (.one (.d (.bool (decide (m = n))))) :=
  ope_cmp ho hx hy (by simp only [Op.intCmp]; rfl) rfl
theorem ope_neq (ho : o.op = .binOp .neq t x y t') (hx : s.ev x = .one (.d (.int k m))) (hy : s.ev y = .one (.d (.int k n))) : OpE P T N w0 s o (.one (.d (.bool (!decide (m = n))))) :=
  ope_cmp ho hx hy (by simp only [Op.intCmp]; rfl) rfl
theorem ope_lss (ho : o.op = .binOp .lss t x y t') (hx : s.ev x = .one (.d (.int k m))) (hy : s.ev y = .one (.d (.int k n))) : OpE P T N w0 s o (.one (.d (.bool (decide (m < n))))) := ope_cmp ho hx hy rfl rfl
theorem ope_leq (ho : o.op = .binOp .leq t x y t') (hx : s.ev x = .one (.d (.int k m))) (hy : s.ev y = .one (.d (.int k n))) : OpE P T N w0 s o (.one (.d (.bool (decide (m ≤ n))))) := ope_cmp ho hx hy rfl rfl
theorem ope_gtr (ho : o.op = .binOp .gtr t x y t') (hx : s.ev x = .one (.d (.int k m))) (hy : s.ev y = .one (.d (.int k n))) : OpE P T N w0 s o (.one (.d (.bool (decide (n < m))))) := ope_cmp ho hx hy rfl rfl
theorem ope_geq (ho : o.op = .binOp .geq t x y t') (hx : s.ev x = .one (.d (.int k m))) (hy : s.ev y = .one (.d (.int k n))) : OpE P T N w0 s o (.one (.d (.bool (decide (n ≤ m))))) := ope_cmp ho hx hy rfl rfl
theorem ope_beq {b c : Bool} (hu : P.underlying t = some .bool) (ho : o.op = .binOp .eql t x y t') (hx : s.ev x = .one (.d (.bool b))) (hy : s.ev y = .one (.d (.bool c))) : OpE P T N w0 s o (.one (.d (.bool (b == c)))) :=
  ope_scalar (v := .bool (b == c)) (fun g a w hs => by
    have h1 := hs.ev x; rw [hx] at h1
    have h2 := hs.ev y; rw [hy] at h2
    have e : (eqGuard .eql t x y (.bool b) (.bool c)).run P w = .ok () w := by unfold eqGuard; rfl
    have e2 : (binOp .eql t (.bool b) (.bool c)).run P w = .ok (.bool (b == c)) w := by simp only [binOp]; simp only [Sem.run_bind, run_equal_bool w t b c hu, Result.andThen_ok, Sem.run_pure]
    simp only [execOp, ho, h1.bool_inv, h2.bool_inv, Sem.run_bind, e, e2, Result.andThen_ok, Sem.run_pure]) rfl (by simp) (by simp)
theorem ope_bne {b c : Bool} (hu : P.underlying t = some .bool) (ho : o.op = .binOp .neq t x y t') (hx : s.ev x = .one (.d (.bool b))) (hy : s.ev y = .one (.d (.bool c))) : OpE P T N w0 s o (.one (.d (.bool (!(b == c))))) :=
  ope_scalar (v := .bool (!(b == c))) (fun g a w hs => by
    have h1 := hs.ev x; rw [hx] at h1
    have h2 := hs.ev y; rw [hy] at h2
    have e : (eqGuard .neq t x y (.bool b) (.bool c)).run P w = .ok () w := by unfold eqGuard; rfl
    have e2 : (binOp .neq t (.bool b) (.bool c)).run P w = .ok (.bool (!(b == c))) w := by simp only [binOp]; simp only [Sem.run_bind, run_equal_bool w t b c hu, Result.andThen_ok, Sem.run_pure]
    simp only [execOp, ho, h1.bool_inv, h2.bool_inv, Sem.run_bind, e, e2, Result.andThen_ok, Sem.run_pure]) rfl (by simp) (by simp)
end
end
end Go.Proofs.Ytbnmcdnkeipdhaa
