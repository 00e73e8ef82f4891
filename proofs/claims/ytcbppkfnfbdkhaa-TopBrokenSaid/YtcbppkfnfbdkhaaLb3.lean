/- Texts of the library, put together. -/
import Derived.Test.YtcbppkfnfbdkhaaLb2
import Derived.Laws.Cover3
import Derived.Laws.MakeOwn
import Derived.Laws.IdiomCopy
import Derived.Laws.CopyRow
import Derived.Laws.Strings
import Derived.Laws.Small
import Derived.Laws.IdiomStrings
import Derived.Laws.BytesArg
import Derived.Laws.Cover1
import Derived.Lib.ConvBytes
import Derived.Lib.AppendStr
import Derived.Orders
/- Operations that hand back a value, or change the heap, by one function each. -/
set_option linter.all false
namespace Go.Proofs.Ytcbppkfnfbdkhaa
open Go.RowKit Go.Shelf
def listK {α β : Type} : List α → (List α → β) → β
  | [], k => k []
  | c :: l, k => listK l fun r => k (c :: r)
theorem listK_eq {α β : Type} (l : List α) (k : List α → β) : listK l k = k l := by
  induction l generalizing k with
  | nil => rfl
  | cons c l ih => simp only [listK, ih]
def forceL {β : Type} : List CV → (List CV → β) → β
  | [], k => k []
  | c :: l, k => forceL l fun q => match c with
    | .sl r n sz => k (.sl r n sz :: q)
    | .d x => k (.d x :: q)
    | .nil => k (.nil :: q)
    | .u => k (.u :: q)
    | .ref r o => k (.ref r o :: q)
    | .el r i j sz => k (.el r i j sz :: q)
    | .slp r o n sz => k (.slp r o n sz :: q)
    | .rp cs => k (.rp cs :: q)
    | .clo f cs => k (.clo f cs :: q)
    | .fn p => k (.fn p :: q)
    | .tape => k (.tape :: q)
theorem forceL_eq {β : Type} (l : List CV) (k : List CV → β) : forceL l k = k l := by
  induction l generalizing k with
  | nil => rfl
  | cons c l ih => simp only [forceL, ih]; cases c <;> rfl
def nrm : Option SV → Option SV
  | none => none
  | some (.agg l) => forceL l fun r => some (.agg r)
  | some (.one (.rp l)) => forceL l fun r => some (.one (.rp r))
  | some (.one c) => some (.one c)
  | some (.tup l) => some (.tup l)
  | some .u => some .u
theorem nrm_eq (x : Option SV) : nrm x = x := by
  unfold nrm
  split
  · rfl
  · rw [forceL_eq]
  · rw [forceL_eq]
  · rfl
  · rfl
  · rfl
def nthO {α : Type} : List α → Nat → Option α
  | [], _ => none
  | x :: _, 0 => some x
  | _ :: l, n + 1 => nthO l n
theorem nthO_eq {α : Type} (l : List α) (n : Nat) : nthO l n = l[n]? := by
  induction l generalizing n with
  | nil => rfl
  | cons x l ih => cases n <;> simp [nthO, ih]
def dropO {α : Type} : Nat → List α → Option (List α)
  | 0, l => some l
  | _ + 1, [] => none
  | n + 1, _ :: l => dropO n l
theorem dropO_eq {α : Type} {n : Nat} {l r : List α} (h : dropO n l = some r) : r = l.drop n ∧ n ≤ l.length := by
  induction n generalizing l with
  | zero => simp [dropO] at h; simp [h]
  | succ n ih =>
    cases l with
    | nil => cases h
    | cons c l => obtain ⟨e1, e2⟩ := ih (by simpa [dropO] using h); simp [e1]; omega
def takeO {α : Type} : Nat → List α → Option (List α)
  | 0, _ => some []
  | _ + 1, [] => none
  | n + 1, c :: l => match takeO n l with | some r => some (c :: r) | none => none
theorem takeO_eq {α : Type} {n : Nat} {l r : List α} (h : takeO n l = some r) : r = l.take n ∧ n ≤ l.length := by
  induction n generalizing l r with
  | zero => simp [takeO] at h; simp [h]
  | succ n ih =>
    cases l with
    | nil => cases h
    | cons c l =>
      simp only [takeO] at h
      cases hx : takeO n l with
      | none => rw [hx] at h; cases h
      | some q =>
        rw [hx] at h
        injection h with h
        obtain ⟨e1, e2⟩ := ih hx
        subst h e1
        simp; omega
def loadO (ty : TyI) (cs : List CV) : Option SV :=
  match ty with
  | .one _ => match cs with | c :: _ => some (.one c) | [] => none
  | .sl _ _ _ => match cs with | c :: _ => some (.one c) | [] => none
  | .st n _ _ => match takeO n cs with | some r => some (.agg r) | none => none
  | .ar n _ _ _ _ => match takeO n cs with | some r => some (.agg r) | none => none
  | .bad => none
def kN : IntKind → Nat
  | .i8 => 0 | .i16 => 1 | .i32 => 2 | .i64 => 3 | .u8 => 4 | .u16 => 5 | .u32 => 6 | .u64 => 7
theorem kN_inj {a b : IntKind} (h : Nat.beq (kN a) (kN b) = true) : a = b := by
  cases a <;> cases b <;> first | rfl | cases h
def cmpO (op : BinOp) (k : IntKind) (m n : Int) : Option Cell :=
  match op with
  | .eql => some (.bool (decide (m = n)))
  | .neq => some (.bool (!decide (m = n)))
  | .lss => some (.bool (decide (m < n)))
  | .leq => some (.bool (decide (m ≤ n)))
  | .gtr => some (.bool (decide (n < m)))
  | .geq => some (.bool (decide (n ≤ m)))
  | .and => some (.int k (bits .and k m n))
  | .or => some (.int k (bits .or k m n))
  | .xor => some (.int k (bits .xor k m n))
  | .andNot => some (.int k (bits .andNot k m n))
  | _ => none
def opV (τ : List TyI) (F : List (Nat × SV)) (H : List (Nat × VH)) : Op → Option SV
  | .move x => some ((St.mk F H).ev x)
  | .assign x => some ((St.mk F H).ev x)
  | .load t x => match (St.mk F H).ev x with
    | .one (.rp cs) => loadO (tyAt τ t) cs
    | .one (.ref r off) => match getH H r with
      | .blk _ cs => match dropO off cs with | some r => loadO (tyAt τ t) r | none => none
      | _ => none
    | _ => none
  | .fieldAddr t x f => match tyAt τ t with
    | .st _ fs _ => match nthO fs f with
      | some (o, _, _) => match (St.mk F H).ev x with
        | .one (.ref r off) => some (.one (.ref r (off + o)))
        | .one (.rp cs) => match dropO o cs with | some r => some (.one (.rp r)) | none => none
        | .one (.el r i j sz) => some (.one (.el r i (j + o) sz))
        | _ => none
      | none => none
    | _ => none
  | .field t x f => match tyAt τ t with
    | .st _ fs _ => match nthO fs f with
      | some (o, ft, _) => match (St.mk F H).ev x with
        | .agg cs => match dropO o cs with | some r => loadO (tyAt τ ft) r | none => none
        | _ => none
      | none => none
    | _ => none
  | .unOp .not _ x => match (St.mk F H).ev x with
    | .one (.d (.bool b)) => some (.one (.d (.bool (!b))))
    | _ => none
  | .nilCheck x => match (St.mk F H).ev x with
    | .one c => bif c.ptr then some (.one c) else none
    | _ => none
  | .extract x i => match (St.mk F H).ev x with
    | .tup vs => nthO vs i
    | _ => none
  | .makeFunc (.func f) first caps => match first.toList, evL (St.mk F H) caps.toList with
    | [], some cs => some (.one (.clo f cs))
    | _, _ => none
  | .build t parts => match tyAt τ t, partsOf (St.mk F H) parts.toList with
    | .st _ fs zs, some cp => match cfill (fs.map fun f => (f.1, f.2.2)) (zs.map Z.cv) cp with | some r => some (.agg r) | none => none
    | .ar _ len _ sz zs, some cp => match cfill ((List.range len).map fun i => (i * sz, sz)) (zs.map Z.cv) cp with | some r => some (.agg r) | none => none
    | _, _ => none
  | .binOp op _ x y _ => match (St.mk F H).ev x, (St.mk F H).ev y with
    | .one (.d (.int k m)), .one (.d (.int k' n)) => bif Nat.beq (kN k) (kN k') then (match cmpO op k m n with | some c => some (.one (.d c)) | none => none) else none
    | _, _ => none
  | _ => none
section
variable {P : Program} {T : TypeId} {N : Nat} {w0 : Org} {g g' : Gh} {a : Act} {w w' : World} {τ : List TyI} {F : List (Nat × SV)} {H : List (Nat × VH)}
theorem loadO_rp (hτ : tabB P 0 τ = true) {o : Oper} {t : Nat} {x : Operand} {cs : List CV} {v : SV} (ho : o.op = .load t x) (hx : (St.mk F H).ev x = .one (.rp cs)) (h : loadO (tyAt τ t) cs = some v) : OpE P T N w0 ⟨F, H⟩ o v := by
  unfold loadO at h
  split at h
  · rename_i z hty
    cases cs with
    | nil => cases h
    | cons c l => injection h with h; subst h; exact ope_load_rp1 ho hx (tab_one hτ (by rw [hty]; rfl)) rfl
  · rename_i e n b hty
    cases cs with
    | nil => cases h
    | cons c l => injection h with h; subst h; exact ope_load_rp1 ho hx (tab_one hτ (by rw [hty]; rfl)) rfl
  · rename_i n fs zs hty
    cases hq : takeO n cs with
    | none => rw [hq] at h; cases h
    | some r =>
      rw [hq] at h; injection h with h; subst h
      obtain ⟨rfl, hle⟩ := takeO_eq hq
      exact ope_load_rpn ho hx (tab_agg hτ hty) hle
  · rename_i n len e sz zs hty
    cases hq : takeO n cs with
    | none => rw [hq] at h; cases h
    | some r =>
      rw [hq] at h; injection h with h; subst h
      obtain ⟨rfl, hle⟩ := takeO_eq hq
      exact ope_load_rpn ho hx (tab_agga hτ hty) hle
  · cases h
theorem drop_head {α : Type} {l : List α} {n : Nat} {c : α} {r : List α} (h : l.drop n = c :: r) : l[n]? = some c := by
  have : (l.drop n)[0]? = some c := by rw [h]; rfl
  simpa using this
theorem loadO_ref (hτ : tabB P 0 τ = true) {o : Oper} {t tt r off : Nat} {x : Operand} {cs : List CV} {v : SV} (ho : o.op = .load t x) (hx : (St.mk F H).ev x = .one (.ref r off)) (hH : getH H r = .blk tt cs) (hoff : off ≤ cs.length) (h : loadO (tyAt τ t) (cs.drop off) = some v) : OpE P T N w0 ⟨F, H⟩ o v := by
  unfold loadO at h
  split at h
  · rename_i z hty
    cases hc : cs.drop off with
    | nil => rw [hc] at h; cases h
    | cons c l => rw [hc] at h; injection h with h; subst h; exact ope_load_ref1 ho hx hH (tab_one hτ (by rw [hty]; rfl)) (drop_head hc)
  · rename_i e n b hty
    cases hc : cs.drop off with
    | nil => rw [hc] at h; cases h
    | cons c l => rw [hc] at h; injection h with h; subst h; exact ope_load_ref1 ho hx hH (tab_one hτ (by rw [hty]; rfl)) (drop_head hc)
  · rename_i n fs zs hty
    cases hq : takeO n (cs.drop off) with
    | none => rw [hq] at h; cases h
    | some q =>
      rw [hq] at h; injection h with h; subst h
      obtain ⟨rfl, hle⟩ := takeO_eq hq
      exact ope_load_refn ho hx hH (tab_agg hτ hty) (by simp at hle; omega)
  · rename_i n len e sz zs hty
    cases hq : takeO n (cs.drop off) with
    | none => rw [hq] at h; cases h
    | some q =>
      rw [hq] at h; injection h with h; subst h
      obtain ⟨rfl, hle⟩ := takeO_eq hq
      exact ope_load_refn ho hx hH (tab_agga hτ hty) (by simp at hle; omega)
  · cases h
theorem opV_ok (hτ : tabB P 0 τ = true) {o : Oper} {v : SV} (h : opV τ F H o.op = some v) : OpE P T N w0 ⟨F, H⟩ o v := by
  obtain ⟨dst, op, ty, pos, af, gd⟩ := o
  simp only at h
  unfold opV at h
  split at h
  · injection h with h; subst h; exact ope_move rfl
  · injection h with h; subst h; exact ope_assign rfl
  · rename_i t x
    split at h
    · rename_i cs hx; exact loadO_rp hτ rfl hx h
    · rename_i r off hx
      split at h
      · rename_i tt cs hH
        split at h
        · rename_i q hq
          obtain ⟨rfl, hle⟩ := dropO_eq hq
          exact loadO_ref hτ rfl hx hH hle h
        · cases h
      · cases h
    · cases h
  · rename_i t x f
    split at h
    · rename_i n fs zs hty
      split at h
      · rename_i o' ft sz hf
        rw [nthO_eq] at hf
        have hfl := (tab_fld hτ hty hf).1
        split at h
        · rename_i r off hx; injection h with h; subst h; exact ope_fieldAddr_ref rfl hx hfl
        · rename_i cs hx
          split at h
          · rename_i q hq
            obtain ⟨rfl, hle⟩ := dropO_eq hq
            injection h with h; subst h; exact ope_fieldAddr_rp rfl hx hfl
          · cases h
        · rename_i r i j sz hx; injection h with h; subst h; exact ope_fieldAddr_el rfl hx hfl
        · cases h
      · cases h
    · cases h
  · rename_i t x f
    split at h
    · rename_i n fs zs hty
      split at h
      · rename_i o' ft sz hf
        rw [nthO_eq] at hf
        have hfl := (tab_fld hτ hty hf).2
        split at h
        · rename_i cs hx
          split at h
          · rename_i q hq
            obtain ⟨rfl, hle⟩ := dropO_eq hq
            unfold loadO at h
            split at h
            · rename_i z hty2
              cases hc : cs.drop o' with
              | nil => rw [hc] at h; cases h
              | cons c l => rw [hc] at h; injection h with h; subst h; exact ope_field1 rfl hx hfl (tab_one hτ (by rw [hty2]; rfl)) (drop_head hc)
            · rename_i e n b hty2
              cases hc : cs.drop o' with
              | nil => rw [hc] at h; cases h
              | cons c l => rw [hc] at h; injection h with h; subst h; exact ope_field1 rfl hx hfl (tab_one hτ (by rw [hty2]; rfl)) (drop_head hc)
            · rename_i n2 fs2 zs2 hty2
              cases hq : takeO n2 (cs.drop o') with
              | none => rw [hq] at h; cases h
              | some q =>
                rw [hq] at h; injection h with h; subst h
                obtain ⟨rfl, hle2⟩ := takeO_eq hq
                exact ope_fieldn rfl hx hfl (tab_agg hτ hty2) (by simp at hle2; omega)
            · rename_i n2 len e sz2 zs2 hty2
              cases hq : takeO n2 (cs.drop o') with
              | none => rw [hq] at h; cases h
              | some q =>
                rw [hq] at h; injection h with h; subst h
                obtain ⟨rfl, hle2⟩ := takeO_eq hq
                exact ope_fieldn rfl hx hfl (tab_agga hτ hty2) (by simp at hle2; omega)
            · cases h
          · cases h
        · cases h
      · cases h
    · cases h
  · rename_i t x
    split at h
    · rename_i b hx; injection h with h; subst h; exact ope_not rfl hx
    · cases h
  · rename_i x
    split at h
    · rename_i c hx
      cases hc : c.ptr with
      | false => rw [hc] at h; cases h
      | true => rw [hc] at h; injection h with h; subst h; exact ope_nilCheck rfl hx hc
    · cases h
  · rename_i x i
    split at h
    · rename_i vs hx; rw [nthO_eq] at h; exact ope_extract rfl hx h
    · cases h
  · rename_i f first caps
    split at h
    · rename_i cs h1 h2
      injection h with h; subst h
      have : first = #[] := by cases first; simp_all
      subst this
      exact ope_makeFunc rfl h2
    · cases h
  · rename_i t parts
    split at h
    · rename_i n fs zs cp hty hp
      split at h
      · rename_i r hr; injection h with h; subst h; exact ope_build hτ rfl hty hp hr
      · cases h
    · rename_i n len e sz zs cp hty hp
      split at h
      · rename_i r hr; injection h with h; subst h; exact ope_build_arr hτ rfl hty hp hr
      · cases h
    · cases h
  · rename_i op t x y tb
    split at h
    · rename_i k m k' n hx hy
      cases hk : Nat.beq (kN k) (kN k') with
      | false => rw [hk] at h; cases h
      | true =>
        have := kN_inj hk
        subst this
        rw [hk] at h
        simp only [cond_true] at h
        unfold cmpO at h
        cases op <;> simp only at h <;> first
          | (cases h; done)
          | (injection h with h; subst h; first
              | exact ope_eql rfl hx hy
              | exact ope_neq rfl hx hy
              | exact ope_lss rfl hx hy
              | exact ope_leq rfl hx hy
              | exact ope_gtr rfl hx hy
              | exact ope_geq rfl hx hy
              | exact ope_bits (.inl rfl) rfl hx hy rfl
              | exact ope_bits (.inr (.inl rfl)) rfl hx hy rfl
              | exact ope_bits (.inr (.inr (.inl rfl))) rfl hx hy rfl
              | exact ope_bits (.inr (.inr (.inr rfl))) rfl hx hy rfl)
    · cases h
  · cases h
end
end Go.Proofs.Ytcbppkfnfbdkhaa
/- The step rules, on states that are written out. -/
set_option linter.all false
namespace Go.Proofs.Ytcbppkfnfbdkhaa
open Go.RowKit Go.Shelf
section
variable {k : Wk} {w0 : Org} {ops : Array Oper} {l : List Oper} {Q : St → Prop} {F F' : List (Nat × SV)} {H H' : List (Nat × VH)} {d t t' ty : Nat} {x y : Operand} {p : String} {af : Array Edge}
theorem j_v {o : Op} {v : SV} (hN : Nat.blt d k.N = true) (hv : nrm (opV k.τ F H o) = some v) (h : rg k w0 ops l Q ⟨(d, v) :: F, H⟩) : rg k w0 ops (⟨some d, o, t, p, af, none⟩ :: l) Q ⟨F, H⟩ := by
  rw [nrm_eq] at hv
  exact rgI (irg_e rfl rfl (nlt hN) (opV_ok k.ok hv) (rgO h))
theorem j_gz {o : Op} {j q : Nat} {w : Bool} (hj : (ops[j]?).bind (·.dst) = some q) (hv : getF F q = .tup []) (hN : Nat.blt d k.N = true) (h : rg k w0 ops l Q ⟨(d, (.tup [])) :: F, H⟩) : rg k w0 ops (⟨some d, o, t, p, af, some (j, w)⟩ :: l) Q ⟨F, H⟩ :=
  i_gz (s := ⟨F, H⟩) hj hv hN h
theorem j_gs {o : Op} {dst : Option Nat} {j q : Nat} {w : Bool} (c : Bool) (hj : (ops[j]?).bind (·.dst) = some q) (hv : getF F q = .one (.d (.bool c))) (h1 : c = true → rg k w0 ops (⟨dst, o, t, p, af, some (j, w)⟩ :: l) Q ⟨F, H⟩) (h2 : c = false → rg k w0 ops (⟨dst, o, t, p, af, some (j, w)⟩ :: l) Q ⟨F, H⟩) : rg k w0 ops (⟨dst, o, t, p, af, some (j, w)⟩ :: l) Q ⟨F, H⟩ :=
  i_gs (s := ⟨F, H⟩) c hj hv h1 h2
theorem j_ld_el1 {r i j sz e : Nat} {rows : List (List Cell)} {row : List Cell} {c : Cell} (hN : Nat.blt d k.N = true) (hx : (St.mk F H).ev x = .one (.el r i j sz)) (hH : getH H r = .arr e sz rows) (ht : (tyAt k.τ t').isOne = true) (hi : rows[i]? = some row) (hj : row[j]? = some c) (h : rg k w0 ops l Q ⟨(d, (.one (.d c))) :: F, H⟩) : rg k w0 ops (⟨some d, .load t' x, t, p, af, none⟩ :: l) Q ⟨F, H⟩ :=
  i_ld_el1 (s := ⟨F, H⟩) hN hx hH ht hi hj h
theorem j_ld_eln {r i j sz e : Nat} {rows : List (List Cell)} {row : List Cell} {n fs zs} (hN : Nat.blt d k.N = true) (hx : (St.mk F H).ev x = .one (.el r i j sz)) (hH : getH H r = .arr e sz rows) (ht : tyAt k.τ t' = .st n fs zs) (hi : rows[i]? = some row) (hj : j + n ≤ row.length) (h : rg k w0 ops l Q ⟨(d, (.agg (((row.drop j).take n).map .d))) :: F, H⟩) : rg k w0 ops (⟨some d, .load t' x, t, p, af, none⟩ :: l) Q ⟨F, H⟩ :=
  i_ld_eln (s := ⟨F, H⟩) hN hx hH ht hi hj h
theorem j_ia {e sz by_ i : Nat} {rows : List (List Cell)} {row : List Cell} {kk : IntKind} {m : Int} (hN : Nat.blt d k.N = true) (hx : (St.mk F H).ev x = .one (.d (.list rows))) (hy : (St.mk F H).ev y = .one (.d (.int kk m))) (ht : tyAt k.τ t' = .sl e sz by_) (h0 : 0 ≤ m) (hm : m.toNat = i) (hi : rows[i]? = some row) (hl : row.length = sz) (hz : Nat.blt 0 sz = true) (h : rg k w0 ops l Q ⟨(d, (.one (.rp (row.map .d)))) :: F, H⟩) : rg k w0 ops (⟨some d, .indexAddr t' x y, t, p, af, none⟩ :: l) Q ⟨F, H⟩ :=
  i_ia (s := ⟨F, H⟩) hN hx hy ht h0 hm hi hl hz h
theorem j_ia_sl {r n e sz by_ i : Nat} {kk : IntKind} {m : Int} (hN : Nat.blt d k.N = true) (hx : (St.mk F H).ev x = .one (.sl r n sz)) (hy : (St.mk F H).ev y = .one (.d (.int kk m))) (ht : tyAt k.τ t' = .sl e sz by_) (h0 : 0 ≤ m) (hi : m < (n : Int)) (hm : m.toNat = i) (h : rg k w0 ops l Q ⟨(d, (.one (.el r i 0 sz))) :: F, H⟩) : rg k w0 ops (⟨some d, .indexAddr t' x y, t, p, af, none⟩ :: l) Q ⟨F, H⟩ :=
  i_ia_sl (s := ⟨F, H⟩) hN hx hy ht h0 hi hm h
theorem j_ia_ar {r off n len e sz i : Nat} {zs} {kk : IntKind} {m : Int} (hN : Nat.blt d k.N = true) (hx : (St.mk F H).ev x = .one (.ref r off)) (hy : (St.mk F H).ev y = .one (.d (.int kk m))) (ht : tyAt k.τ t' = .ar n len e sz zs) (h0 : 0 ≤ m) (hi : m < (len : Int)) (hm : m.toNat = i) (h : rg k w0 ops l Q ⟨(d, (.one (.ref r (off + i * sz)))) :: F, H⟩) : rg k w0 ops (⟨some d, .indexAddr t' x y, t, p, af, none⟩ :: l) Q ⟨F, H⟩ :=
  i_ia_ar (s := ⟨F, H⟩) hN hx hy ht h0 hi hm h
theorem j_len {e n b : Nat} {rows : List (List Cell)} (hN : Nat.blt d k.N = true) (hx : (St.mk F H).ev x = .one (.d (.list rows))) (ht : tyAt k.τ t' = .sl e n b) (h : rg k w0 ops l Q ⟨(d, (.one (.d (.int .i64 (rows.length : Int))))) :: F, H⟩) : rg k w0 ops (⟨some d, .call { callee := .builtin .len, args := #[x], argTypes := #[t'] }, t, p, af, none⟩ :: l) Q ⟨F, H⟩ :=
  i_len (s := ⟨F, H⟩) hN hx ht h
theorem j_lenm {α : Type} {f : α → List Cell} {xs : List α} {e n b : Nat} (hN : Nat.blt d k.N = true) (hx : (St.mk F H).ev x = .one (.d (.list (xs.map f)))) (ht : tyAt k.τ t' = .sl e n b) (h : rg k w0 ops l Q ⟨(d, (.one (.d (.int .i64 (xs.length : Int))))) :: F, H⟩) : rg k w0 ops (⟨some d, .call { callee := .builtin .len, args := #[x], argTypes := #[t'] }, t, p, af, none⟩ :: l) Q ⟨F, H⟩ :=
  i_lenm (s := ⟨F, H⟩) hN hx ht h
theorem j_lens {r m sz e n b : Nat} (hN : Nat.blt d k.N = true) (hx : (St.mk F H).ev x = .one (.sl r m sz)) (ht : tyAt k.τ t' = .sl e n b) (h : rg k w0 ops l Q ⟨(d, (.one (.d (.int .i64 (m : Int))))) :: F, H⟩) : rg k w0 ops (⟨some d, .call { callee := .builtin .len, args := #[x], argTypes := #[t'] }, t, p, af, none⟩ :: l) Q ⟨F, H⟩ :=
  i_lens (s := ⟨F, H⟩) hN hx ht h
theorem j_len0 {e n b : Nat} (hN : Nat.blt d k.N = true) (hx : (St.mk F H).ev x = .one .nil) (ht : tyAt k.τ t' = .sl e n b) (h : rg k w0 ops l Q ⟨(d, (.one (.d (.int .i64 0)))) :: F, H⟩) : rg k w0 ops (⟨some d, .call { callee := .builtin .len, args := #[x], argTypes := #[t'] }, t, p, af, none⟩ :: l) Q ⟨F, H⟩ :=
  i_len0 (s := ⟨F, H⟩) hN hx ht h
theorem j_add {kk : IntKind} {m n : Int} {r : Int} {tb : Nat} (hN : Nat.blt d k.N = true) (hx : (St.mk F H).ev x = .one (.d (.int kk m))) (hy : (St.mk F H).ev y = .one (.d (.int kk n))) (hr : kk.wrap (m + n) = r) (h : rg k w0 ops l Q ⟨(d, (.one (.d (.int kk r)))) :: F, H⟩) : rg k w0 ops (⟨some d, .binOp .add t' x y tb, t, p, af, none⟩ :: l) Q ⟨F, H⟩ :=
  i_add (s := ⟨F, H⟩) hN hx hy hr h
theorem j_sub {kk : IntKind} {m n : Int} {r : Int} {tb : Nat} (hN : Nat.blt d k.N = true) (hx : (St.mk F H).ev x = .one (.d (.int kk m))) (hy : (St.mk F H).ev y = .one (.d (.int kk n))) (hr : kk.wrap (m - n) = r) (h : rg k w0 ops l Q ⟨(d, (.one (.d (.int kk r)))) :: F, H⟩) : rg k w0 ops (⟨some d, .binOp .sub t' x y tb, t, p, af, none⟩ :: l) Q ⟨F, H⟩ :=
  i_sub (s := ⟨F, H⟩) hN hx hy hr h
theorem j_mul {kk : IntKind} {m n : Int} {r : Int} {tb : Nat} (hN : Nat.blt d k.N = true) (hx : (St.mk F H).ev x = .one (.d (.int kk m))) (hy : (St.mk F H).ev y = .one (.d (.int kk n))) (hr : kk.wrap (m * n) = r) (h : rg k w0 ops l Q ⟨(d, (.one (.d (.int kk r)))) :: F, H⟩) : rg k w0 ops (⟨some d, .binOp .mul t' x y tb, t, p, af, none⟩ :: l) Q ⟨F, H⟩ :=
  i_mul (s := ⟨F, H⟩) hN hx hy hr h
theorem j_call {pu : Bool} {f : FuncId} {xs : Array Operand} {ts : Array TypeId} {args : List SV} {v : SV} (hN : Nat.blt d k.N = true) (hic : IC k.P k.T f args (fun x => x = v)) (ha : PsSL k.P k.T ⟨F, H⟩ pu xs.toList args) (hsc : pu = true ∨ v.sc = true)
    (h : rg k w0 ops l Q ⟨(d, v) :: F, H⟩) : rg k w0 ops (⟨some d, .call { callee := .value (.func f), args := xs, argTypes := ts }, t, p, af, none⟩ :: l) Q ⟨F, H⟩ :=
  i_call (s := ⟨F, H⟩) hN hic ha hsc h
theorem j_callp {pu : Bool} {f : FuncId} {xs : Array Operand} {ts : Array TypeId} {args : List SV} {post : SV → Prop} (hN : Nat.blt d k.N = true) (hic : IC k.P k.T f args post) (ha : PsSL k.P k.T ⟨F, H⟩ pu xs.toList args) (hsc : pu = true ∨ ∀ v, post v → v.sc = true)
    (h : ∀ v, post v → rg k w0 ops l Q ⟨(d, v) :: F, H⟩) : rg k w0 ops (⟨some d, .call { callee := .value (.func f), args := xs, argTypes := ts }, t, p, af, none⟩ :: l) Q ⟨F, H⟩ :=
  i_callp (s := ⟨F, H⟩) hN hic ha hsc h
theorem j_callf {pp : List DV → Option Cell} {xs : Array Operand} {ts : Array TypeId} {args : List DV} {r : Cell} (hN : Nat.blt d k.N = true) (hy : (St.mk F H).ev y = .one (.fn pp)) (ha : dvL ⟨F, H⟩ xs.toList args) (hp : pp args = some r) (hw : ∀ k n, r = .int k n → (Lit.int k n).wf = true) (hz : ∀ b, r = .str b → b.size ≤ maxLen)
    (h : rg k w0 ops l Q ⟨(d, (.one (.d r))) :: F, H⟩) : rg k w0 ops (⟨some d, .call { callee := .value y, args := xs, argTypes := ts }, t, p, af, none⟩ :: l) Q ⟨F, H⟩ :=
  i_callf (s := ⟨F, H⟩) hN hy ha hp hw hz h
theorem j_sne {ks : List EK} {cs ds : List CV} {r : Bool} (h : eqT k.P ty = some ks) (hN : Nat.blt d k.N = true) (hx : (St.mk F H).ev x = .agg cs) (hy : (St.mk F H).ev y = .agg ds) (hr : cellsEq ks cs ds = some r) (hk : rg k w0 ops l Q ⟨(d, (.one (.d (.bool (!r))))) :: F, H⟩) : rg k w0 ops (⟨some d, .binOp .neq ty x y t', t, p, af, none⟩ :: l) Q ⟨F, H⟩ :=
  i_sne (s := ⟨F, H⟩) h hN hx hy hr hk
end

def takeK {α β : Type} : Nat → List α → (List α → List α → β) → β
  | 0, l, k => k [] l
  | _ + 1, [], k => k [] []
  | n + 1, c :: l, k => takeK n l fun a b => k (c :: a) b
theorem takeK_eq {α β : Type} (n : Nat) (l : List α) (k : List α → List α → β) : takeK n l k = k (l.take n) (l.drop n) := by
  induction n generalizing l k with
  | zero => simp [takeK]
  | succ n ih => cases l <;> simp [takeK, ih]
def chunkK {β : Type} (sz : Nat) : Nat → List Cell → (List (List Cell) → β) → β
  | 0, _, k => k []
  | n + 1, fl, k => takeK sz fl fun a b => chunkK sz n b fun q => k (a :: q)
theorem chunkK_eq {β : Type} (sz n : Nat) (fl : List Cell) (k : List (List Cell) → β) : chunkK sz n fl k = k (chunks sz n fl) := by
  induction n generalizing fl k with
  | zero => rfl
  | succ n ih => simp only [chunkK, takeK_eq, ih, chunks]
abbrev FH := List (Nat × SV) × List (Nat × VH)
def opH (τ : List TyI) (F : List (Nat × SV)) (H : List (Nat × VH)) (d : Nat) : Op → Option FH
  | .box t x => match ((St.mk F H).ev x).cells with
    | some cs => bif (St.mk F H).fresh d then forceL cs fun r => some ((d, .one (.ref d 0)) :: F, (d, .blk t r) :: H) else none
    | none => none
  | .alloc t => match (tyAt τ t).zs with
    | some zs => bif (St.mk F H).fresh d then forceL (zs.map Z.cv) fun r => some ((d, .one (.ref d 0)) :: F, (d, .blk t r) :: H) else none
    | none => none
  | .buildSlice t len parts => match tyAt τ t with
    | .sl e sz _ => match (tyAt τ e).zs, partsOf (St.mk F H) parts.toList with
      | some zs, some cp => match cfill ((List.range len).map fun i => (i * sz, sz)) (List.replicate (len * sz) .u) cp with
        | some r => match unDL r with
          | some fl => bif Nat.beq zs.length sz && (Nat.blt 0 (len * sz) && (Nat.ble (len * sz) 16777216 && (St.mk F H).fresh d)) then chunkK sz len fl fun rows => some ((d, .one (.sl d len sz)) :: F, (d, .arr e sz rows) :: H) else none
          | none => none
        | none => none
      | _, _ => none
    | _ => none
  | _ => none
def opS (τ : List TyI) (F : List (Nat × SV)) (H : List (Nat × VH)) : Op → Option (Nat × VH)
  | .store t x y => match (St.mk F H).ev x with
    | .one (.ref r off) => match getH H r, (tyAt τ t).size, ((St.mk F H).ev y).cells with
      | .blk tt cs, some n, some vs => bif Nat.beq vs.length n && Nat.ble (off + n) cs.length then listK (setSeg cs off vs) fun q => some (r, .blk tt q) else none
      | _, _, _ => none
    | _ => none
  | _ => none
def killK {β : Type} (r : Nat) : List (Nat × SV) → (List (Nat × SV) → β) → β
  | [], k => k []
  | (x, v) :: l, k => bif v.has r then killK r l (fun q => k ((x, .u) :: q)) else killK r l (fun q => k ((x, v) :: q))
theorem killK_eq {β : Type} (r : Nat) (l : List (Nat × SV)) (k : List (Nat × SV) → β) : killK r l k = k (killF r l) := by
  induction l generalizing k with
  | nil => rfl
  | cons p l ih =>
    simp only [killK, ih, killF]
    cases p.2.has r <;> rfl
def killHK {β : Type} (H : List (Nat × VH)) (r : Nat) : List Nat → (List (Nat × VH) → β) → β
  | [], k => k []
  | x :: l, k => match getH H x with
    | .blk t cs => forceL (cs.map (killC r)) fun cs' => killHK H r l fun q => k ((x, .blk t cs') :: q)
    | .arr e sz rows => killHK H r l fun q => k ((x, .arr e sz rows) :: q)
    | .gone => killHK H r l fun q => k ((x, .gone) :: q)
    | .pin v c => bif c.has r then killHK H r l (fun q => k ((x, .gone) :: q)) else killHK H r l (fun q => k ((x, .pin v c) :: q))
    | .tbl _ _ _ _ => killHK H r l fun q => k ((x, .gone) :: q)
theorem killHK_eq {β : Type} (H : List (Nat × VH)) (r : Nat) (l : List Nat) (k : List (Nat × VH) → β) : killHK H r l k = k (l.map fun x => (x, killV r (getH H x))) := by
  induction l generalizing k with
  | nil => rfl
  | cons x l ih =>
    simp only [killHK, List.map_cons]
    cases hx : getH H x <;> simp only [ih, forceL_eq, killV]
    rename_i v c
    cases c.has r <;> rfl
section
variable {k : Wk} {w0 : Org} {ops : Array Oper} {l : List Oper} {Q : St → Prop} {F F' : List (Nat × SV)} {H H' : List (Nat × VH)} {d t t' ty : Nat} {x y : Operand} {p : String} {af : Array Edge}
theorem opH_ok {o : Op} (hN : Nat.blt d k.N = true) (hv : opH k.τ F H d o = some (F', H')) : OpR k.P k.T k.N w0 ⟨F, H⟩ ⟨some d, o, t, p, af, none⟩ (fun s' => s' = ⟨F', H'⟩) := by
  unfold opH at hv
  split at hv
  · rename_i t x
    split at hv
    · rename_i cs hx
      rw [forceL_eq] at hv
      cases hf : (St.mk F H).fresh d with
      | false => rw [hf] at hv; cases hv
      | true =>
        rw [hf] at hv
        simp only [cond_true, Option.some.injEq, Prod.mk.injEq] at hv
        obtain ⟨rfl, rfl⟩ := hv
        exact opr_box rfl rfl (nlt hN) hx hf
    · cases hv
  · rename_i t
    split at hv
    · rename_i zs hz
      rw [forceL_eq] at hv
      cases hf : (St.mk F H).fresh d with
      | false => rw [hf] at hv; cases hv
      | true =>
        rw [hf] at hv
        simp only [cond_true, Option.some.injEq, Prod.mk.injEq] at hv
        obtain ⟨rfl, rfl⟩ := hv
        exact opr_alloc k.ok rfl rfl (nlt hN) hz hf
    · cases hv
  · rename_i t len parts
    split at hv
    · rename_i e sz by_ hty
      split at hv
      · rename_i zs cp hz hp
        split at hv
        · rename_i r hr
          split at hv
          · rename_i fl hfl
            rw [chunkK_eq] at hv
            cases hc : (Nat.beq zs.length sz && (Nat.blt 0 (len * sz) && (Nat.ble (len * sz) 16777216 && (St.mk F H).fresh d))) with
            | false => rw [hc] at hv; cases hv
            | true =>
              rw [hc] at hv
              simp only [cond_true, Option.some.injEq, Prod.mk.injEq] at hv
              obtain ⟨rfl, rfl⟩ := hv
              simp only [Bool.and_eq_true] at hc
              exact opr_buildSlice k.ok rfl rfl (nlt hN) hty hz hp hr hfl (nlt hc.2.1) (Nat.le_of_ble_eq_true hc.2.2.1) hc.2.2.2 (Nat.eq_of_beq_eq_true hc.1)
          · cases hv
        · cases hv
      · cases hv
    · cases hv
  · cases hv
theorem j_h {o : Op} (hN : Nat.blt d k.N = true) (hv : opH k.τ F H d o = some (F', H')) (h : rg k w0 ops l Q ⟨F', H'⟩) : rg k w0 ops (⟨some d, o, t, p, af, none⟩ :: l) Q ⟨F, H⟩ :=
  rgI (irg_h rfl (opH_ok hN hv) (rgO h))
theorem opS_ok {o : Op} {r : Nat} {vh : VH} (hv : opS k.τ F H o = some (r, vh)) : OpR k.P k.T k.N w0 ⟨F, H⟩ ⟨none, o, t, p, af, none⟩ (fun s' => s' = ⟨F, (r, vh) :: H⟩) := by
  unfold opS at hv
  split at hv
  · rename_i t x y
    split at hv
    · rename_i r' off hx
      split at hv
      · rename_i tt cs n vs hH hn hy
        rw [listK_eq] at hv
        cases hc : (Nat.beq vs.length n && Nat.ble (off + n) cs.length) with
        | false => rw [hc] at hv; cases hv
        | true =>
          rw [hc] at hv
          simp only [cond_true, Option.some.injEq, Prod.mk.injEq] at hv
          obtain ⟨rfl, rfl⟩ := hv
          simp only [Bool.and_eq_true] at hc
          exact opr_store k.ok rfl rfl hx hH hn hy (Nat.eq_of_beq_eq_true hc.1) (Nat.le_of_ble_eq_true hc.2)
      · cases hv
    · cases hv
  · cases hv
theorem j_s {o : Op} {r : Nat} {vh : VH} (hv : opS k.τ F H o = some (r, vh)) (h : rg k w0 ops l Q ⟨F, (r, vh) :: H⟩) : rg k w0 ops (⟨none, o, t, p, af, none⟩ :: l) Q ⟨F, H⟩ :=
  rgI (irg_h rfl (opS_ok hv) (rgO h))
theorem j_ste {r i j sz n e : Nat} {rows : List (List Cell)} {row row' : List Cell} {vs : List CV} {ds : List Cell} (hx : (St.mk F H).ev x = .one (.el r i j sz)) (hH : getH H r = .arr e sz rows) (hn : (tyAt k.τ t').size = some n) (hy : ((St.mk F H).ev y).cells = some vs) (hds : unDL vs = some ds) (hl : ds.length = n) (hi : rows[i]? = some row) (hle : j + n ≤ row.length) (hr : listK (setSegC row j ds) some = some row')
    (h : rg k w0 ops l Q ⟨F, (r, .arr e sz (rows.set i row')) :: H⟩) : rg k w0 ops (⟨none, .store t' x y, t, p, af, none⟩ :: l) Q ⟨F, H⟩ := by
  rw [listK_eq] at hr
  injection hr with hr
  subst hr
  exact i_ste (s := ⟨F, H⟩) hx hH hn hy hds hl hi hle h
theorem j_ap0 {e sz by_ : Nat} {zs : List Z} {rows' : List (List Cell)} (hN : Nat.blt d k.N = true) (ht : tyAt k.τ t' = .sl e sz by_) (hz : (tyAt k.τ e).zs = some zs) (hzl : zs.length = sz) (h0 : Nat.blt 0 sz = true) (hx : (St.mk F H).ev x = .one .nil) (hy : Src ⟨F, H⟩ sz ((St.mk F H).ev y) rows') (hf : (St.mk F H).fresh d = true)
    (hbd : rows'.length * by_ ≤ 140737488355328) (hb0 : Nat.blt 0 by_ = true) (h : rg k w0 ops l Q ⟨(d, .one (.sl d rows'.length sz)) :: F, (d, .arr e sz rows') :: H⟩) : rg k w0 ops (⟨some d, .call { callee := .builtin .append, args := #[x, y], argTypes := #[t', t'] }, t, p, af, none⟩ :: l) Q ⟨F, H⟩ :=
  i_ap0 (s := ⟨F, H⟩) hN ht hz hzl h0 hx hy hf hbd hb0 h
theorem j_ap {e sz by_ r n : Nat} {zs : List Z} {rows rows' : List (List Cell)} (hN : Nat.blt d k.N = true) (ht : tyAt k.τ t' = .sl e sz by_) (hz : (tyAt k.τ e).zs = some zs) (hzl : zs.length = sz) (h0 : Nat.blt 0 sz = true) (hx : (St.mk F H).ev x = .one (.sl r n sz)) (hr : getH H r = .arr e sz rows)
    (hk : killK r F (fun a => killHK H r (H.map (·.1)) fun b => some (a, b)) = some (F', H')) (hr2 : getH H' r = .arr e sz rows) (hn : n = rows.length) (hy : Src ⟨F, H'⟩ sz ((St.mk F H).ev y) rows') (hf : allH r H' = true)
    (hbd : (rows.length + rows'.length) * by_ ≤ 140737488355328) (hb0 : Nat.blt 0 by_ = true) (h : rg k w0 ops l Q ⟨(d, .one (.sl r (rows ++ rows').length sz)) :: F', (r, .arr e sz (rows ++ rows')) :: H'⟩) : rg k w0 ops (⟨some d, .call { callee := .builtin .append, args := #[x, y], argTypes := #[t', t'] }, t, p, af, none⟩ :: l) Q ⟨F, H⟩ := by
  rw [killK_eq, killHK_eq] at hk
  injection hk with hk
  injection hk with h1 h2
  subst h1
  subst h2
  exact i_apk (s := ⟨F, H⟩) hN ht hz hzl h0 hx hr hr2 hn hy hf hbd hb0 h
theorem j_nil {s : St} (h : Q s) : rg k w0 ops [] Q s := i_nil h
theorem e_v {s : St} {gd : Option (Nat × Bool)} {o : Op} {v : SV} (hv : nrm (opV k.τ s.F s.H o) = some v) : OpE k.P k.T k.N w0 s ⟨some d, o, t, p, af, gd⟩ v := by
  rw [nrm_eq] at hv
  exact opV_ok (F := s.F) (H := s.H) k.ok hv
end
def lvK {β : Type} (F : List (Nat × SV)) : List Nat → (List (Nat × SV) → β) → β
  | [], k => k []
  | x :: l, k => match getF F x with
    | .u => lvK F l k
    | .one c => lvK F l fun q => k ((x, .one c) :: q)
    | .agg cs => lvK F l fun q => k ((x, .agg cs) :: q)
    | .tup vs => lvK F l k
def lvHK {β : Type} (H : List (Nat × VH)) : List Nat → (List (Nat × VH) → β) → β
  | [], k => k []
  | x :: l, k => match getH H x with
    | .gone => lvHK H l k
    | .pin v c => lvHK H l fun q => k ((x, .pin v c) :: q)
    | .tbl e e1 rows o => lvHK H l fun q => k ((x, .tbl e e1 rows o) :: q)
    | .blk t cs => lvHK H l fun q => k ((x, .blk t cs) :: q)
    | .arr e sz rows => lvHK H l fun q => k ((x, .arr e sz rows) :: q)
section
variable {k : Wk} {w0 : Org} {Q : Exit → St → Prop} {c : Code} {s : St} {F' : List (Nat × SV)} {H' : List (Nat × VH)}
theorem c_any {ι : Type} (i0 : ι) (live lh : List Nat) (p : ι → Prop) (μ : ι → Nat) (hp : p i0) (FA : ι → List (Nat × SV)) (HA : ι → List (Nat × VH)) (vs : List Nat) (hF : lvK s.F live some = some F') (hH : lvHK s.H lh some = some H') (h0 : Fits vs s ⟨FA i0 ++ F', HA i0 ++ H'⟩)
    (round : ∀ i, p i → wk k w0 c (kRound Q (fun s' => ∃ i', p i' ∧ μ i' < μ i ∧ ∃ vs', Fits vs' s' ⟨FA i' ++ F', HA i' ++ H'⟩)) ⟨FA i ++ F', HA i ++ H'⟩) : wk k w0 (.loop c) Q s :=
  c_loop (fun i => ⟨FA i ++ F', HA i ++ H'⟩) p μ vs i0 hp h0 fun i hi => round i hi
end
section
variable {k : Wk} {w0 : Org} {ops : Array Oper} {l : List Oper} {Q : St → Prop} {F F' : List (Nat × SV)} {H H' : List (Nat × VH)} {d t : Nat} {p : String} {af : Array Edge}
theorem dec_t {b : Bool} (h : b = true) : b = true := h
theorem dec_f {b : Bool} (h : b = false) : b = false := h
def pk (b : Bool) (x y : Operand) : Operand := match b with | true => x | false => y
theorem j_pk {c x y : Operand} {b b' : Bool} {v : CV} (hN : Nat.blt d k.N = true) (hc : (St.mk F H).ev c = .one (.d (.bool b))) (hb : b = b') (hx : (St.mk F H).ev (pk b' x y) = .one v) (h : rg k w0 ops l Q ⟨(d, .one v) :: F, H⟩) : rg k w0 ops (⟨some d, .pick c x y, t, p, af, none⟩ :: l) Q ⟨F, H⟩ := by
  subst hb
  cases b
  · exact i_pf (s := ⟨F, H⟩) hN hc rfl hx h
  · exact i_pt (s := ⟨F, H⟩) hN hc rfl hx h
theorem e_pk {s : St} {gd : Option (Nat × Bool)} {c x y : Operand} {b b' : Bool} {v : CV} (hc : s.ev c = .one (.d (.bool b))) (hb : b = b') (hx : s.ev (pk b' x y) = .one v) : OpE k.P k.T k.N w0 s ⟨some d, .pick c x y, t, p, af, gd⟩ (.one v) := by
  subst hb
  cases b
  · exact e_pf hc rfl hx
  · exact e_pt hc rfl hx
end
section
variable {k : Wk} {w0 : Org} {Q : Exit → St → Prop} {c : Code} {s : St} {F F1 F2 : List (Nat × SV)} {H H1 H2 : List (Nat × VH)} {a : Nat × SV}
theorem c_lit (hF : listK F some = some F1) (hH : listK H some = some H1) (h : wk k w0 c Q ⟨F1, H1⟩) : wk k w0 c Q ⟨F, H⟩ := by
  rw [listK_eq] at hF hH
  injection hF with hF
  injection hH with hH
  subst hF
  subst hH
  exact h
theorem c_l1 (hF : listK (F ++ F2) some = some F1) (hH : listK H some = some H1) (h : wk k w0 c Q ⟨a :: F1, H1⟩) : wk k w0 c Q ⟨a :: (F ++ F2), H⟩ := by
  rw [listK_eq] at hF hH
  injection hF with hF
  injection hH with hH
  subst hF
  subst hH
  exact h
theorem c_l2 (hF : listK (F ++ F2) some = some F1) (hH : listK H some = some H1) (h : wk k w0 c Q ⟨F1, H1⟩) : wk k w0 c Q ⟨F ++ F2, H⟩ := c_lit hF hH h
theorem c_l3 {args : List SV} {n : Nat} (hF : listK (argF n args) some = some F1) (h : wk k w0 c Q ⟨F1, []⟩) : wk k w0 c Q ⟨argF n args, []⟩ := c_lit hF rfl h
theorem CVle_pl {vs : List Nat} {c : CV} (h : c.pl = true) : CVle vs c c := by
  cases c <;> first | exact .d rfl | cases h
def SV.pl1 : SV → Bool
  | .one c => c.pl
  | .agg cs => plL cs
  | _ => false
theorem CVleL_pl {vs : List Nat} {cs : List CV} (h : plL cs = true) : CVleL vs cs cs := by
  induction cs with
  | nil => exact .nil
  | cons c cs ih =>
    simp only [plL, Bool.and_eq_true] at h
    exact .cons (CVle_pl h.1) (ih h.2)
theorem SVle_pl {vs : List Nat} {v : SV} (h : v.pl1 = true) : SVle vs v v := by
  cases v with
  | u => cases h
  | one c => exact .one (CVle_pl h)
  | agg cs => exact .agg (CVleL_pl h)
  | tup vs' => cases h
end
def rzC (H : List (Nat × VH)) : CV → Option (CV × Prop)
  | .d x => some (.d x, True)
  | .nil => some (.d (.list []), True)
  | .sl r n sz => match getH H r with
    | .arr _ sz' rows => bif Nat.beq sz' sz then some (.d (.list rows), n = rows.length) else none
    | _ => none
  | _ => none
def rzL (H : List (Nat × VH)) : List CV → Option (List CV × Prop)
  | [] => some ([], True)
  | c :: l => match rzC H c, rzL H l with
    | some (c', p), some (l', q) => some (c' :: l', p ∧ q)
    | _, _ => none
def rzS (H : List (Nat × VH)) : SV → Option (SV × Prop)
  | .one c => match rzC H c with | some (c', p) => some (.one c', p) | none => none
  | .agg l => match rzL H l with | some (l', p) => some (.agg l', p) | none => none
  | _ => none
def rzV (τ : List TyI) (F : List (Nat × SV)) (H : List (Nat × VH)) : ResultVar → Option SV
  | .tmp t => some (getF F t)
  | .cell t ty => match getF F t with
    | .one (.ref r off) => match getH H r with
      | .blk _ cs => match tyAt τ ty, dropO off cs with
        | .ar _ _ _ _ _, _ => none
        | ty', some q => loadO ty' q
        | _, none => none
      | _ => none
    | _ => none
def rzR (τ : List TyI) (F : List (Nat × SV)) (H : List (Nat × VH)) : List ResultVar → Option (List SV × Prop)
  | [] => some ([], True)
  | r :: l => match rzV τ F H r with
    | some v => match rzS H v, rzR τ F H l with
      | some (v', p), some (l', q) => some (v' :: l', p ∧ q)
      | _, _ => none
    | none => none
def rzA (τ : List TyI) (F : List (Nat × SV)) (H : List (Nat × VH)) (l : List ResultVar) : Option (SV × Prop) := match rzR τ F H l with
  | some ([v], p) => some (v, p)
  | some (l, p) => some (.tup l, p)
  | none => none
section
variable {τ : List TyI} {F : List (Nat × SV)} {H : List (Nat × VH)}
theorem rzC_ok {c c' : CV} {p : Prop} (h : rzC H c = some (c', p)) (hp : p) : RzC H c c' := by
  unfold rzC at h
  split at h
  · cases h; exact .d _
  · cases h; exact .nil
  · rename_i r n sz
    split at h
    · rename_i e sz' rows hh
      cases hb : Nat.beq sz' sz with
      | false => rw [hb] at h; cases h
      | true =>
        have := Nat.eq_of_beq_eq_true hb
        subst this
        rw [hb] at h; cases h; exact .sl hh hp
    · cases h
  · cases h
theorem rzL_ok {l l' : List CV} {p : Prop} (h : rzL H l = some (l', p)) (hp : p) : RzL H l l' := by
  induction l generalizing l' p with
  | nil => simp [rzL] at h; obtain ⟨rfl, _⟩ := h; exact .nil
  | cons c l ih =>
    simp only [rzL] at h
    split at h
    · rename_i c' p' l2 q h1 h2
      cases h
      exact .cons (rzC_ok h1 hp.1) (ih h2 hp.2)
    · cases h
theorem rzS_ok {v v' : SV} {p : Prop} (h : rzS H v = some (v', p)) (hp : p) : RzS H v v' := by
  unfold rzS at h
  split at h
  · split at h
    · rename_i h1; cases h; exact .one (rzC_ok h1 hp)
    · cases h
  · split at h
    · rename_i h1; cases h; exact .agg (rzL_ok h1 hp)
    · cases h
  · cases h
theorem rzV_ok {r : ResultVar} {v : SV} (h : rzV τ F H r = some v) : ResV τ ⟨F, H⟩ r v := by
  unfold rzV at h
  split at h
  · cases h; exact .tmp _
  · rename_i t ty
    split at h
    · rename_i r off hx
      split at h
      · rename_i tt cs hH
        split at h
        · cases h
        · rename_i q hq hna
          obtain ⟨rfl, hle⟩ := dropO_eq hq
          unfold loadO at h
          split at h
          · rename_i hty
            cases hc : cs.drop off with
            | nil => rw [hc] at h; cases h
            | cons c l => rw [hc] at h; cases h; exact .cell1 hx hH (by rw [hty]; rfl) (drop_head hc)
          · rename_i hty
            cases hc : cs.drop off with
            | nil => rw [hc] at h; cases h
            | cons c l => rw [hc] at h; cases h; exact .cell1 hx hH (by rw [hty]; rfl) (drop_head hc)
          · rename_i n fs zs hty
            cases hq : takeO n (cs.drop off) with
            | none => rw [hq] at h; cases h
            | some q =>
              rw [hq] at h; cases h
              obtain ⟨rfl, hle2⟩ := takeO_eq hq
              exact .celln hx hH hty (by simp at hle2; omega)
          · rename_i hty; exact (hna _ _ _ _ _ hty).elim
          · cases h
        · cases h
      · cases h
    · cases h
theorem rzR_ok {l : List ResultVar} {l' : List SV} {p : Prop} (h : rzR τ F H l = some (l', p)) (hp : p) : ∃ raw, ResL τ ⟨F, H⟩ l raw ∧ RzSL H raw l' := by
  induction l generalizing l' p with
  | nil => simp [rzR] at h; obtain ⟨rfl, _⟩ := h; exact ⟨[], .nil, .nil⟩
  | cons r l ih =>
    simp only [rzR] at h
    split at h
    · rename_i v hv
      split at h
      · rename_i v' p' l2 q h1 h2
        cases h
        obtain ⟨raw, q1, q2⟩ := ih h2 hp.2
        exact ⟨v :: raw, .cons (rzV_ok hv) q1, .cons (rzS_ok h1 hp.1) q2⟩
      · cases h
    · cases h
theorem r_g {fn : Func} {post : SV → Prop} {v : SV} {p : Prop} (h : rzA τ F H fn.results.toList = some (v, p)) (hp : p) (h2 : post v) : RetQ τ fn post .ret ⟨F, H⟩ := by
  unfold rzA at h
  split at h
  · rename_i v' p' h1
    cases h
    obtain ⟨raw, q1, q2⟩ := rzR_ok h1 hp
    cases q2 with
    | cons h3 h4 =>
      cases h4
      exact ⟨.inl rfl, _, _, q1, .one h3, h2⟩
  · rename_i l' p' hne h1
    cases h
    obtain ⟨raw, q1, q2⟩ := rzR_ok h1 hp
    cases q2 with
    | nil => exact ⟨.inl rfl, _, _, q1, .none, h2⟩
    | cons h3 h4 =>
      cases h4 with
      | nil => exact absurd rfl (hne _)
      | cons h5 h6 => exact ⟨.inl rfl, _, _, q1, .two (.cons h3 (.cons h5 h6)), h2⟩
  · cases h
end
section
variable {k : Wk} {w0 : Org} {ops : Array Oper} {l : List Oper} {Q : St → Prop} {F : List (Nat × SV)} {H : List (Nat × VH)} {d t ty t' : Nat} {p : String} {af : Array Edge} {x y : Operand} {gd : Option (Nat × Bool)} {s : St}
end
section
variable {k : Wk} {w0 : Org} {ops : Array Oper} {l : List Oper} {Q : St → Prop} {F : List (Nat × SV)} {H : List (Nat × VH)} {d t ty t' : Nat} {p : String} {af : Array Edge} {x y : Operand} {b c : Bool} {gd : Option (Nat × Bool)} {s : St}
end
def rgG (k : Wk) (w0 : Org) (ops : Array Oper) (c w : Bool) (dst : Option Nat) (o : Op) (t : Nat) (p : String) (af : Array Edge) (j : Nat) (l : List Oper) (Q : St → Prop) (F : List (Nat × SV)) (H : List (Nat × VH)) : Prop :=
  match c, w with
  | true, true => rg k w0 ops (⟨dst, o, t, p, af, none⟩ :: l) Q ⟨F, H⟩
  | false, false => rg k w0 ops (⟨dst, o, t, p, af, none⟩ :: l) Q ⟨F, H⟩
  | true, false => ∃ d, dst = some d ∧ Nat.blt d k.N = true ∧ rg k w0 ops l Q ⟨(d, .tup []) :: F, H⟩
  | false, true => ∃ d, dst = some d ∧ Nat.blt d k.N = true ∧ rg k w0 ops l Q ⟨(d, .tup []) :: F, H⟩
section
variable {k : Wk} {w0 : Org} {ops : Array Oper} {l : List Oper} {Q : St → Prop} {F : List (Nat × SV)} {H : List (Nat × VH)} {d t : Nat} {p : String} {af : Array Edge} {o : Op} {dst : Option Nat} {j : Nat}
theorem j_g {q : Nat} {w c c' : Bool} (hj : (ops[j]?).bind (·.dst) = some q) (hv : getF F q = .one (.d (.bool c))) (hb : c = c') (h : rgG k w0 ops c' w dst o t p af j l Q F H) : rg k w0 ops (⟨dst, o, t, p, af, some (j, w)⟩ :: l) Q ⟨F, H⟩ := by
  subst hb
  cases c <;> cases w
  · exact i_gy (s := ⟨F, H⟩) hj hv rfl h
  · obtain ⟨d, rfl, h1, h2⟩ := h; exact i_gn (s := ⟨F, H⟩) hj hv rfl h1 h2
  · obtain ⟨d, rfl, h1, h2⟩ := h; exact i_gm (s := ⟨F, H⟩) hj hv rfl h1 h2
  · exact i_gy (s := ⟨F, H⟩) hj hv rfl h
theorem g_tt (h : rg k w0 ops (⟨dst, o, t, p, af, none⟩ :: l) Q ⟨F, H⟩) : rgG k w0 ops true true dst o t p af j l Q F H := h
theorem g_ff (h : rg k w0 ops (⟨dst, o, t, p, af, none⟩ :: l) Q ⟨F, H⟩) : rgG k w0 ops false false dst o t p af j l Q F H := h
theorem g_tf (hN : Nat.blt d k.N = true) (h : rg k w0 ops l Q ⟨(d, .tup []) :: F, H⟩) : rgG k w0 ops true false (some d) o t p af j l Q F H := ⟨d, rfl, hN, h⟩
theorem g_ft (hN : Nat.blt d k.N = true) (h : rg k w0 ops l Q ⟨(d, .tup []) :: F, H⟩) : rgG k w0 ops false true (some d) o t p af j l Q F H := ⟨d, rfl, hN, h⟩
end
def wkC (k : Wk) (w0 : Org) (b : Bool) (x y : Code) (Q : Exit → St → Prop) (s : St) : Prop := match b with | true => wk k w0 x Q s | false => wk k w0 y Q s
theorem c_c {k : Wk} {w0 : Org} {Q : Exit → St → Prop} {s : St} {c : Operand} {x y : Code} {b b' : Bool} (hc : s.ev c = .one (.d (.bool b))) (hb : b = b') (h : wkC k w0 b' x y Q s) : wk k w0 (.cond c x y) Q s := by
  subst hb
  cases b
  · exact c_f hc rfl h
  · exact c_t hc rfl h
theorem c_ct {k : Wk} {w0 : Org} {Q : Exit → St → Prop} {s : St} {x y : Code} (h : wk k w0 x Q s) : wkC k w0 true x y Q s := h
theorem c_cf {k : Wk} {w0 : Org} {Q : Exit → St → Prop} {s : St} {x y : Code} (h : wk k w0 y Q s) : wkC k w0 false x y Q s := h
section
variable {k : Wk} {w0 : Org} {ops : Array Oper} {l : List Oper} {Q : St → Prop} {F F' : List (Nat × SV)} {H H' : List (Nat × VH)} {d t t' ty : Nat} {x y : Operand} {p : String} {af : Array Edge}
theorem j_tpa {r : Nat} {zs : List Int} (h0 : w0.tp = none) (hN : Nat.blt d k.N = true) (hx : (St.mk F H).ev x = .one (.ref r 0)) (hr : getH H r = .blk k.T [.d (.list (zs.map fun z => [.int .i64 z])), .d (.int .i64 0)]) (hk : killK r F some = some F') (hF : ntF F' = true) (hH : ntH H = true)
    (h : rg k w0 ops l Q ⟨(d, .one .tape) :: F', (r, .gone) :: H⟩) : rg k w0 ops (⟨some d, .assign x, t, p, af, none⟩ :: l) Q ⟨F, H⟩ := by
  rw [killK_eq] at hk
  injection hk with hk
  subst hk
  refine j_v (v := .one (.ref r 0)) hN (by rw [nrm_eq]; show some ((St.mk F H).ev x) = _; rw [hx]) ?_
  refine rgI fun g a w hs => ?_
  obtain ⟨g', hs'⟩ := hs.mkTape (x := d) (F' := (d, .one .tape) :: killF r F) (H' := (r, .gone) :: H) h0 (by simp [getF]) hr (fun y => by
      simp only [getF, beq_eq, killF_get]
      by_cases e : d = y
      · subst e; simp
      · simp [e, show ¬ y = d from fun h => e h.symm]) (.inr trivial) (fun y hy => by
      have e : getF ((d, SV.one .tape) :: killF r F) y = getF (killF r F) y := by simp [getF, beq_eq, show ¬ d = y from fun h => hy h.symm]
      rw [e]
      exact ntF_get hF y) (fun q => by
      simp only [getH, beq_eq]
      by_cases e : r = q
      · simp [e]
      · simp [e, show ¬ q = r from fun h => e h.symm]) (fun q _ => ntH_get hH q) (fun q => ntH_pin hH q)
  exact rgO h g' a w hs'
end
section
variable {H : List (Nat × VH)} {r : Nat} {e sz : Nat} {rows : List (List Cell)}
end
section
variable {k : Wk} {w0 : Org} {ops : Array Oper} {l : List Oper} {Q : St → Prop} {F F' : List (Nat × SV)} {H H' : List (Nat × VH)} {e sz : Nat} {rows : List (List Cell)} {p q : Prop}
end
end Go.Proofs.Ytcbppkfnfbdkhaa
/- Common: short forms. -/
set_option linter.all false
set_option maxRecDepth 20000
set_option maxHeartbeats 2000000
namespace Go.Proofs.Ytcbppkfnfbdkhaa
open Go.RowKit Go.Shelf
abbrev iv (n : Int) : SV := .one (.d (.int .i64 n))
abbrev bv (b : Bool) : SV := .one (.d (.bool b))
noncomputable abbrev K (N : Nat) : Wk := ⟨Try.prog, 25, N, tab, tab_ok⟩
abbrev ICt (f : Nat) (args : List SV) (post : SV → Prop) : Prop := IC Try.prog 25 f args post
abbrev ILt (f : Nat) (args : List SV) : Prop := IL Try.prog 25 f args (fun v => v = bv true)
def irow (z : Int) : List Cell := [.int .i64 z]
abbrev ints (l : List Int) : Cell := .list (l.map irow)
abbrev lv (l : List Int) : SV := .one (.d (ints l))
theorem src_sl {s : St} {v : SV} {r n sz : Nat} {e : TypeId} {rows : List (List Cell)} (hv : v = .one (.sl r n sz)) (h : getH s.H r = .arr e sz rows) (hn : rows.length = n) : Src s sz v rows := by
  subst hn; subst hv; exact .sl h
theorem src_nil {s : St} {v : SV} {sz : Nat} (hv : v = .one .nil) : Src s sz v [] := by subst hv; exact .nil
theorem src_d {s : St} {v : SV} {sz : Nat} {rows : List (List Cell)} (hv : v = .one (.d (.list rows))) (h : ∀ row ∈ rows, row.length = sz) : Src s sz v rows := by subst hv; exact .d _ h
theorem not_t {b : Bool} (h : b = true) : (!b) = false := by rw [h]; rfl
theorem not_f {b : Bool} (h : b = false) : (!b) = true := by rw [h]; rfl
end Go.Proofs.Ytcbppkfnfbdkhaa
/- Loops that count up; what is known of a state. -/
set_option linter.all false
set_option maxRecDepth 20000
namespace Go.Proofs.Ytcbppkfnfbdkhaa
open Go.RowKit Go.Shelf
end Go.Proofs.Ytcbppkfnfbdkhaa
/- Conditions: walks that gather what is to be shown. -/
set_option linter.all false
namespace Go.Proofs.Ytcbppkfnfbdkhaa
open Go.RowKit Go.Shelf
structure Chk (C P : Prop) : Prop where
  c : C
  p : P
structure Brn (b : Bool) (P Q : Prop) : Prop where
  t : b = true → P
  f : b = false → Q
structure Hld (P : Prop) : Prop where
  out : P
theorem chk_c {C P : Prop} (h : Hld (Chk C P)) : C := h.out.c
theorem chk_p {C P : Prop} (h : Hld (Chk C P)) : Hld P := ⟨h.out.p⟩
def mkV {X : Prop} {P : Prop} (h : Hld P → X) : Σ' P : Prop, (P → X) := ⟨P, fun p => h ⟨p⟩⟩
def ND {α : Type} (φ : α → Prop) (g : α → SV) (v : SV) : Prop := ∃ x, φ x ∧ v = g x
def ICp (pre : Prop) (f : Nat) (args : List SV) (post : SV → Prop) : Prop := pre → ICt f args post
theorem ICp.of {pre : Prop} {f : Nat} {args : List SV} {post : SV → Prop} (h : pre → ICt f args post) : ICp pre f args post := h
def gt {α : Type} [Inhabited α] (xs : List α) (i : Int) : α := xs.getD i.toNat default
theorem gt_eq {α : Type} [Inhabited α] {xs : List α} {i : Int} (h : i.toNat < xs.length) : gt xs i = xs[i.toNat] := by
  unfold gt; simp [h]
theorem gt_nat {α : Type} [Inhabited α] {xs : List α} {i : Nat} (h : i < xs.length) : gt xs (i : Int) = xs[i] := by
  unfold gt; simp [h]
theorem gt_mem {α : Type} [Inhabited α] {xs : List α} {i : Int} (h0 : 0 ≤ i) (h : i < xs.length) : gt xs i ∈ xs := by
  rw [gt_eq (by omega)]; exact List.getElem_mem _
theorem gt_row {α : Type} [Inhabited α] {f : α → List Cell} {xs : List α} {m : Int} (h0 : 0 ≤ m) (h : m < xs.length) : (xs.map f)[m.toNat]? = some (f (gt xs m)) := by
  rw [List.getElem?_map, List.getElem?_eq_getElem (by omega), gt_eq (by omega)]; rfl
abbrev InI (z : Int) : Prop := -9223372036854775808 ≤ z ∧ z ≤ 9223372036854775807
theorem wr_i64 {z : Int} (h : InI z) : IntKind.i64.wrap z = z := Go.IntWalk.i64_in _ h
theorem row_one {α : Type} {f : α → List Cell} {row : List Cell} {x : α} (h : row = f x) : [row] = [x].map f := by subst h; rfl
theorem row_cons {α : Type} {f : α → List Cell} {row : List Cell} {rows : List (List Cell)} {x : α} {xs : List α} (h : row = f x) (hs : rows = xs.map f) : row :: rows = (x :: xs).map f := by subst h hs; rfl
theorem irow_mk (a : Int) : [Cell.int .i64 a] = irow a := rfl
theorem row_nil {α : Type} {f : α → List Cell} : ([] : List (List Cell)) = ([] : List α).map f := rfl
section
variable {k : Wk} {w0 : Org} {s : St} {Q : Exit → St → Prop} {P1 P2 : Prop}
theorem v_if {c : Operand} {x y : Code} {b : Bool} (hc : s.ev c = .one (.d (.bool b))) (hP : Hld (Brn b P1 P2)) (h1 : b = true → Hld P1 → wk k w0 x Q s) (h2 : b = false → Hld P2 → wk k w0 y Q s) : wk k w0 (.cond c x y) Q s :=
  c_if hc (fun e => h1 e ⟨hP.out.t e⟩) (fun e => h2 e ⟨hP.out.f e⟩)
theorem v_loopat {c : Code} (h : wk k w0 (.loop c) Q s) : wk k w0 (.loop c) Q s := h
theorem v_rgat {i : Nat} {l : List Oper} (h : wk k w0 (.region i l.toArray true) Q s) : wk k w0 (.region i l.toArray true) Q s := h
end
section
variable {k : Wk} {w0 : Org} {ops : Array Oper} {l : List Oper} {Q : St → Prop} {F F' : List (Nat × SV)} {H H' : List (Nat × VH)} {d t t' ty : Nat} {x y : Operand} {p : String} {af : Array Edge} {P1 P2 : Prop} {s : St} {gd : Option (Nat × Bool)}
theorem v_gs {o : Op} {dst : Option Nat} {j q : Nat} {w : Bool} (c : Bool) (hj : (ops[j]?).bind (·.dst) = some q) (hv : getF F q = .one (.d (.bool c))) (hP : Hld (Brn c P1 P2)) (h1 : c = true → Hld P1 → rg k w0 ops (⟨dst, o, t, p, af, some (j, w)⟩ :: l) Q ⟨F, H⟩) (h2 : c = false → Hld P2 → rg k w0 ops (⟨dst, o, t, p, af, some (j, w)⟩ :: l) Q ⟨F, H⟩) : rg k w0 ops (⟨dst, o, t, p, af, some (j, w)⟩ :: l) Q ⟨F, H⟩ :=
  j_gs c hj hv (fun e => h1 e ⟨hP.out.t e⟩) (fun e => h2 e ⟨hP.out.f e⟩)
theorem v_ia {α : Type} {f : α → List Cell} {xs : List α} {e sz by_ : Nat} {kk : IntKind} {m : Int} (hN : Nat.blt d k.N = true) (hx : (St.mk F H).ev x = .one (.d (.list (xs.map f)))) (hy : (St.mk F H).ev y = .one (.d (.int kk m))) (ht : tyAt k.τ t' = .sl e sz by_) (inst : Inhabited α) (hl : (f (gt xs m)).length = sz) (hz : Nat.blt 0 sz = true) (hc : 0 ≤ m ∧ m < (xs.length : Int)) (h : rg k w0 ops l Q ⟨(d, (.one (.rp ((f (gt xs m)).map .d)))) :: F, H⟩) : rg k w0 ops (⟨some d, .indexAddr t' x y, t, p, af, none⟩ :: l) Q ⟨F, H⟩ :=
  j_ia hN hx hy ht hc.1 rfl (gt_row hc.1 hc.2) hl hz h
theorem v_iasl {r n e sz by_ : Nat} {kk : IntKind} {m : Int} (hN : Nat.blt d k.N = true) (hx : (St.mk F H).ev x = .one (.sl r n sz)) (hy : (St.mk F H).ev y = .one (.d (.int kk m))) (ht : tyAt k.τ t' = .sl e sz by_) (hc : 0 ≤ m ∧ m < (n : Int)) (h : rg k w0 ops l Q ⟨(d, (.one (.el r m.toNat 0 sz))) :: F, H⟩) : rg k w0 ops (⟨some d, .indexAddr t' x y, t, p, af, none⟩ :: l) Q ⟨F, H⟩ :=
  j_ia_sl hN hx hy ht hc.1 hc.2 rfl h
theorem f_ia {α : Type} {f : α → List Cell} {xs : List α} {e sz by_ : Nat} {kk : IntKind} {m : Int} (hx : s.ev x = .one (.d (.list (xs.map f)))) (hy : s.ev y = .one (.d (.int kk m))) (ht : tyAt k.τ t' = .sl e sz by_) (inst : Inhabited α) (hl : (f (gt xs m)).length = sz) (hz : Nat.blt 0 sz = true) (hc : 0 ≤ m ∧ m < (xs.length : Int)) : OpE k.P k.T k.N w0 s ⟨some d, .indexAddr t' x y, t, p, af, gd⟩ (.one (.rp ((f (gt xs m)).map .d))) :=
  e_ia hx hy ht hc.1 rfl (gt_row hc.1 hc.2) hl hz
theorem f_iasl {r n e sz by_ : Nat} {kk : IntKind} {m : Int} (hx : s.ev x = .one (.sl r n sz)) (hy : s.ev y = .one (.d (.int kk m))) (ht : tyAt k.τ t' = .sl e sz by_) (hc : 0 ≤ m ∧ m < (n : Int)) : OpE k.P k.T k.N w0 s ⟨some d, .indexAddr t' x y, t, p, af, gd⟩ (.one (.el r m.toNat 0 sz)) :=
  e_ia_sl hx hy ht hc.1 hc.2 rfl
theorem v_ste {α : Type} {f : α → List Cell} {xs : List α} {x' : α} {r j sz n e : Nat} {m : Int} {vs : List CV} {ds : List Cell} (hx : (St.mk F H).ev x = .one (.el r m.toNat j sz)) (hH : getH H r = .arr e sz (xs.map f)) (inst : Inhabited α) (hn : (tyAt k.τ t').size = some n) (hy : ((St.mk F H).ev y).cells = some vs) (hds : unDL vs = some ds) (hl : ds.length = n) (hle : Nat.ble (j + n) (f (gt xs m)).length = true) (hr : listK (setSegC (f (gt xs m)) j ds) some = some (f x')) (hc : 0 ≤ m ∧ m < (xs.length : Int))
    (h : rg k w0 ops l Q ⟨F, (r, .arr e sz ((xs.set m.toNat x').map f)) :: H⟩) : rg k w0 ops (⟨none, .store t' x y, t, p, af, none⟩ :: l) Q ⟨F, H⟩ := by
  refine j_ste hx hH hn hy hds hl (gt_row hc.1 hc.2) (Nat.le_of_ble_eq_true hle) hr ?_
  rw [List.map_set] at h
  exact h
theorem v_ap0 {α : Type} (f : α → List Cell) {ys : List α} {e sz by_ : Nat} {zs : List Z} {rows' : List (List Cell)} (hN : Nat.blt d k.N = true) (ht : tyAt k.τ t' = .sl e sz by_) (hz : (tyAt k.τ e).zs = some zs) (hzl : zs.length = sz) (h0 : Nat.blt 0 sz = true) (hx : (St.mk F H).ev x = .one .nil) (hy : Src ⟨F, H⟩ sz ((St.mk F H).ev y) rows') (hrow : rows' = ys.map f) (hf : (St.mk F H).fresh d = true) (hb0 : Nat.blt 0 by_ = true) (hb1 : Nat.ble by_ 140000 = true)
    (hbd : ys.length ≤ 1000000000) (h : rg k w0 ops l Q ⟨(d, .one (.sl d ys.length sz)) :: F, (d, .arr e sz (ys.map f)) :: H⟩) : rg k w0 ops (⟨some d, .call { callee := .builtin .append, args := #[x, y], argTypes := #[t', t'] }, t, p, af, none⟩ :: l) Q ⟨F, H⟩ := by
  subst hrow
  refine j_ap0 hN ht hz hzl h0 hx hy hf ?_ hb0 (by rw [List.length_map]; exact h)
  rw [List.length_map]
  have := Nat.le_of_ble_eq_true hb1
  exact Nat.le_trans (Nat.mul_le_mul hbd this) (by decide)
theorem v_ap {α : Type} (f : α → List Cell) {xs ys : List α} {e sz by_ r n : Nat} {zs : List Z} {rows rows' : List (List Cell)} (hN : Nat.blt d k.N = true) (ht : tyAt k.τ t' = .sl e sz by_) (hz : (tyAt k.τ e).zs = some zs) (hzl : zs.length = sz) (h0 : Nat.blt 0 sz = true) (hx : (St.mk F H).ev x = .one (.sl r n sz)) (hr : getH H r = .arr e sz rows) (hrw : rows = xs.map f)
    (hk : killK r F (fun a => killHK H r (H.map (·.1)) fun b => some (a, b)) = some (F', H')) (hr2 : getH H' r = .arr e sz rows) (hn : n = xs.length) (hy : Src ⟨F, H'⟩ sz ((St.mk F H).ev y) rows') (hrow : rows' = ys.map f) (hf : allH r H' = true)
    (hb0 : Nat.blt 0 by_ = true) (hb1 : Nat.ble by_ 140000 = true) (hbd : xs.length + ys.length ≤ 1000000000) (h : rg k w0 ops l Q ⟨(d, .one (.sl r (xs ++ ys).length sz)) :: F', (r, .arr e sz ((xs ++ ys).map f)) :: H'⟩) : rg k w0 ops (⟨some d, .call { callee := .builtin .append, args := #[x, y], argTypes := #[t', t'] }, t, p, af, none⟩ :: l) Q ⟨F, H⟩ := by
  subst hrow hrw hn
  refine j_ap hN ht hz hzl h0 hx hr hk hr2 (List.length_map _).symm hy hf ?_ hb0 ?_
  · rw [List.length_map, List.length_map]
    have := Nat.le_of_ble_eq_true hb1
    exact Nat.le_trans (Nat.mul_le_mul hbd this) (by decide)
  · rw [← List.map_append, List.length_map]
    exact h
theorem v_bs {α : Type} (f : α → List Cell) {xs : List α} {o : Op} {e sz n : Nat} {rows : List (List Cell)} (hN : Nat.blt d k.N = true) (hv : opH k.τ F H d o = some ((d, .one (.sl d n sz)) :: F', (d, .arr e sz rows) :: H')) (hrow : rows = xs.map f) (hn : n = xs.length) (h : rg k w0 ops l Q ⟨(d, .one (.sl d xs.length sz)) :: F', (d, .arr e sz (xs.map f)) :: H'⟩) : rg k w0 ops (⟨some d, o, t, p, af, none⟩ :: l) Q ⟨F, H⟩ := by
  subst hrow hn
  exact j_h hN hv h
theorem v_call {pre : Prop} {pu : Bool} {f : FuncId} {xs : Array Operand} {ts : Array TypeId} {args : List SV} {v : SV} (hN : Nat.blt d k.N = true) (hk : k.P = Try.prog ∧ k.T = 25) (hic : ICp pre f args (fun x => x = v)) (ha : PsSL k.P k.T ⟨F, H⟩ pu xs.toList args) (hsc : pu = true ∨ v.sc = true) (hpre : pre)
    (h : rg k w0 ops l Q ⟨(d, v) :: F, H⟩) : rg k w0 ops (⟨some d, .call { callee := .value (.func f), args := xs, argTypes := ts }, t, p, af, none⟩ :: l) Q ⟨F, H⟩ :=
  j_call hN (by rw [hk.1, hk.2]; exact hic hpre) ha hsc h
theorem v_nd {pu : Bool} {f : FuncId} {xs : Array Operand} {ts : Array TypeId} {args : List SV} {α : Type} {φ : α → Prop} {g : α → SV} {R : α → Prop} (hN : Nat.blt d k.N = true) (hic : IC k.P k.T f args (ND φ g)) (ha : PsSL k.P k.T ⟨F, H⟩ pu xs.toList args) (hsc : pu = true ∨ ∀ x, (g x).sc = true) (hP : Hld (∀ x, φ x → R x))
    (h : ∀ x, φ x → Hld (R x) → rg k w0 ops l Q ⟨(d, g x) :: F, H⟩) : rg k w0 ops (⟨some d, .call { callee := .value (.func f), args := xs, argTypes := ts }, t, p, af, none⟩ :: l) Q ⟨F, H⟩ :=
  j_callp hN hic ha (hsc.imp id fun h v ⟨x, _, e⟩ => by rw [e]; exact h x) fun v ⟨x, hx, e⟩ => by rw [e]; exact h x hx ⟨hP.out x hx⟩
theorem v_ndp {pre : Prop} {pu : Bool} {f : FuncId} {xs : Array Operand} {ts : Array TypeId} {args : List SV} {α : Type} {φ : α → Prop} {g : α → SV} {R : α → Prop} (hN : Nat.blt d k.N = true) (hk : k.P = Try.prog ∧ k.T = 25) (hic : ICp pre f args (ND φ g)) (ha : PsSL k.P k.T ⟨F, H⟩ pu xs.toList args) (hsc : pu = true ∨ ∀ x, (g x).sc = true) (hP : Hld (Chk pre (∀ x, φ x → R x)))
    (h : ∀ x, φ x → Hld (R x) → rg k w0 ops l Q ⟨(d, g x) :: F, H⟩) : rg k w0 ops (⟨some d, .call { callee := .value (.func f), args := xs, argTypes := ts }, t, p, af, none⟩ :: l) Q ⟨F, H⟩ :=
  v_nd hN (by rw [hk.1, hk.2]; exact hic (chk_c hP)) ha hsc (chk_p hP) h
end
theorem psc_nilm {P : Program} {T : TypeId} {H : List (Nat × VH)} {pu : Bool} {α : Type} {f : α → List Cell} : PsC P T H pu .nil (.d (.list (([] : List α).map f))) := .nil pu
def fzrK {β : Type} (r : Nat) (cs : List CV) : List (Nat × SV) → (List (Nat × SV) → β) → β
  | [], k => k []
  | (x, v) :: l, k => match v with
    | .one (.ref q off) => bif Nat.beq q r then fzrK r cs l (fun a => match dropO off cs with | some c => forceL c fun c' => k ((x, .one (.rp c')) :: a) | none => k ((x, .u) :: a)) else fzrK r cs l (fun a => k ((x, .one (.ref q off)) :: a))
    | .one c => fzrK r cs l fun a => k ((x, .one c) :: a)
    | .agg c => fzrK r cs l fun a => k ((x, .agg c) :: a)
    | .tup c => fzrK r cs l fun a => k ((x, .tup c) :: a)
    | .u => fzrK r cs l fun a => k ((x, .u) :: a)
def goneK {β : Type} (r : Nat) : List (Nat × VH) → (List (Nat × VH) → β) → β
  | [], k => k []
  | (x, v) :: l, k => bif Nat.beq x r then goneK r l (fun a => k ((x, .gone) :: a)) else goneK r l (fun a => k ((x, v) :: a))
theorem goneK_ok {β : Type} {H : List (Nat × VH)} (r : Nat) (l : List (Nat × VH)) (k : List (Nat × VH) → β) : ∃ l', goneK r l k = k l' ∧ FrH H [r] l l' := by
  induction l generalizing k with
  | nil => exact ⟨[], rfl, .nil⟩
  | cons q l ih =>
    obtain ⟨x, v⟩ := q
    unfold goneK
    cases hx : Nat.beq x r with
    | true =>
      have := Nat.eq_of_beq_eq_true hx
      subst this
      obtain ⟨l', h1, h2⟩ := ih fun a => k ((x, .gone) :: a)
      exact ⟨_, h1, .cons (.gone _ (by simp)) h2⟩
    | false =>
      obtain ⟨l', h1, h2⟩ := ih fun a => k ((x, v) :: a)
      refine ⟨_, h1, .cons (.same _ ?_) h2⟩
      have : ¬ x = r := fun e => by subst e; simp at hx
      simp [this]
theorem fzrK_ok {β : Type} {H : List (Nat × VH)} {r t : Nat} {cs : List CV} (hr : getH H r = .blk t cs) (hd : plL cs = true) (l : List (Nat × SV)) (k : List (Nat × SV) → β) : ∃ l', fzrK r cs l k = k l' ∧ FrF H [r] l l' := by
  induction l generalizing k with
  | nil => exact ⟨[], rfl, .nil⟩
  | cons q l ih =>
    obtain ⟨x, v⟩ := q
    unfold fzrK
    split
    · rename_i q off
      cases hx : Nat.beq q r with
      | true =>
        have := Nat.eq_of_beq_eq_true hx
        subst this
        simp only [cond_true]
        cases hq : dropO off cs with
        | none =>
          obtain ⟨l', h1, h2⟩ := ih fun a => k ((x, .u) :: a)
          exact ⟨_, h1, .cons (.u _) h2⟩
        | some c =>
          obtain ⟨rfl, _⟩ := dropO_eq hq
          simp only [forceL_eq]
          obtain ⟨l', h1, h2⟩ := ih fun a => k ((x, .one (.rp (cs.drop off))) :: a)
          exact ⟨_, h1, .cons (.one (.fzr (by simp) hr hd)) h2⟩
      | false =>
        simp only [cond_false]
        obtain ⟨l', h1, h2⟩ := ih fun a => k ((x, .one (.ref q off)) :: a)
        exact ⟨_, h1, .cons (.same _) h2⟩
    · rename_i c _
      obtain ⟨l', h1, h2⟩ := ih fun a => k ((x, .one c) :: a)
      exact ⟨_, h1, .cons (.same _) h2⟩
    · rename_i c
      obtain ⟨l', h1, h2⟩ := ih fun a => k ((x, .agg c) :: a)
      exact ⟨_, h1, .cons (.same _) h2⟩
    · rename_i c
      obtain ⟨l', h1, h2⟩ := ih fun a => k ((x, .tup c) :: a)
      exact ⟨_, h1, .cons (.same _) h2⟩
    · obtain ⟨l', h1, h2⟩ := ih fun a => k ((x, .u) :: a)
      exact ⟨_, h1, .cons (.same _) h2⟩
theorem v_fzr {k : Wk} {w0 : Org} {ops : Array Oper} {o : Oper} {l : List Oper} {Q : St → Prop} {F F' : List (Nat × SV)} {H H' : List (Nat × VH)} (r : Nat) {t : Nat} {cs : List CV} (hr : getH H r = .blk t cs) (hd : plL cs = true) (hF : fzrK r cs F some = some F') (hH : goneK r H some = some H') (h : rg k w0 ops (o :: l) Q ⟨F', H'⟩) : rg k w0 ops (o :: l) Q ⟨F, H⟩ := by
  obtain ⟨l1, h1, h2⟩ := fzrK_ok hr hd F some
  obtain ⟨l2, h3, h4⟩ := goneK_ok (H := H) r H some
  rw [h1] at hF
  rw [h3] at hH
  injection hF with e1
  injection hH with e2
  subst e1 e2
  exact i_frz (s := ⟨F, H⟩) [r] h4 h2 h
theorem j_lst {k : Wk} {w0 : Org} {ops : Array Oper} {a b l' : List Oper} {Q : St → Prop} {s : St} (hl : listK (List.append a b) some = some l') (h : rg k w0 ops l' Q s) : rg k w0 ops (List.append a b) Q s := by
  rw [listK_eq] at hl
  injection hl with hl
  subst hl
  exact h
theorem frF_same {H : List (Nat × VH)} {rs : List Nat} (F : List (Nat × SV)) : FrF H rs F F := by
  induction F with
  | nil => exact .nil
  | cons q l ih => exact .cons (.same _) ih
theorem v_bsf {α : Type} (f : α → List Cell) {k : Wk} {w0 : Org} {ops : Array Oper} {l : List Oper} {Q : St → Prop} {F F' : List (Nat × SV)} {H H' H2 : List (Nat × VH)} {d t : Nat} {p : String} {af : Array Edge} {xs : List α} {o : Op} {e sz n : Nat} {rows : List (List Cell)} (hN : Nat.blt d k.N = true) (hv : opH k.τ F H d o = some ((d, .one (.sl d n sz)) :: F', (d, .arr e sz rows) :: H')) (hrow : rows = xs.map f) (hn : n = xs.length) (hH : goneK d H' some = some H2) (h : rg k w0 ops l Q ⟨(d, .one (.d (.list (xs.map f)))) :: F', (d, .gone) :: H2⟩) : rg k w0 ops (⟨some d, o, t, p, af, none⟩ :: l) Q ⟨F, H⟩ := by
  subst hrow hn
  refine j_h hN hv ?_
  obtain ⟨l2, h3, h4⟩ := goneK_ok (H := (d, VH.arr e sz (xs.map f)) :: H') d H' some
  rw [h3] at hH
  injection hH with e2
  subst e2
  refine i_frz (s := ⟨_, _⟩) [d] (.cons (.gone _ (by simp)) h4) (.cons (.one (.fz (e := e) (by simp) ?_ (List.length_map _).symm)) (frF_same _)) h
  simp [getH]
inductive CvD : List CV → List Cell → Prop where
  | nil : CvD [] []
  | d {c : Cell} {cs : List CV} {ds : List Cell} (h : CvD cs ds) : CvD (.d c :: cs) (c :: ds)
  | n {cs : List CV} {ds : List Cell} (h : CvD cs ds) : CvD (.nil :: cs) (.list [] :: ds)
theorem CvD.get {cs : List CV} {ds : List Cell} (h : CvD cs ds) {j : Nat} {d : Cell} (hd : ds[j]? = some d) : ∃ c, cs[j]? = some c ∧ (c = .d d ∨ c = .nil ∧ d = .list []) := by
  induction h generalizing j with
  | nil => simp at hd
  | d h ih =>
    cases j with
    | zero => simp at hd; subst hd; exact ⟨_, rfl, .inl rfl⟩
    | succ j => exact ih (by simpa using hd)
  | n h ih =>
    cases j with
    | zero => simp at hd; subst hd; exact ⟨_, rfl, .inr ⟨rfl, rfl⟩⟩
    | succ j => exact ih (by simpa using hd)
theorem CvD.len {cs : List CV} {ds : List Cell} (h : CvD cs ds) : cs.length = ds.length := by induction h <;> simp [*]
section
variable {k : Wk} {w0 : Org} {ops : Array Oper} {l : List Oper} {Q : St → Prop} {F F' : List (Nat × SV)} {H H' : List (Nat × VH)} {d t t' ty : Nat} {x y : Operand} {p : String} {af : Array Edge} {s : St} {gd : Option (Nat × Bool)}
end
structure Fct (A P : Prop) : Prop where
  h : A → P
theorem brn_d {p P Q : Prop} [Decidable p] (h1 : p → P) (h2 : ¬ p → Q) : Brn (decide p) P Q := ⟨fun h => h1 (by simpa using h), fun h => h2 (by simpa using h)⟩
theorem brn_nd {p P Q : Prop} [Decidable p] (h1 : ¬ p → P) (h2 : p → Q) : Brn (!decide p) P Q := ⟨fun h => h1 (by simpa using h), fun h => h2 (by simpa using h)⟩
theorem brn_nb {b : Bool} {P Q : Prop} (h1 : b = false → P) (h2 : b = true → Q) : Brn (!b) P Q := ⟨fun h => h1 (by simpa using h), fun h => h2 (by simpa using h)⟩
theorem brn_nn {b : Bool} {P Q : Prop} (h1 : b = true → P) (h2 : b = false → Q) : Brn (!(!b)) P Q := ⟨fun h => h1 (by simpa using h), fun h => h2 (by simpa using h)⟩
theorem up0 {n : Int} {A E : (Int → Prop) → (Int → Nat) → Int → Prop} (h0 : 0 ≤ n) (hn : n ≤ 9223372036854775807) (step : ∀ I μ z, 0 ≤ z → z < n → (I (z + 1) ∧ μ (z + 1) < μ z) → A I μ z) (ex : ∀ I μ, E I μ n) : ∃ (I : Int → Prop) (μ : Int → Nat), I 0 ∧ ∀ x, I x → Brn (decide (x < n)) (A I μ x) (E I μ x) :=
  ⟨fun z => 0 ≤ z ∧ z ≤ n, fun z => (n - z).toNat, ⟨by omega, h0⟩, fun x hx => brn_d (fun h => step _ _ x hx.1 h ⟨⟨by omega, by omega⟩, by omega⟩) (fun h => by
    obtain rfl : x = n := by omega
    exact ex _ _)⟩
theorem up1 {n : Int} (J : Int → Prop) {A E : (Int → Prop) → (Int → Nat) → Int → Prop} (h0 : 0 ≤ n) (hj : J 0) (step : ∀ I μ z, 0 ≤ z → z < n → J z → (J (z + 1) → I (z + 1) ∧ μ (z + 1) < μ z) → A I μ z) (ex : ∀ I μ, J n → E I μ n) : ∃ (I : Int → Prop) (μ : Int → Nat), I 0 ∧ ∀ x, I x → Brn (decide (x < n)) (A I μ x) (E I μ x) :=
  ⟨fun z => 0 ≤ z ∧ z ≤ n ∧ J z, fun z => (n - z).toNat, ⟨by omega, h0, hj⟩, fun x hx => brn_d (fun h => step _ _ x hx.1 h hx.2.2 fun hj => ⟨⟨by omega, by omega, hj⟩, by omega⟩) (fun h => by
    obtain rfl : x = n := by omega
    exact ex _ _ hx.2.2)⟩
theorem up2 {α1 : Type} {n : Int} {o1 : α1} (J : α1 → Int → Prop) {A E : (α1 → Int → Prop) → (α1 → Int → Nat) → α1 → Int → Prop} (h0 : 0 ≤ n) (hj : J o1 0) (step : ∀ (I : α1 → Int → Prop) (μ : α1 → Int → Nat) (a1 : α1) (z : Int), 0 ≤ z → z < n → J a1 z → (∀ (b1 : α1), J b1 (z + 1) → I b1 (z + 1) ∧ μ b1 (z + 1) < μ a1 z) → A I μ a1 z) (ex : ∀ (I : α1 → Int → Prop) (μ : α1 → Int → Nat) (a1 : α1), J a1 n → E I μ a1 n) : ∃ (I : α1 → Int → Prop) (μ : α1 → Int → Nat), I o1 0 ∧ ∀ (a1 : α1) (x : Int), I a1 x → Brn (decide (x < n)) (A I μ a1 x) (E I μ a1 x) :=
  ⟨fun a1 z => 0 ≤ z ∧ z ≤ n ∧ J a1 z, fun _ z => (n - z).toNat, ⟨by omega, h0, hj⟩, fun a1 x hx => brn_d (fun h => step _ _ a1 x hx.1 h hx.2.2 fun b1 hj => ⟨⟨by omega, by omega, hj⟩, by omega⟩) (fun h => by
    obtain rfl : x = n := by omega
    exact ex _ _ a1 hx.2.2)⟩
theorem up4 {α1 α2 α3 : Type} {n : Int} {o1 : α1} {o2 : α2} {o3 : α3} (J : α1 → α2 → α3 → Int → Prop) {A E : (α1 → α2 → α3 → Int → Prop) → (α1 → α2 → α3 → Int → Nat) → α1 → α2 → α3 → Int → Prop} (h0 : 0 ≤ n) (hj : J o1 o2 o3 0) (step : ∀ (I : α1 → α2 → α3 → Int → Prop) (μ : α1 → α2 → α3 → Int → Nat) (a1 : α1) (a2 : α2) (a3 : α3) (z : Int), 0 ≤ z → z < n → J a1 a2 a3 z → (∀ (b1 : α1) (b2 : α2) (b3 : α3), J b1 b2 b3 (z + 1) → I b1 b2 b3 (z + 1) ∧ μ b1 b2 b3 (z + 1) < μ a1 a2 a3 z) → A I μ a1 a2 a3 z) (ex : ∀ (I : α1 → α2 → α3 → Int → Prop) (μ : α1 → α2 → α3 → Int → Nat) (a1 : α1) (a2 : α2) (a3 : α3), J a1 a2 a3 n → E I μ a1 a2 a3 n) : ∃ (I : α1 → α2 → α3 → Int → Prop) (μ : α1 → α2 → α3 → Int → Nat), I o1 o2 o3 0 ∧ ∀ (a1 : α1) (a2 : α2) (a3 : α3) (x : Int), I a1 a2 a3 x → Brn (decide (x < n)) (A I μ a1 a2 a3 x) (E I μ a1 a2 a3 x) :=
  ⟨fun a1 a2 a3 z => 0 ≤ z ∧ z ≤ n ∧ J a1 a2 a3 z, fun _ _ _ z => (n - z).toNat, ⟨by omega, h0, hj⟩, fun a1 a2 a3 x hx => brn_d (fun h => step _ _ a1 a2 a3 x hx.1 h hx.2.2 fun b1 b2 b3 hj => ⟨⟨by omega, by omega, hj⟩, by omega⟩) (fun h => by
    obtain rfl : x = n := by omega
    exact ex _ _ a1 a2 a3 hx.2.2)⟩
def allN (n : Nat) (p : Nat → Bool) : Bool := (List.range n).all p
theorem allN_iff {n : Nat} {p : Nat → Bool} : allN n p = true ↔ ∀ i, i < n → p i = true := by unfold allN; simp
theorem natz {z n : Int} (h0 : 0 ≤ z) (h : z < n) : ∃ i : Nat, z = i ∧ (i : Int) < n := ⟨z.toNat, by omega, by omega⟩
theorem lp2 {α1 α2 : Type} {R : (α1 → α2 → Prop) → (α1 → α2 → Nat) → α1 → α2 → Prop} {a1 : α1} {a2 : α2} (J : α1 → α2 → Prop) (m : α1 → α2 → Nat) (h0 : J a1 a2) (step : ∀ (I : α1 → α2 → Prop) (μ : α1 → α2 → Nat), (∀ (y1 : α1) (y2 : α2) (a1 : α1) (a2 : α2), J a1 a2 → J y1 y2 → m y1 y2 < m a1 a2 → I y1 y2 ∧ μ y1 y2 < μ a1 a2) → ∀ (a1 : α1) (a2 : α2), J a1 a2 → R I μ a1 a2) : ∃ (I : α1 → α2 → Prop) (μ : α1 → α2 → Nat), I a1 a2 ∧ ∀ (a1 : α1) (a2 : α2), I a1 a2 → R I μ a1 a2 :=
  ⟨J, m, h0, step J m (fun y1 y2 a1 a2 _ h1 h2 => ⟨h1, h2⟩)⟩
theorem lp3 {α1 α2 α3 : Type} {R : (α1 → α2 → α3 → Prop) → (α1 → α2 → α3 → Nat) → α1 → α2 → α3 → Prop} {a1 : α1} {a2 : α2} {a3 : α3} (J : α1 → α2 → α3 → Prop) (m : α1 → α2 → α3 → Nat) (h0 : J a1 a2 a3) (step : ∀ (I : α1 → α2 → α3 → Prop) (μ : α1 → α2 → α3 → Nat), (∀ (y1 : α1) (y2 : α2) (y3 : α3) (a1 : α1) (a2 : α2) (a3 : α3), J a1 a2 a3 → J y1 y2 y3 → m y1 y2 y3 < m a1 a2 a3 → I y1 y2 y3 ∧ μ y1 y2 y3 < μ a1 a2 a3) → ∀ (a1 : α1) (a2 : α2) (a3 : α3), J a1 a2 a3 → R I μ a1 a2 a3) : ∃ (I : α1 → α2 → α3 → Prop) (μ : α1 → α2 → α3 → Nat), I a1 a2 a3 ∧ ∀ (a1 : α1) (a2 : α2) (a3 : α3), I a1 a2 a3 → R I μ a1 a2 a3 :=
  ⟨J, m, h0, step J m (fun y1 y2 y3 a1 a2 a3 _ h1 h2 => ⟨h1, h2⟩)⟩
theorem lp4 {α1 α2 α3 α4 : Type} {R : (α1 → α2 → α3 → α4 → Prop) → (α1 → α2 → α3 → α4 → Nat) → α1 → α2 → α3 → α4 → Prop} {a1 : α1} {a2 : α2} {a3 : α3} {a4 : α4} (J : α1 → α2 → α3 → α4 → Prop) (m : α1 → α2 → α3 → α4 → Nat) (h0 : J a1 a2 a3 a4) (step : ∀ (I : α1 → α2 → α3 → α4 → Prop) (μ : α1 → α2 → α3 → α4 → Nat), (∀ (y1 : α1) (y2 : α2) (y3 : α3) (y4 : α4) (a1 : α1) (a2 : α2) (a3 : α3) (a4 : α4), J a1 a2 a3 a4 → J y1 y2 y3 y4 → m y1 y2 y3 y4 < m a1 a2 a3 a4 → I y1 y2 y3 y4 ∧ μ y1 y2 y3 y4 < μ a1 a2 a3 a4) → ∀ (a1 : α1) (a2 : α2) (a3 : α3) (a4 : α4), J a1 a2 a3 a4 → R I μ a1 a2 a3 a4) : ∃ (I : α1 → α2 → α3 → α4 → Prop) (μ : α1 → α2 → α3 → α4 → Nat), I a1 a2 a3 a4 ∧ ∀ (a1 : α1) (a2 : α2) (a3 : α3) (a4 : α4), I a1 a2 a3 a4 → R I μ a1 a2 a3 a4 :=
  ⟨J, m, h0, step J m (fun y1 y2 y3 y4 a1 a2 a3 a4 _ h1 h2 => ⟨h1, h2⟩)⟩
theorem lp5 {α1 α2 α3 α4 α5 : Type} {R : (α1 → α2 → α3 → α4 → α5 → Prop) → (α1 → α2 → α3 → α4 → α5 → Nat) → α1 → α2 → α3 → α4 → α5 → Prop} {a1 : α1} {a2 : α2} {a3 : α3} {a4 : α4} {a5 : α5} (J : α1 → α2 → α3 → α4 → α5 → Prop) (m : α1 → α2 → α3 → α4 → α5 → Nat) (h0 : J a1 a2 a3 a4 a5) (step : ∀ (I : α1 → α2 → α3 → α4 → α5 → Prop) (μ : α1 → α2 → α3 → α4 → α5 → Nat), (∀ (y1 : α1) (y2 : α2) (y3 : α3) (y4 : α4) (y5 : α5) (a1 : α1) (a2 : α2) (a3 : α3) (a4 : α4) (a5 : α5), J a1 a2 a3 a4 a5 → J y1 y2 y3 y4 y5 → m y1 y2 y3 y4 y5 < m a1 a2 a3 a4 a5 → I y1 y2 y3 y4 y5 ∧ μ y1 y2 y3 y4 y5 < μ a1 a2 a3 a4 a5) → ∀ (a1 : α1) (a2 : α2) (a3 : α3) (a4 : α4) (a5 : α5), J a1 a2 a3 a4 a5 → R I μ a1 a2 a3 a4 a5) : ∃ (I : α1 → α2 → α3 → α4 → α5 → Prop) (μ : α1 → α2 → α3 → α4 → α5 → Nat), I a1 a2 a3 a4 a5 ∧ ∀ (a1 : α1) (a2 : α2) (a3 : α3) (a4 : α4) (a5 : α5), I a1 a2 a3 a4 a5 → R I μ a1 a2 a3 a4 a5 :=
  ⟨J, m, h0, step J m (fun y1 y2 y3 y4 y5 a1 a2 a3 a4 a5 _ h1 h2 => ⟨h1, h2⟩)⟩
theorem lp7 {α1 α2 α3 α4 α5 α6 α7 : Type} {R : (α1 → α2 → α3 → α4 → α5 → α6 → α7 → Prop) → (α1 → α2 → α3 → α4 → α5 → α6 → α7 → Nat) → α1 → α2 → α3 → α4 → α5 → α6 → α7 → Prop} {a1 : α1} {a2 : α2} {a3 : α3} {a4 : α4} {a5 : α5} {a6 : α6} {a7 : α7} (J : α1 → α2 → α3 → α4 → α5 → α6 → α7 → Prop) (m : α1 → α2 → α3 → α4 → α5 → α6 → α7 → Nat) (h0 : J a1 a2 a3 a4 a5 a6 a7) (step : ∀ (I : α1 → α2 → α3 → α4 → α5 → α6 → α7 → Prop) (μ : α1 → α2 → α3 → α4 → α5 → α6 → α7 → Nat), (∀ (y1 : α1) (y2 : α2) (y3 : α3) (y4 : α4) (y5 : α5) (y6 : α6) (y7 : α7) (a1 : α1) (a2 : α2) (a3 : α3) (a4 : α4) (a5 : α5) (a6 : α6) (a7 : α7), J a1 a2 a3 a4 a5 a6 a7 → J y1 y2 y3 y4 y5 y6 y7 → m y1 y2 y3 y4 y5 y6 y7 < m a1 a2 a3 a4 a5 a6 a7 → I y1 y2 y3 y4 y5 y6 y7 ∧ μ y1 y2 y3 y4 y5 y6 y7 < μ a1 a2 a3 a4 a5 a6 a7) → ∀ (a1 : α1) (a2 : α2) (a3 : α3) (a4 : α4) (a5 : α5) (a6 : α6) (a7 : α7), J a1 a2 a3 a4 a5 a6 a7 → R I μ a1 a2 a3 a4 a5 a6 a7) : ∃ (I : α1 → α2 → α3 → α4 → α5 → α6 → α7 → Prop) (μ : α1 → α2 → α3 → α4 → α5 → α6 → α7 → Nat), I a1 a2 a3 a4 a5 a6 a7 ∧ ∀ (a1 : α1) (a2 : α2) (a3 : α3) (a4 : α4) (a5 : α5) (a6 : α6) (a7 : α7), I a1 a2 a3 a4 a5 a6 a7 → R I μ a1 a2 a3 a4 a5 a6 a7 :=
  ⟨J, m, h0, step J m (fun y1 y2 y3 y4 y5 y6 y7 a1 a2 a3 a4 a5 a6 a7 _ h1 h2 => ⟨h1, h2⟩)⟩
theorem r_one {k : Wk} {w0 : Org} {ops : Array Oper} {l : List Oper} {Q : St → Prop} {s : St} {x : Nat} {d : Cell} (hx : getF s.F x = .one (.d d)) (h : d.Ok → rg k w0 ops l Q s) : rg k w0 ops l Q s :=
  rgI fun g a w hs => rgO (h (by have := hs.hF x; rw [hx] at this; exact (this.one_inv.unD rfl).okk)) g a w hs
section
variable {k : Wk} {w0 : Org} {s : St} {Q : Exit → St → Prop} {c : Code} {P1 : Prop}
theorem v_kint {x : Nat} {n : Int} (hx : getF s.F x = .one (.d (.int .i64 n))) (hP : Hld (Fct (InI n) P1)) (h : Hld P1 → wk k w0 c Q s) : wk k w0 c Q s :=
  k_one hx fun ho => h ⟨hP.out.h ho.i64⟩
end
section
variable {k : Wk} {w0 : Org} {ops : Array Oper} {l : List Oper} {Q : St → Prop} {F F' : List (Nat × SV)} {H H' : List (Nat × VH)} {d t t' ty : Nat} {x y : Operand} {p : String} {af : Array Edge} {P1 : Prop}
theorem v_lenm {α : Type} {f : α → List Cell} {xs : List α} {e n b : Nat} (hN : Nat.blt d k.N = true) (hx : (St.mk F H).ev x = .one (.d (.list (xs.map f)))) (ht : tyAt k.τ t' = .sl e n b) (hP : Hld (Fct (xs.length ≤ 9223372036854775807) P1)) (h : Hld P1 → rg k w0 ops l Q ⟨(d, (.one (.d (.int .i64 (xs.length : Int))))) :: F, H⟩) : rg k w0 ops (⟨some d, .call { callee := .builtin .len, args := #[x], argTypes := #[t'] }, t, p, af, none⟩ :: l) Q ⟨F, H⟩ :=
  j_lenm hN hx ht (r_one (x := d) (d := .int .i64 (xs.length : Int)) (by simp [getF]) fun ho => h ⟨hP.out.h (by have := ho.i64; omega)⟩)
theorem v_lens {r m sz e n b : Nat} (hN : Nat.blt d k.N = true) (hx : (St.mk F H).ev x = .one (.sl r m sz)) (ht : tyAt k.τ t' = .sl e n b) (hP : Hld (Fct (m ≤ 9223372036854775807) P1)) (h : Hld P1 → rg k w0 ops l Q ⟨(d, (.one (.d (.int .i64 (m : Int))))) :: F, H⟩) : rg k w0 ops (⟨some d, .call { callee := .builtin .len, args := #[x], argTypes := #[t'] }, t, p, af, none⟩ :: l) Q ⟨F, H⟩ :=
  j_lens hN hx ht (r_one (x := d) (d := .int .i64 (m : Int)) (by simp [getF]) fun ho => h ⟨hP.out.h (by have := ho.i64; omega)⟩)
end
structure Bth (P Q : Prop) : Prop where
  a : P
  b : Q
theorem bth_b {P Q : Prop} (h : Hld (Bth P Q)) : Hld Q := ⟨h.out.b⟩
theorem nd_intro {α : Type} {φ : α → Prop} {g : α → SV} {R : α → Prop} {G : SV → Prop} (hP : Hld (∀ x, φ x → R x)) (h : ∀ x, φ x → Hld (R x) → G (g x)) : ∀ v, ND φ g v → G v :=
  fun v ⟨x, hx, e⟩ => by rw [e]; exact h x hx ⟨hP.out x hx⟩
section
variable {k : Wk} {w0 : Org} {ops : Array Oper} {W : Option (List Nat)} {S listed : Array Bool} {nq m n : Nat} {Q : St → Prop} {s : St} {l : List Nat} {op : Op} {ty : TypeId} {pp : String} {af : Array Edge} {d i : Nat} {P1 P2 : Prop}
theorem v_dgs {dst : Option Nat} {j q : Nat} {w : Bool} (c : Bool) (hi : ops[i]? = some ⟨dst, op, ty, pp, af, some (j, w)⟩) (hj : (ops[j]?).bind (·.dst) = some q) (hv : getF s.F q = .one (.d (.bool c))) (hP : Hld (Brn c P1 P2)) (h1 : c = true → Hld P1 → qn k w0 ops W S m Q (i :: l) listed s) (h2 : c = false → Hld P2 → qn k w0 ops W S m Q (i :: l) listed s) : qn k w0 ops W S m Q (i :: l) listed s :=
  d_gs c hi hj hv (fun e => h1 e ⟨hP.out.t e⟩) (fun e => h2 e ⟨hP.out.f e⟩)
theorem v_sste {α : Type} {f : α → List Cell} {xs : List α} {x' : α} {t : Nat} {x y : Operand} {r j2 sz n e : Nat} {mm : Int} {vs : List CV} {ds : List Cell} (hi : ops[i]? = some ⟨none, .store t x y, ty, pp, af, none⟩) (hx : s.ev x = .one (.el r mm.toNat j2 sz)) (hW : inW W r = true) (hH : getH s.H r = .arr e sz (xs.map f)) (inst : Inhabited α) (hn : (tyAt k.τ t).size = some n) (hy : (s.ev y).cells = some vs) (hds : unDL vs = some ds) (hl : ds.length = n) (hle : Nat.ble (j2 + n) (f (gt xs mm)).length = true) (hr : setSegC (f (gt xs mm)) j2 ds = f x') (hc : 0 ≤ mm ∧ mm < (xs.length : Int))
    (hq : l.length = nq) (h : qn k w0 ops W S m Q l (listed.setIfInBounds i true) (s.hput r (.arr e sz ((xs.set mm.toNat x').map f)))) : qst k w0 ops W S m Q nq i listed s :=
  s_ste hi hx hW hH hn hy hds hl (gt_row hc.1 hc.2) (Nat.le_of_ble_eq_true hle) hq (by rw [hr, ← List.map_set]; exact h)
theorem v_dste {α : Type} {f : α → List Cell} {xs : List α} {x' : α} {t : Nat} {x y : Operand} {r j2 sz n e : Nat} {mm : Int} {vs : List CV} {ds : List Cell} (hi : ops[i]? = some ⟨none, .store t x y, ty, pp, af, none⟩) (hr0 : Region.ready .any ops listed = [i]) (hx : s.ev x = .one (.el r mm.toNat j2 sz)) (hW : inW W r = true) (hH : getH s.H r = .arr e sz (xs.map f)) (inst : Inhabited α) (hn : (tyAt k.τ t).size = some n) (hy : (s.ev y).cells = some vs) (hds : unDL vs = some ds) (hl : ds.length = n) (hle : Nat.ble (j2 + n) (f (gt xs mm)).length = true) (hr : setSegC (f (gt xs mm)) j2 ds = f x') (hc : 0 ≤ mm ∧ mm < (xs.length : Int))
    (h : qn k w0 ops W S m Q l (listed.setIfInBounds i true) (s.hput r (.arr e sz ((xs.set mm.toNat x').map f)))) : qn k w0 ops W S m Q (i :: l) listed s :=
  d_one hr0 (v_sste hi hx hW hH inst hn hy hds hl hle hr hc rfl h)
theorem f_nd {pu : Bool} {o : Oper} {f : FuncId} {xs : Array Operand} {ts : Array TypeId} {args : List SV} {α : Type} {φ : α → Prop} {g : α → SV} (ho : o.op = .call { callee := .value (.func f), args := xs, argTypes := ts }) (hic : IC k.P k.T f args (ND φ g)) (ha : PsSL k.P k.T s pu xs.toList args) (hsc : pu = true ∨ ∀ x, (g x).sc = true) : OpQ k.P k.T k.N w0 s o (ND φ g) :=
  e_callp ho hic ha (hsc.imp id fun h v ⟨x, _, e⟩ => by rw [e]; exact h x)
theorem f_ndp {pre : Prop} {pu : Bool} {o : Oper} {f : FuncId} {xs : Array Operand} {ts : Array TypeId} {args : List SV} {α : Type} {φ : α → Prop} {g : α → SV} (ho : o.op = .call { callee := .value (.func f), args := xs, argTypes := ts }) (hk : k.P = Try.prog ∧ k.T = 25) (hic : ICp pre f args (ND φ g)) (ha : PsSL k.P k.T s pu xs.toList args) (hsc : pu = true ∨ ∀ x, (g x).sc = true) (hpre : pre) : OpQ k.P k.T k.N w0 s o (ND φ g) :=
  f_nd ho (by rw [hk.1, hk.2]; exact hic hpre) ha hsc
end
theorem v_rmono {k : Wk} {w0 : Org} {Q : Exit → St → Prop} {c : Code} {s : St} {R1 R2 : St → Prop} (h : wk k w0 c (kRound Q R1) s) (hR : ∀ s', R1 s' → R2 s') : wk k w0 c (kRound Q R2) s := by
  refine wkI (iwp_mono (wkO h) fun e s' hq => ?_)
  unfold kRound at hq ⊢
  cases e <;> first | exact hq | exact hR _ hq
theorem v_loop1 {k : Wk} {w0 : Org} {Q : Exit → St → Prop} {c : Code} {s : St} {F' : List (Nat × SV)} {H' : List (Nat × VH)} {α1 : Type} {R : (α1 → Prop) → (α1 → Nat) → α1 → Prop} (a1 : α1) (live lh : List Nat) (FA : α1 → List (Nat × SV)) (HA : α1 → List (Nat × VH)) (vs : List Nat) (hF : lvK s.F live some = some F') (hH : lvHK s.H lh some = some H') (h0 : Fits vs s ⟨FA a1 ++ F', HA a1 ++ H'⟩) (hP : Hld (∃ (I : α1 → Prop) (μ : α1 → Nat), I a1 ∧ ∀ (x1 : α1), I x1 → R I μ x1))
    (round : ∀ (I : α1 → Prop) (μ : α1 → Nat) (x1 : α1), Hld (R I μ x1) → wk k w0 c (kRound Q (fun s' => ∃ (y1 : α1), I y1 ∧ μ y1 < μ x1 ∧ ∃ vs', Fits vs' s' ⟨FA y1 ++ F', HA y1 ++ H'⟩)) ⟨FA x1 ++ F', HA x1 ++ H'⟩) : wk k w0 (.loop c) Q s := by
  obtain ⟨I, μ, hI, hR⟩ := hP.out
  exact c_any (ι := α1) a1 live lh (fun q => I q) (fun q => μ q) hI (fun q => FA q) (fun q => HA q) vs hF hH h0 fun q hq => v_rmono (round I μ q ⟨hR q hq⟩) fun s' ⟨y1, h1, h2, h3⟩ => ⟨y1, h1, h2, h3⟩
theorem v_nxt1 {F' : List (Nat × SV)} {H' : List (Nat × VH)} {α1 : Type} {I : α1 → Prop} {μ : α1 → Nat} {m : Nat} {FA : α1 → List (Nat × SV)} {HA : α1 → List (Nat × VH)} {s' : St} {a1 : α1} (hF : FitF [] s' (FA a1 ++ F')) (hH : FitH [] s' (HA a1 ++ H')) (hP : Hld (I a1 ∧ μ a1 < m)) : ∃ (y1 : α1), I y1 ∧ μ y1 < m ∧ ∃ vs', Fits vs' s' ⟨FA y1 ++ F', HA y1 ++ H'⟩ :=
  ⟨a1, hP.out.1, hP.out.2, [], hF, hH⟩
theorem v_loop2 {k : Wk} {w0 : Org} {Q : Exit → St → Prop} {c : Code} {s : St} {F' : List (Nat × SV)} {H' : List (Nat × VH)} {α1 α2 : Type} {R : (α1 → α2 → Prop) → (α1 → α2 → Nat) → α1 → α2 → Prop} (a1 : α1) (a2 : α2) (live lh : List Nat) (FA : α1 → α2 → List (Nat × SV)) (HA : α1 → α2 → List (Nat × VH)) (vs : List Nat) (hF : lvK s.F live some = some F') (hH : lvHK s.H lh some = some H') (h0 : Fits vs s ⟨FA a1 a2 ++ F', HA a1 a2 ++ H'⟩) (hP : Hld (∃ (I : α1 → α2 → Prop) (μ : α1 → α2 → Nat), I a1 a2 ∧ ∀ (x1 : α1) (x2 : α2), I x1 x2 → R I μ x1 x2))
    (round : ∀ (I : α1 → α2 → Prop) (μ : α1 → α2 → Nat) (x1 : α1) (x2 : α2), Hld (R I μ x1 x2) → wk k w0 c (kRound Q (fun s' => ∃ (y1 : α1) (y2 : α2), I y1 y2 ∧ μ y1 y2 < μ x1 x2 ∧ ∃ vs', Fits vs' s' ⟨FA y1 y2 ++ F', HA y1 y2 ++ H'⟩)) ⟨FA x1 x2 ++ F', HA x1 x2 ++ H'⟩) : wk k w0 (.loop c) Q s := by
  obtain ⟨I, μ, hI, hR⟩ := hP.out
  exact c_any (ι := α1 × α2) (a1, a2) live lh (fun q => I q.1 q.2) (fun q => μ q.1 q.2) hI (fun q => FA q.1 q.2) (fun q => HA q.1 q.2) vs hF hH h0 fun q hq => v_rmono (round I μ q.1 q.2 ⟨hR q.1 q.2 hq⟩) fun s' ⟨y1, y2, h1, h2, h3⟩ => ⟨(y1, y2), h1, h2, h3⟩
theorem v_nxt2 {F' : List (Nat × SV)} {H' : List (Nat × VH)} {α1 α2 : Type} {I : α1 → α2 → Prop} {μ : α1 → α2 → Nat} {m : Nat} {FA : α1 → α2 → List (Nat × SV)} {HA : α1 → α2 → List (Nat × VH)} {s' : St} {a1 : α1} {a2 : α2} (hF : FitF [] s' (FA a1 a2 ++ F')) (hH : FitH [] s' (HA a1 a2 ++ H')) (hP : Hld (I a1 a2 ∧ μ a1 a2 < m)) : ∃ (y1 : α1) (y2 : α2), I y1 y2 ∧ μ y1 y2 < m ∧ ∃ vs', Fits vs' s' ⟨FA y1 y2 ++ F', HA y1 y2 ++ H'⟩ :=
  ⟨a1, a2, hP.out.1, hP.out.2, [], hF, hH⟩
theorem v_loop3 {k : Wk} {w0 : Org} {Q : Exit → St → Prop} {c : Code} {s : St} {F' : List (Nat × SV)} {H' : List (Nat × VH)} {α1 α2 α3 : Type} {R : (α1 → α2 → α3 → Prop) → (α1 → α2 → α3 → Nat) → α1 → α2 → α3 → Prop} (a1 : α1) (a2 : α2) (a3 : α3) (live lh : List Nat) (FA : α1 → α2 → α3 → List (Nat × SV)) (HA : α1 → α2 → α3 → List (Nat × VH)) (vs : List Nat) (hF : lvK s.F live some = some F') (hH : lvHK s.H lh some = some H') (h0 : Fits vs s ⟨FA a1 a2 a3 ++ F', HA a1 a2 a3 ++ H'⟩) (hP : Hld (∃ (I : α1 → α2 → α3 → Prop) (μ : α1 → α2 → α3 → Nat), I a1 a2 a3 ∧ ∀ (x1 : α1) (x2 : α2) (x3 : α3), I x1 x2 x3 → R I μ x1 x2 x3))
    (round : ∀ (I : α1 → α2 → α3 → Prop) (μ : α1 → α2 → α3 → Nat) (x1 : α1) (x2 : α2) (x3 : α3), Hld (R I μ x1 x2 x3) → wk k w0 c (kRound Q (fun s' => ∃ (y1 : α1) (y2 : α2) (y3 : α3), I y1 y2 y3 ∧ μ y1 y2 y3 < μ x1 x2 x3 ∧ ∃ vs', Fits vs' s' ⟨FA y1 y2 y3 ++ F', HA y1 y2 y3 ++ H'⟩)) ⟨FA x1 x2 x3 ++ F', HA x1 x2 x3 ++ H'⟩) : wk k w0 (.loop c) Q s := by
  obtain ⟨I, μ, hI, hR⟩ := hP.out
  exact c_any (ι := α1 × α2 × α3) (a1, (a2, a3)) live lh (fun q => I q.1 q.2.1 q.2.2) (fun q => μ q.1 q.2.1 q.2.2) hI (fun q => FA q.1 q.2.1 q.2.2) (fun q => HA q.1 q.2.1 q.2.2) vs hF hH h0 fun q hq => v_rmono (round I μ q.1 q.2.1 q.2.2 ⟨hR q.1 q.2.1 q.2.2 hq⟩) fun s' ⟨y1, y2, y3, h1, h2, h3⟩ => ⟨(y1, (y2, y3)), h1, h2, h3⟩
theorem v_nxt3 {F' : List (Nat × SV)} {H' : List (Nat × VH)} {α1 α2 α3 : Type} {I : α1 → α2 → α3 → Prop} {μ : α1 → α2 → α3 → Nat} {m : Nat} {FA : α1 → α2 → α3 → List (Nat × SV)} {HA : α1 → α2 → α3 → List (Nat × VH)} {s' : St} {a1 : α1} {a2 : α2} {a3 : α3} (hF : FitF [] s' (FA a1 a2 a3 ++ F')) (hH : FitH [] s' (HA a1 a2 a3 ++ H')) (hP : Hld (I a1 a2 a3 ∧ μ a1 a2 a3 < m)) : ∃ (y1 : α1) (y2 : α2) (y3 : α3), I y1 y2 y3 ∧ μ y1 y2 y3 < m ∧ ∃ vs', Fits vs' s' ⟨FA y1 y2 y3 ++ F', HA y1 y2 y3 ++ H'⟩ :=
  ⟨a1, a2, a3, hP.out.1, hP.out.2, [], hF, hH⟩
theorem v_loop4 {k : Wk} {w0 : Org} {Q : Exit → St → Prop} {c : Code} {s : St} {F' : List (Nat × SV)} {H' : List (Nat × VH)} {α1 α2 α3 α4 : Type} {R : (α1 → α2 → α3 → α4 → Prop) → (α1 → α2 → α3 → α4 → Nat) → α1 → α2 → α3 → α4 → Prop} (a1 : α1) (a2 : α2) (a3 : α3) (a4 : α4) (live lh : List Nat) (FA : α1 → α2 → α3 → α4 → List (Nat × SV)) (HA : α1 → α2 → α3 → α4 → List (Nat × VH)) (vs : List Nat) (hF : lvK s.F live some = some F') (hH : lvHK s.H lh some = some H') (h0 : Fits vs s ⟨FA a1 a2 a3 a4 ++ F', HA a1 a2 a3 a4 ++ H'⟩) (hP : Hld (∃ (I : α1 → α2 → α3 → α4 → Prop) (μ : α1 → α2 → α3 → α4 → Nat), I a1 a2 a3 a4 ∧ ∀ (x1 : α1) (x2 : α2) (x3 : α3) (x4 : α4), I x1 x2 x3 x4 → R I μ x1 x2 x3 x4))
    (round : ∀ (I : α1 → α2 → α3 → α4 → Prop) (μ : α1 → α2 → α3 → α4 → Nat) (x1 : α1) (x2 : α2) (x3 : α3) (x4 : α4), Hld (R I μ x1 x2 x3 x4) → wk k w0 c (kRound Q (fun s' => ∃ (y1 : α1) (y2 : α2) (y3 : α3) (y4 : α4), I y1 y2 y3 y4 ∧ μ y1 y2 y3 y4 < μ x1 x2 x3 x4 ∧ ∃ vs', Fits vs' s' ⟨FA y1 y2 y3 y4 ++ F', HA y1 y2 y3 y4 ++ H'⟩)) ⟨FA x1 x2 x3 x4 ++ F', HA x1 x2 x3 x4 ++ H'⟩) : wk k w0 (.loop c) Q s := by
  obtain ⟨I, μ, hI, hR⟩ := hP.out
  exact c_any (ι := α1 × α2 × α3 × α4) (a1, (a2, (a3, a4))) live lh (fun q => I q.1 q.2.1 q.2.2.1 q.2.2.2) (fun q => μ q.1 q.2.1 q.2.2.1 q.2.2.2) hI (fun q => FA q.1 q.2.1 q.2.2.1 q.2.2.2) (fun q => HA q.1 q.2.1 q.2.2.1 q.2.2.2) vs hF hH h0 fun q hq => v_rmono (round I μ q.1 q.2.1 q.2.2.1 q.2.2.2 ⟨hR q.1 q.2.1 q.2.2.1 q.2.2.2 hq⟩) fun s' ⟨y1, y2, y3, y4, h1, h2, h3⟩ => ⟨(y1, (y2, (y3, y4))), h1, h2, h3⟩
theorem v_nxt4 {F' : List (Nat × SV)} {H' : List (Nat × VH)} {α1 α2 α3 α4 : Type} {I : α1 → α2 → α3 → α4 → Prop} {μ : α1 → α2 → α3 → α4 → Nat} {m : Nat} {FA : α1 → α2 → α3 → α4 → List (Nat × SV)} {HA : α1 → α2 → α3 → α4 → List (Nat × VH)} {s' : St} {a1 : α1} {a2 : α2} {a3 : α3} {a4 : α4} (hF : FitF [] s' (FA a1 a2 a3 a4 ++ F')) (hH : FitH [] s' (HA a1 a2 a3 a4 ++ H')) (hP : Hld (I a1 a2 a3 a4 ∧ μ a1 a2 a3 a4 < m)) : ∃ (y1 : α1) (y2 : α2) (y3 : α3) (y4 : α4), I y1 y2 y3 y4 ∧ μ y1 y2 y3 y4 < m ∧ ∃ vs', Fits vs' s' ⟨FA y1 y2 y3 y4 ++ F', HA y1 y2 y3 y4 ++ H'⟩ :=
  ⟨a1, a2, a3, a4, hP.out.1, hP.out.2, [], hF, hH⟩
theorem v_loop5 {k : Wk} {w0 : Org} {Q : Exit → St → Prop} {c : Code} {s : St} {F' : List (Nat × SV)} {H' : List (Nat × VH)} {α1 α2 α3 α4 α5 : Type} {R : (α1 → α2 → α3 → α4 → α5 → Prop) → (α1 → α2 → α3 → α4 → α5 → Nat) → α1 → α2 → α3 → α4 → α5 → Prop} (a1 : α1) (a2 : α2) (a3 : α3) (a4 : α4) (a5 : α5) (live lh : List Nat) (FA : α1 → α2 → α3 → α4 → α5 → List (Nat × SV)) (HA : α1 → α2 → α3 → α4 → α5 → List (Nat × VH)) (vs : List Nat) (hF : lvK s.F live some = some F') (hH : lvHK s.H lh some = some H') (h0 : Fits vs s ⟨FA a1 a2 a3 a4 a5 ++ F', HA a1 a2 a3 a4 a5 ++ H'⟩) (hP : Hld (∃ (I : α1 → α2 → α3 → α4 → α5 → Prop) (μ : α1 → α2 → α3 → α4 → α5 → Nat), I a1 a2 a3 a4 a5 ∧ ∀ (x1 : α1) (x2 : α2) (x3 : α3) (x4 : α4) (x5 : α5), I x1 x2 x3 x4 x5 → R I μ x1 x2 x3 x4 x5))
    (round : ∀ (I : α1 → α2 → α3 → α4 → α5 → Prop) (μ : α1 → α2 → α3 → α4 → α5 → Nat) (x1 : α1) (x2 : α2) (x3 : α3) (x4 : α4) (x5 : α5), Hld (R I μ x1 x2 x3 x4 x5) → wk k w0 c (kRound Q (fun s' => ∃ (y1 : α1) (y2 : α2) (y3 : α3) (y4 : α4) (y5 : α5), I y1 y2 y3 y4 y5 ∧ μ y1 y2 y3 y4 y5 < μ x1 x2 x3 x4 x5 ∧ ∃ vs', Fits vs' s' ⟨FA y1 y2 y3 y4 y5 ++ F', HA y1 y2 y3 y4 y5 ++ H'⟩)) ⟨FA x1 x2 x3 x4 x5 ++ F', HA x1 x2 x3 x4 x5 ++ H'⟩) : wk k w0 (.loop c) Q s := by
  obtain ⟨I, μ, hI, hR⟩ := hP.out
  exact c_any (ι := α1 × α2 × α3 × α4 × α5) (a1, (a2, (a3, (a4, a5)))) live lh (fun q => I q.1 q.2.1 q.2.2.1 q.2.2.2.1 q.2.2.2.2) (fun q => μ q.1 q.2.1 q.2.2.1 q.2.2.2.1 q.2.2.2.2) hI (fun q => FA q.1 q.2.1 q.2.2.1 q.2.2.2.1 q.2.2.2.2) (fun q => HA q.1 q.2.1 q.2.2.1 q.2.2.2.1 q.2.2.2.2) vs hF hH h0 fun q hq => v_rmono (round I μ q.1 q.2.1 q.2.2.1 q.2.2.2.1 q.2.2.2.2 ⟨hR q.1 q.2.1 q.2.2.1 q.2.2.2.1 q.2.2.2.2 hq⟩) fun s' ⟨y1, y2, y3, y4, y5, h1, h2, h3⟩ => ⟨(y1, (y2, (y3, (y4, y5)))), h1, h2, h3⟩
theorem v_nxt5 {F' : List (Nat × SV)} {H' : List (Nat × VH)} {α1 α2 α3 α4 α5 : Type} {I : α1 → α2 → α3 → α4 → α5 → Prop} {μ : α1 → α2 → α3 → α4 → α5 → Nat} {m : Nat} {FA : α1 → α2 → α3 → α4 → α5 → List (Nat × SV)} {HA : α1 → α2 → α3 → α4 → α5 → List (Nat × VH)} {s' : St} {a1 : α1} {a2 : α2} {a3 : α3} {a4 : α4} {a5 : α5} (hF : FitF [] s' (FA a1 a2 a3 a4 a5 ++ F')) (hH : FitH [] s' (HA a1 a2 a3 a4 a5 ++ H')) (hP : Hld (I a1 a2 a3 a4 a5 ∧ μ a1 a2 a3 a4 a5 < m)) : ∃ (y1 : α1) (y2 : α2) (y3 : α3) (y4 : α4) (y5 : α5), I y1 y2 y3 y4 y5 ∧ μ y1 y2 y3 y4 y5 < m ∧ ∃ vs', Fits vs' s' ⟨FA y1 y2 y3 y4 y5 ++ F', HA y1 y2 y3 y4 y5 ++ H'⟩ :=
  ⟨a1, a2, a3, a4, a5, hP.out.1, hP.out.2, [], hF, hH⟩
theorem v_loop7 {k : Wk} {w0 : Org} {Q : Exit → St → Prop} {c : Code} {s : St} {F' : List (Nat × SV)} {H' : List (Nat × VH)} {α1 α2 α3 α4 α5 α6 α7 : Type} {R : (α1 → α2 → α3 → α4 → α5 → α6 → α7 → Prop) → (α1 → α2 → α3 → α4 → α5 → α6 → α7 → Nat) → α1 → α2 → α3 → α4 → α5 → α6 → α7 → Prop} (a1 : α1) (a2 : α2) (a3 : α3) (a4 : α4) (a5 : α5) (a6 : α6) (a7 : α7) (live lh : List Nat) (FA : α1 → α2 → α3 → α4 → α5 → α6 → α7 → List (Nat × SV)) (HA : α1 → α2 → α3 → α4 → α5 → α6 → α7 → List (Nat × VH)) (vs : List Nat) (hF : lvK s.F live some = some F') (hH : lvHK s.H lh some = some H') (h0 : Fits vs s ⟨FA a1 a2 a3 a4 a5 a6 a7 ++ F', HA a1 a2 a3 a4 a5 a6 a7 ++ H'⟩) (hP : Hld (∃ (I : α1 → α2 → α3 → α4 → α5 → α6 → α7 → Prop) (μ : α1 → α2 → α3 → α4 → α5 → α6 → α7 → Nat), I a1 a2 a3 a4 a5 a6 a7 ∧ ∀ (x1 : α1) (x2 : α2) (x3 : α3) (x4 : α4) (x5 : α5) (x6 : α6) (x7 : α7), I x1 x2 x3 x4 x5 x6 x7 → R I μ x1 x2 x3 x4 x5 x6 x7))
    (round : ∀ (I : α1 → α2 → α3 → α4 → α5 → α6 → α7 → Prop) (μ : α1 → α2 → α3 → α4 → α5 → α6 → α7 → Nat) (x1 : α1) (x2 : α2) (x3 : α3) (x4 : α4) (x5 : α5) (x6 : α6) (x7 : α7), Hld (R I μ x1 x2 x3 x4 x5 x6 x7) → wk k w0 c (kRound Q (fun s' => ∃ (y1 : α1) (y2 : α2) (y3 : α3) (y4 : α4) (y5 : α5) (y6 : α6) (y7 : α7), I y1 y2 y3 y4 y5 y6 y7 ∧ μ y1 y2 y3 y4 y5 y6 y7 < μ x1 x2 x3 x4 x5 x6 x7 ∧ ∃ vs', Fits vs' s' ⟨FA y1 y2 y3 y4 y5 y6 y7 ++ F', HA y1 y2 y3 y4 y5 y6 y7 ++ H'⟩)) ⟨FA x1 x2 x3 x4 x5 x6 x7 ++ F', HA x1 x2 x3 x4 x5 x6 x7 ++ H'⟩) : wk k w0 (.loop c) Q s := by
  obtain ⟨I, μ, hI, hR⟩ := hP.out
  exact c_any (ι := α1 × α2 × α3 × α4 × α5 × α6 × α7) (a1, (a2, (a3, (a4, (a5, (a6, a7)))))) live lh (fun q => I q.1 q.2.1 q.2.2.1 q.2.2.2.1 q.2.2.2.2.1 q.2.2.2.2.2.1 q.2.2.2.2.2.2) (fun q => μ q.1 q.2.1 q.2.2.1 q.2.2.2.1 q.2.2.2.2.1 q.2.2.2.2.2.1 q.2.2.2.2.2.2) hI (fun q => FA q.1 q.2.1 q.2.2.1 q.2.2.2.1 q.2.2.2.2.1 q.2.2.2.2.2.1 q.2.2.2.2.2.2) (fun q => HA q.1 q.2.1 q.2.2.1 q.2.2.2.1 q.2.2.2.2.1 q.2.2.2.2.2.1 q.2.2.2.2.2.2) vs hF hH h0 fun q hq => v_rmono (round I μ q.1 q.2.1 q.2.2.1 q.2.2.2.1 q.2.2.2.2.1 q.2.2.2.2.2.1 q.2.2.2.2.2.2 ⟨hR q.1 q.2.1 q.2.2.1 q.2.2.2.1 q.2.2.2.2.1 q.2.2.2.2.2.1 q.2.2.2.2.2.2 hq⟩) fun s' ⟨y1, y2, y3, y4, y5, y6, y7, h1, h2, h3⟩ => ⟨(y1, (y2, (y3, (y4, (y5, (y6, y7)))))), h1, h2, h3⟩
theorem v_nxt7 {F' : List (Nat × SV)} {H' : List (Nat × VH)} {α1 α2 α3 α4 α5 α6 α7 : Type} {I : α1 → α2 → α3 → α4 → α5 → α6 → α7 → Prop} {μ : α1 → α2 → α3 → α4 → α5 → α6 → α7 → Nat} {m : Nat} {FA : α1 → α2 → α3 → α4 → α5 → α6 → α7 → List (Nat × SV)} {HA : α1 → α2 → α3 → α4 → α5 → α6 → α7 → List (Nat × VH)} {s' : St} {a1 : α1} {a2 : α2} {a3 : α3} {a4 : α4} {a5 : α5} {a6 : α6} {a7 : α7} (hF : FitF [] s' (FA a1 a2 a3 a4 a5 a6 a7 ++ F')) (hH : FitH [] s' (HA a1 a2 a3 a4 a5 a6 a7 ++ H')) (hP : Hld (I a1 a2 a3 a4 a5 a6 a7 ∧ μ a1 a2 a3 a4 a5 a6 a7 < m)) : ∃ (y1 : α1) (y2 : α2) (y3 : α3) (y4 : α4) (y5 : α5) (y6 : α6) (y7 : α7), I y1 y2 y3 y4 y5 y6 y7 ∧ μ y1 y2 y3 y4 y5 y6 y7 < m ∧ ∃ vs', Fits vs' s' ⟨FA y1 y2 y3 y4 y5 y6 y7 ++ F', HA y1 y2 y3 y4 y5 y6 y7 ++ H'⟩ :=
  ⟨a1, a2, a3, a4, a5, a6, a7, hP.out.1, hP.out.2, [], hF, hH⟩
end Go.Proofs.Ytcbppkfnfbdkhaa
/- Parts of lists. -/
set_option linter.all false
namespace Go.Proofs.Ytcbppkfnfbdkhaa
open Go.RowKit Go.Shelf
section
variable {P : Program} {T : TypeId} {N : Nat} {w0 : Org} {s : St} {o : Oper} {t : Nat} {x y z : Operand} {sz : Nat}
end
section
variable {P : Program} {T : TypeId} {N : Nat} {w0 : Org} {s : St} {o : Oper} {τ : List TyI}
theorem opr_bs0 (hτ : tabB P 0 τ = true) {t d e sz by_ : Nat} {zs : List Z} (ho : o.op = .buildSlice t 0 #[]) (hd : o.dst = some d) (hN : d < N) (ht : tyAt τ t = .sl e sz by_) (hz : (tyAt τ e).zs = some zs) (hfr : s.fresh d = true) :
    OpR P T N w0 s o (fun s' => s' = (s.hput d (.arr e sz [])).put d (.one (.sl d 0 sz))) := by
  intro g a w hs K Q hK
  obtain ⟨f1, f2, _⟩ := St.fresh_spec hfr
  obtain ⟨hu, inf, hi, hsz⟩ := sliceT_spec (tab_sl hτ ht)
  obtain ⟨i, z, hi2, hz1, hz2, hz3⟩ := zeroB_spec (tab_zs hτ hz)
  obtain rfl : i = inf := by rw [hi] at hi2; injection hi2 with h; exact h.symm
  have hbu : (Instr.buildSlice t 0 #[]).run P w = .ok (.slice (some ⟨w.heap.size, 0, none⟩) 0 0) (w.alloc (.cells #[] e)) := by
    simp [Instr.buildSlice, run_underlying hu, sizeOf, typeInfo, zeroValue, hi, hz1, Instr.fill, newRow]
    congr 2
    exact Array.eq_empty_of_size_eq_zero (by simp)
  have hrun : (execOp a.eval o).run P w = .ok (.value (.slice (some ⟨w.heap.size, 0, none⟩) 0 0)) (w.alloc (.cells #[] e)) := by
    simp [execOp, ho, Sem.run_bind, hbu, Result.andThen_ok, Sem.run_pure]
  have h1 := hs.newG (d := d) f1 f2 (r0 := none) (ob := none) (nb := some w.heap.size) (k := 0) (w' := w.alloc (.cells #[] e)) (vh := .arr e sz []) (fun b hb => (by cases hb)) (World.grownBy_alloc w _ none) (fun b hb => (by simp at hb; subst hb; exact ⟨.inr (Nat.le_refl _), by simp⟩)) rfl (fun hf => by
    refine ⟨fun row hrow => (by cases hrow), .inr ⟨w.heap.size, #[], by simp [Gh.new, updO], Blk.new _ _ _, by simp [Gh.new, updN], by simp [Gh.new, updN], by simp [Gh.new, updN], fun i' j row x hi' hj => ?_⟩⟩
    simp at hi')
  unfold Oper.wp
  rw [hrun]
  refine hK (g.new d (some w.heap.size) 0) _ _ _ rfl ?_
  rw [hd]
  refine h1.put hN (.one ?_)
  have := RepCV.sl (P := P) (g := g.new d (some w.heap.size) 0) (w := w.alloc (.cells #[] e)) (r := d) (b := w.heap.size) 0 sz (by simp [Gh.new, updO]) (by simp [Gh.new, updN]) (by simp [Gh.new, updN])
  simpa [Gh.new, updN] using this
end
theorem v_bs0 {α : Type} (f : α → List Cell) {k : Wk} {w0 : Org} {ops : Array Oper} {l : List Oper} {Q : St → Prop} {F : List (Nat × SV)} {H : List (Nat × VH)} {d t ty e sz by_ : Nat} {p : String} {af : Array Edge} {zs : List Z} (hN : Nat.blt d k.N = true) (ht : tyAt k.τ t = .sl e sz by_) (hz : (tyAt k.τ e).zs = some zs) (hfr : (St.mk F H).fresh d = true) (h : rg k w0 ops l Q ⟨(d, .one (.sl d ([] : List α).length sz)) :: F, (d, .arr e sz (([] : List α).map f)) :: H⟩) : rg k w0 ops (⟨some d, .buildSlice t 0 #[], ty, p, af, none⟩ :: l) Q ⟨F, H⟩ :=
  rgI (irg_h rfl (opr_bs0 k.ok rfl rfl (nlt hN) ht hz hfr) (rgO h))
theorem opq_eqnil {P : Program} {T : TypeId} {N : Nat} {w0 : Org} {s : St} {o : Oper} {t e sz t' : Nat} {x y : Operand} {rows : List (List Cell)} (ho : o.op = .binOp .eql t x y t') (hx : s.ev x = .one (.d (.list rows))) (hy : s.ev y = .one .nil) (ht : sliceT P t e sz = true) : OpQ P T N w0 s o (ND (fun b : Bool => b = true → rows = []) bv) := by
  intro g a w hs K Q hK
  have q1 := hs.ev x; rw [hx] at q1
  have q2 := hs.ev y; rw [hy] at q2
  obtain ⟨hu, _⟩ := sliceT_spec ht
  have q := q1.one_inv.unD rfl
  have h2 : a.eval y = .slice none 0 0 := by
    have := q2.one_inv
    generalize a.eval y = v at this
    cases this; rfl
  generalize hv : a.eval x = v at q
  cases q with
  | list A cap _ sz' vals k0 k1' k2' ksz kc kr =>
    have e0 : (eqGuard .eql t x y (.slice A rows.length cap) (.slice none 0 0)).run P w = .ok () w := by unfold eqGuard; rfl
    have e2 : (binOp .eql t (.slice A rows.length cap) (.slice none 0 0)).run P w = .ok (.bool A.isNone) w := by simp only [binOp]; simp only [Sem.run_bind, run_equal_slice_nil w t e A rows.length cap hu, Result.andThen_ok, Sem.run_pure]
    unfold Oper.wp
    have hrun : (execOp a.eval o).run P w = .ok (.value (.bool A.isNone)) w := by
      simp only [execOp, ho, hv, h2, Sem.run_bind, e0, e2, Result.andThen_ok, Sem.run_pure]
    rw [hrun]
    exact hK _ _ ⟨g, bv A.isNone, ⟨A.isNone, fun h => k0 (by simpa using h), rfl⟩, Ext.refl hs.gi, .one (.d (.bool _))⟩
theorem v_eqnil {R : Bool → Prop} {k : Wk} {w0 : Org} {ops : Array Oper} {l : List Oper} {Q : St → Prop} {F : List (Nat × SV)} {H : List (Nat × VH)} {d t ty e sz by_ t' : Nat} {p : String} {af : Array Edge} {x y : Operand} {α : Type} {f : α → List Cell} {xs : List α} (hN : Nat.blt d k.N = true) (hx : (St.mk F H).ev x = .one (.d (.list (xs.map f)))) (hy : (St.mk F H).ev y = .one .nil) (ht : tyAt k.τ t = .sl e sz by_) (hP : Hld (∀ b, (b = true → xs = []) → R b)) (h : ∀ b, (b = true → xs = []) → Hld (R b) → rg k w0 ops l Q ⟨(d, bv b) :: F, H⟩) : rg k w0 ops (⟨some d, .binOp .eql t x y t', ty, p, af, none⟩ :: l) Q ⟨F, H⟩ :=
  rgI (irg_q rfl rfl (nlt hN) (opq_eqnil rfl hx hy (tab_sl k.ok ht)) fun v ⟨b, hb, e⟩ => by
    subst e
    have hb' : b = true → xs = [] := fun h => by simpa using hb h
    exact rgO (h b hb' ⟨hP.out b hb'⟩))
def part {α : Type} (xs : List α) (m n : Int) : List α := (xs.take n.toNat).drop m.toNat
theorem map_rows {α : Type} {f : α → List Cell} {xs : List α} {sz : Nat} (hf : ∀ x, (f x).length = sz) : ∀ row ∈ xs.map f, row.length = sz := by
  intro row hr
  obtain ⟨x, _, rfl⟩ := List.mem_map.1 hr
  exact hf x
section
variable {k : Wk} {w0 : Org} {ops : Array Oper} {l : List Oper} {Q : St → Prop} {F : List (Nat × SV)} {H : List (Nat × VH)} {d t ty e sz by_ : Nat} {p : String} {af : Array Edge} {x y z : Operand} {α : Type} {f : α → List Cell} {xs : List α} {k1 k2 : IntKind} {m n : Int} {s : St} {gd : Option (Nat × Bool)}
end
end Go.Proofs.Ytcbppkfnfbdkhaa
/- Results that are owned lists: one new name. -/
set_option linter.all false
namespace Go.Proofs.Ytcbppkfnfbdkhaa
open Go.RowKit Go.Shelf
def OwnL (e sz : Nat) (rows : List (List Cell)) : SV → List (Nat × VH) → Prop := fun x y =>
  (x = .one .nil ∧ y = [] ∧ rows = []) ∨ ∃ r, x = .one (.sl r rows.length sz) ∧ y = [(r, .arr e sz rows)]
def Gh.graft (g g' : Gh) (d : Nat) (bd : Option Nat) (kd : Nat) : Gh := ⟨fun x => if x = d then bd else g.β x, fun x => if x = d then kd else g.κ x, g'.Rd, g.tp, g.tl, g.ex⟩
section
variable {P : Program} {T : TypeId} {N : Nat} {w0 : Org} {g g' : Gh} {s : St} {a : Act} {w w' : World} {d : Nat} {bd : Option Nat} {kd : Nat} {vh : VH}
theorem graft_hi : (g.graft g' d bd kd).β d = bd ∧ (g.graft g' d bd kd).κ d = kd := by simp [Gh.graft]
theorem graft_lo {x : Nat} (h : x ≠ d) : (g.graft g' d bd kd).β x = g.β x ∧ (g.graft g' d bd kd).κ x = g.κ x := by simp [Gh.graft, h]
theorem Sim.graft (hs : Sim P T N w0 g s a w) (f1 : ∀ x, (getF s.F x).has d = false) (f2 : ∀ r, (getH s.H r).has d = false) (h1 : ∀ b, bd = some b → w.heap.size ≤ b ∧ b < w'.heap.size) (h2 : ∀ b o, g'.Rd b o → bd ≠ some b) (he : ExtC T (psG g s.H w true) g' w w') (hh : HeapOK P (g.graft g' d bd kd) w' d vh) :
    Sim P T N w0 (g.graft g' d bd kd) (s.hput d vh) a w' := by
  have hsz := hs.gi.sz
  have hsz2 := he.keep.size
  have hget : ∀ r, getH (s.hput d vh).H r = if r = d then vh else getH s.H r := fun r => by
    show getH ((d, vh) :: s.H) r = _
    simp only [getH, beq_eq]
    by_cases e : d = r
    · simp [e]
    · simp [e, show ¬ r = d from fun h => e h.symm]
  have hcell : ∀ b o, g.Rd b o → w'.cell? ⟨b, o, none⟩ = w.cell? ⟨b, o, none⟩ := fun b o hr => he.keep.cell (p := ⟨b, o, none⟩) fun hm => by
    obtain ⟨h1, h2, _⟩ := hs.gi.rd b o hr
    rcases hm with hm | hm
    · exact h2 hm
    · simp at hm; omega
  have hf : Fut g.Rd (g.graft g' d bd kd).Rd w w' := ⟨fun b o hr => he.rd b o hr, hcell⟩
  have hown : ∀ r b, live (s.hput d vh).H r → (g.graft g' d bd kd).β r = some b → (r = d ∧ bd = some b ∧ w.heap.size ≤ b ∧ b < w'.heap.size) ∨ (r ≠ d ∧ live s.H r ∧ g.β r = some b ∧ w0.own b ∧ b < w.heap.size ∧ g.tp ≠ some b) := fun r b hl hb => by
    by_cases e : r = d
    · subst e
      rw [graft_hi.1] at hb
      obtain ⟨q1, q2⟩ := h1 b hb
      exact .inl ⟨rfl, hb, q1, q2⟩
    · rw [(graft_lo e).1] at hb
      have hl' : live s.H r := by unfold live at hl ⊢; rw [hget, if_neg e] at hl; exact hl
      obtain ⟨q1, q2, q3⟩ := hs.gi.bd r b hl' hb
      exact .inr ⟨e, hl', hb, q1, q2, q3⟩
  have htp : ∀ tb, g.tp = some tb → tb < w.heap.size := fun tb h => (hs.gi.tape tb h).1
  refine ⟨⟨fun r r' b q1 q2 q3 q4 => ?_, fun r b q1 q2 => ?_, fun b o hr => ?_, ?_, fun tb htb => ?_, ⟨fun b o hr => he.rd b o (hs.gi.org.rd0 _ _ hr), fun b o hr => ?_, hs.gi.org.tp0, hs.gi.org.tpo⟩, hs.gi.exs (fun _ _ h => h) fun c hc => ?_⟩, hs.dn, hs.nt, fun x => (hs.hF x).move hf (fun _ h => h) fun r hr => graft_lo fun e => (by subst e; rw [f1 x] at hr; cases hr), fun r => ?_⟩
  · rcases hown r b q1 q3 with ⟨e1, b1, c1, d1⟩ | ⟨e1, l1, b1, c1, d1, _⟩ <;> rcases hown r' b q2 q4 with ⟨e2, b2, c2, d2⟩ | ⟨e2, l2, b2, c2, d2, _⟩
    · rw [e1, e2]
    · omega
    · omega
    · exact hs.gi.inj r r' b l1 l2 b1 b2
  · rcases hown r b q1 q2 with ⟨e1, b1, c1, d1⟩ | ⟨e1, l1, b1, c1, d1, t1⟩
    · exact ⟨.inl (by omega), d1, fun h => by have := htp b h; omega⟩
    · exact ⟨c1, by omega, t1⟩
  · have hb : b < w'.heap.size ∧ g.tp ≠ some b ∧ (g.Rd b o ∨ w.heap.size ≤ b) := by
      rcases he.new b o hr with h | ⟨h1, h2⟩
      · obtain ⟨q1, q2, _⟩ := hs.gi.rd b o h
        exact ⟨by omega, q2, .inl h⟩
      · exact ⟨h2, fun h => by have := htp b h; omega, .inr h1⟩
    refine ⟨hb.1, hb.2.1, fun r hl h => ?_⟩
    rcases hown r b hl h with ⟨e1, b1, c1, d1⟩ | ⟨e1, l1, b1, c1, d1, t1⟩
    · exact h2 b o hr b1
    · rcases hb.2.2 with h3 | h3
      · exact (hs.gi.rd b o h3).2.2 r l1 b1
      · omega
  · refine hs.gi.keep.trans (he.keep.mono fun k hk => ?_)
    rcases hk with hk | hk
    · exact hs.gi.org.tpo k hk
    · exact .inr (.inl (by omega))
  · exact ⟨by have := htp tb htb; omega, he.tape tb htb⟩
  · rcases he.new b o hr with h | ⟨h1, h2⟩
    · exact hs.gi.org.new0 b o h
    · exact .inr (.inl (by omega))
  · obtain ⟨_, c2, c3, c4, c5⟩ := hc
    refine ⟨he.keep.block c fun hm => ?_, c3, fun o ho2 => ?_, fun r hl hb => ?_⟩
    · rcases hm with hm | hm
      · exact c3 hm
      · omega
    · rcases he.new c o ho2 with h | ⟨h1, _⟩
      · exact c4 o h
      · omega
    · rcases hown r c hl hb with ⟨_, _, q1, _⟩ | ⟨_, q1, q2, _⟩
      · omega
      · exact c5 r q1 q2
  · rw [hget]
    by_cases e : r = d
    · subst e; rw [if_pos rfl]; exact hh
    · rw [if_neg e]
      refine (hs.hH r).move hf (fun _ h => h) (fun q hq => graft_lo fun e2 => ?_) (fun b hl hb => ?_) fun _ _ h => h
      · subst e2
        rcases hq with hq | hq
        · rw [f2 r] at hq; cases hq
        · exact e hq.symm
      · obtain ⟨_, a2, a3⟩ := hs.gi.bd r b hl hb
        exact he.keep.block b fun hm => by
          rcases hm with hm | hm
          · exact a3 hm
          · omega
end
section
variable {P : Program} {T : TypeId} {N : Nat} {w0 : Org} {s : St} {o : Oper}
theorem opr_calll {f : FuncId} {xs : Array Operand} {ts : Array TypeId} {args : List SV} {et sz : Nat} {rows : List (List Cell)} {d : Nat} (ho : o.op = .call { callee := .value (.func f), args := xs, argTypes := ts }) (hd : o.dst = some d) (hN : d < N) (hic : ICo P T f args (OwnL et sz rows))
    (ha : PsSL P T s true xs.toList args) (f1 : ∀ x, (getF s.F x).has d = false) (f2 : ∀ r, (getH s.H r).has d = false) (hrow : ∀ row ∈ rows, row.length = sz) : OpR P T N w0 s o (fun s' => s' = (s.hput d (.arr et sz rows)).put d (.one (.sl d rows.length sz))) := by
  intro g a w hs K Q hK
  obtain ⟨k1, k2⟩ := ha.rep hs
  have hrun : (execOp a.eval o).run P w = .ok (.enter f (xs.map a.eval)) w := by
    simp only [execOp, ho, Sem.run_bind, resolve, Act.eval, Deferred.ofValue, Sem.run_pure, Result.andThen_ok, invoke]
    have := hic.1 (#[] ++ xs.map a.eval ++ #[]) w
    simpa using this
  unfold Oper.wp
  rw [hrun, Oper.upon_enter]
  refine (hic.2 (psG g s.H w true) w (xs.map a.eval) (fun _ => rfl) (ps_gi hs true) (by simpa using k1) fun j v sv hv hsv => k2 j v sv (by simpa using hv) hsv).mono fun e w' ⟨u, sv, H', g', h12, h3, h4, h5, h6⟩ => ?_
  subst h3
  rcases h12 with ⟨h1, h2, h0⟩ | ⟨r, h1, h2⟩
  · subst h1 h2 h0
    have hj := hs.graft (d := d) (g' := g') (w' := w') (bd := none) (kd := 0) (vh := .arr et sz []) f1 f2 (fun b hb => by cases hb) (fun b o _ => by simp) h6 ⟨fun row hr => (by cases hr), .inl ⟨graft_hi.1, rfl⟩⟩
    refine hK (g.graft g' d none 0) _ _ _ rfl ?_
    rw [hd]
    refine hj.put hN (.one ?_)
    cases h4 with
    | one h4 => cases h4; exact .slv sz graft_hi.1
  · subst h1 h2
    have hh := h5.hH r
    have hg : getH [(r, VH.arr et sz rows)] r = .arr et sz rows := by simp [getH]
    rw [hg] at hh
    have hl : live [(r, VH.arr et sz rows)] r := by unfold live; rw [hg]; rfl
    obtain ⟨q0, q⟩ := hh
    have hj := hs.graft (d := d) (g' := g') (w' := w') (bd := g'.β r) (kd := g'.κ r) (vh := .arr et sz rows) f1 f2 (fun b hb => h5.bd r b hl hb) (fun b o hr => h5.rd b o hr r hl) h6 ⟨q0, by
      rcases q with ⟨q1, q2⟩ | ⟨b, vals, q1, q2, q3, q4, q5, q6⟩
      · exact .inl ⟨graft_hi.1.trans q1, q2⟩
      · exact .inr ⟨b, vals, graft_hi.1.trans q1, q2, by rw [graft_hi.2]; exact q3, by rw [graft_hi.2]; exact q4, by rw [graft_hi.2]; exact q5, q6⟩⟩
    refine hK (g.graft g' d (g'.β r) (g'.κ r)) _ _ _ rfl ?_
    rw [hd]
    refine hj.put hN (.one ?_)
    cases h4 with
    | one h4 =>
      rcases h4.sl_inv with q | ⟨b, hb, ha, hb2, hv⟩
      · obtain ⟨q1, q2, q3⟩ := q
        have : RepCV P (g.graft g' d (g'.β r) (g'.κ r)) w' u (.sl d 0 sz) := by
          first
            | (rw [q1]; exact .slv sz (graft_hi.1.trans q3))
            | (rw [q2]; exact .slv sz (graft_hi.1.trans q3))
        first
          | (rw [q1]; exact this)
          | (rw [q2]; exact this)
      · have := RepCV.sl (P := P) (g := g.graft g' d (g'.β r) (g'.κ r)) (w := w') (r := d) (b := b) rows.length sz (graft_hi.1.trans hb) (by rw [graft_hi.2]; exact ha) (by rw [graft_hi.2]; exact hb2)
        rw [graft_hi.2] at this
        rw [hv]
        exact this
end
section
variable {P : Program} {T : TypeId} {H H' : List (Nat × VH)}
end
section
variable {k : Wk} {w0 : Org} {ops : Array Oper} {W : Option (List Nat)} {S listed : Array Bool} {nq m n : Nat} {Q : St → Prop} {s : St} {l : List Nat} {ty : TypeId} {pp : String} {af : Array Edge} {d i : Nat}
end
section
variable {k : Wk} {w0 : Org} {ops : Array Oper} {l : List Oper} {Q : St → Prop} {F : List (Nat × SV)} {H : List (Nat × VH)} {d t : Nat} {p : String} {af : Array Edge}
theorem j_col {f : FuncId} {xs : Array Operand} {ts : Array TypeId} {args : List SV} {et sz : Nat} {rows : List (List Cell)} (hN : Nat.blt d k.N = true) (hic : ICo k.P k.T f args (OwnL et sz rows)) (ha : PsSL k.P k.T ⟨F, H⟩ true xs.toList args) (hrow : ∀ row ∈ rows, row.length = sz) (hfr : (St.mk F H).fresh d = true)
    (h : rg k w0 ops l Q ⟨(d, .one (.sl d rows.length sz)) :: F, (d, .arr et sz rows) :: H⟩) : rg k w0 ops (⟨some d, .call { callee := .value (.func f), args := xs, argTypes := ts }, t, p, af, none⟩ :: l) Q ⟨F, H⟩ :=
  rgI (irg_h rfl (opr_calll rfl rfl (nlt hN) hic ha (St.fresh_spec hfr).1 (St.fresh_spec hfr).2.1 hrow) (rgO h))
end
section
variable {τ : List TyI} {fn : Func} {F : List (Nat × SV)} {H : List (Nat × VH)} {α : Type} {f : α → List Cell} {x0 xs : List α} {e sz : Nat} {t : Tmp}
theorem o_sl {r n : Nat} (hr : fn.results = #[.tmp t]) (hv : getF F t = .one (.sl r n sz)) (hH : getH H r = .arr e sz (xs.map f)) (hn : n = xs.length) (hp : xs = x0) : RetQo τ fn (OwnL e sz (x0.map f)) .ret ⟨F, H⟩ := by
  subst hp
  refine o_1 hr hv (H := [(r, .arr e sz (xs.map f))]) (.cons (by show VHle [] r (getH H r) _; rw [hH]; exact .arr rfl rfl) .nil) (.inr ⟨r, ?_, rfl⟩)
  rw [hn, List.length_map]
theorem o_nl (hr : fn.results = #[.tmp t]) (hv : getF F t = .one .nil) (hp : x0 = []) : RetQo τ fn (OwnL e sz (x0.map f)) .ret ⟨F, H⟩ := by
  subst hp
  exact o_1 hr hv (H := []) .nil (.inl ⟨rfl, rfl, rfl⟩)
end
section
variable {k : Wk} {w0 : Org} {ops : Array Oper} {l : List Oper} {Q : St → Prop} {F : List (Nat × SV)} {H : List (Nat × VH)} {d t : Nat} {p : String} {af : Array Edge} {α : Type} {g : α → List Cell} {x0 : List α}
theorem v_col {f : FuncId} {xs : Array Operand} {ts : Array TypeId} {args : List SV} {et sz : Nat} (hN : Nat.blt d k.N = true) (hic : ICo k.P k.T f args (OwnL et sz (x0.map g))) (ha : PsSL k.P k.T ⟨F, H⟩ true xs.toList args) (hf : ∀ x, (g x).length = sz) (hfr : (St.mk F H).fresh d = true)
    (h : rg k w0 ops l Q ⟨(d, .one (.sl d x0.length sz)) :: F, (d, .arr et sz (x0.map g)) :: H⟩) : rg k w0 ops (⟨some d, .call { callee := .value (.func f), args := xs, argTypes := ts }, t, p, af, none⟩ :: l) Q ⟨F, H⟩ :=
  j_col hN hic ha (map_rows hf) hfr (by rw [List.length_map]; exact h)
end
section
variable {k : Wk} {w0 : Org} {ops : Array Oper} {W : Option (List Nat)} {S listed : Array Bool} {nq m n : Nat} {Q : St → Prop} {s : St} {l : List Nat} {ty : TypeId} {pp : String} {af : Array Edge} {d i : Nat} {α : Type} {g : α → List Cell} {x0 : List α}
end
abbrev ICl (f : Nat) (args : List SV) (e sz : Nat) (rows : List (List Cell)) : Prop := ICo Try.prog 25 f args (OwnL e sz rows)
def ICq (pre : Prop) (f : Nat) (args : List SV) (e sz : Nat) (rows : List (List Cell)) : Prop := pre → ICl f args e sz rows
def ICs (pre : Prop) (f : Nat) (args : List SV) (v : SV) (H : List (Nat × VH)) : Prop := pre → ICo Try.prog 25 f args (fun x y => x = v ∧ y = H)
section
variable {k : Wk} {w0 : Org} {ops : Array Oper} {l : List Oper} {Q : St → Prop} {F : List (Nat × SV)} {H : List (Nat × VH)} {d t : Nat} {p : String} {af : Array Edge} {α : Type} {g : α → List Cell} {x0 : List α}
theorem v_colp {pre : Prop} {f : FuncId} {xs : Array Operand} {ts : Array TypeId} {args : List SV} {et sz : Nat} (hN : Nat.blt d k.N = true) (hk : k.P = Try.prog ∧ k.T = 25) (hic : ICq pre f args et sz (x0.map g)) (ha : PsSL k.P k.T ⟨F, H⟩ true xs.toList args) (hf : ∀ x, (g x).length = sz) (hfr : (St.mk F H).fresh d = true) (hp : pre)
    (h : rg k w0 ops l Q ⟨(d, .one (.sl d x0.length sz)) :: F, (d, .arr et sz (x0.map g)) :: H⟩) : rg k w0 ops (⟨some d, .call { callee := .value (.func f), args := xs, argTypes := ts }, t, p, af, none⟩ :: l) Q ⟨F, H⟩ :=
  v_col hN (by rw [hk.1, hk.2]; exact hic hp) ha hf hfr h
theorem v_callo (B : Nat) {pre : Prop} {f : FuncId} {xs : Array Operand} {ts : Array TypeId} {args : List SV} {v v2 : SV} {H' H2 : List (Nat × VH)} (hN : Nat.blt d k.N = true) (hk : k.P = Try.prog ∧ k.T = 25) (hic : ICs pre f args v H') (ha : PsSL k.P k.T ⟨F, H⟩ true xs.toList args) (hF : undF B F = true) (hH : undH B H = true) (hv : v.ren B = v2) (hH2 : renH B H' ++ H = H2) (hp : pre)
    (h : rg k w0 ops l Q ⟨(d, v2) :: F, H2⟩) : rg k w0 ops (⟨some d, .call { callee := .value (.func f), args := xs, argTypes := ts }, t, p, af, none⟩ :: l) Q ⟨F, H⟩ := by
  subst hv hH2
  exact i_callo (k := k) (s := ⟨F, H⟩) B hN (by rw [hk.1, hk.2]; exact hic hp) ha hF hH h
end
section
variable {k : Wk} {w0 : Org} {ops : Array Oper} {W : Option (List Nat)} {S listed : Array Bool} {nq m n : Nat} {Q : St → Prop} {s : St} {l : List Nat} {ty : TypeId} {pp : String} {af : Array Edge} {d i : Nat} {α : Type} {g : α → List Cell} {x0 : List α}
end
section
variable {τ : List TyI} {fn : Func} {post : SV → List (Nat × VH) → Prop} {s : St} {H : List (Nat × VH)}
theorem o_a {t : Tmp} {cs : List CV} (hr : fn.results = #[.tmp t]) (hv : getF s.F t = .agg cs) (hf : FitH [] s H) (h : post (.agg cs) H) : RetQo τ fn post .ret s :=
  ⟨.inl rfl, _, _, H, by rw [hr]; exact .cons (.tmp t) .nil, by rw [hv]; exact .one _, hf, h⟩
end
end Go.Proofs.Ytcbppkfnfbdkhaa
/- Conversions, shifts, make, copy. -/
set_option linter.all false
namespace Go.Proofs.Ytcbppkfnfbdkhaa
open Go.RowKit Go.Shelf
def convB (P : Program) (src dst : TypeId) (k : IntKind) : Bool := match P.underlying src, P.underlying dst with
  | some (.int _), some (.int k') => k' == k
  | _, _ => false
section
variable {P : Program} {T : TypeId} {N : Nat} {w0 : Org} {s : St} {o : Oper} {τ : List TyI}
theorem ope_conv (k2 : IntKind) {src dst : TypeId} {x : Operand} {k : IntKind} {n r : Int} (ho : o.op = .convert src dst x) (hk : convB P src dst k2 = true) (hx : s.ev x = .one (.d (.int k n))) (hr : k2.wrap n = r) : OpE P T N w0 s o (.one (.d (.int k2 r))) :=
  ope_val fun g a w hs => by
    have q := hs.ev x; rw [hx] at q
    refine ⟨.int k2 r, ?_, .one (.d (.int _ _ (by rw [← hr]; exact wrap_wf _ _)))⟩
    unfold convB at hk
    split at hk
    · rename_i k3 k4 h1 h2
      have e : k4 = k2 := by simpa using hk
      subst e
      simp [execOp, ho, q.int_inv.1, convert, run_underlying h1, run_underlying h2, Conv.intToInt, hr]
    · cases hk
theorem shr_wf (k : IntKind) (m : Int) (c : Nat) (hm : (Lit.int k m).wf = true) : (Lit.int k (m.fdiv (2 ^ c))).wf = true := by
  have hp : (0 : Int) < 2 ^ c := Int.pow_pos (by omega)
  rw [Int.fdiv_eq_ediv_of_nonneg _ (by omega)]
  have e := Int.mul_ediv_add_emod m (2 ^ c)
  have e1 := Int.emod_nonneg m (show (2 : Int) ^ c ≠ 0 by omega)
  have e2 := Int.emod_lt_of_pos m hp
  have h : (0 ≤ m → 0 ≤ m / 2 ^ c ∧ m / 2 ^ c ≤ m) ∧ (m < 0 → m ≤ m / 2 ^ c ∧ m / 2 ^ c ≤ 0) := by
    generalize m / 2 ^ c = q at *
    generalize (2 : Int) ^ c = d at *
    refine ⟨fun h => ⟨?_, ?_⟩, fun h => ⟨?_, ?_⟩⟩
    · by_cases hq : 0 ≤ q
      · exact hq
      · have : d * q ≤ d * (-1) := Int.mul_le_mul_of_nonneg_left (by omega) (by omega)
        omega
    · by_cases hq : 0 ≤ q
      · have : 1 * q ≤ d * q := Int.mul_le_mul_of_nonneg_right (by omega) hq
        omega
      · omega
    · by_cases hq : 0 ≤ q
      · omega
      · have : d * q ≤ 1 * q := Int.mul_le_mul_of_nonpos_right (by omega) (by omega)
        by_cases hq2 : m ≤ q
        · exact hq2
        · have h3 : d * q ≤ q - (d - 1) := by
            have : (d - 1) * q ≤ (d - 1) * (-1) := Int.mul_le_mul_of_nonneg_left (by omega) (by omega)
            have e3 : (d - 1) * q = d * q - q := by rw [Int.sub_mul, Int.one_mul]
            omega
          omega
    · by_cases hq : q ≤ 0
      · exact hq
      · have : d * 1 ≤ d * q := Int.mul_le_mul_of_nonneg_left (by omega) (by omega)
        omega
  generalize m / 2 ^ c = q at *
  cases k <;> simp [Lit.wf, IntKind.min, IntKind.max, IntKind.bits, IntKind.signed] at hm ⊢ <;> omega
theorem ope_shr {t t' : TypeId} {x y : Operand} {k k' : IntKind} {m n r : Int} (ho : o.op = .binOp .shr t x y t') (hx : s.ev x = .one (.d (.int k m))) (hy : s.ev y = .one (.d (.int k' n))) (hn : 0 ≤ n) (hr : m.fdiv (2 ^ (min n.toNat k.bits)) = r) : OpE P T N w0 s o (.one (.d (.int k r))) :=
  ope_val fun g a w hs => ⟨.int k r, by
    have h1 := hs.ev x; rw [hx] at h1
    have h2 := hs.ev y; rw [hy] at h2
    have e : (eqGuard .shr t x y (.int k m) (.int k' n)).run P w = .ok () w := by unfold eqGuard; rfl
    simp [execOp, ho, h1.int_inv.1, h2.int_inv.1, e, binOp, Op.shift, show ¬ n < 0 by omega, hr], .one (.d (.int _ _ (by
    have h1 := hs.ev x; rw [hx] at h1
    rw [← hr]; exact shr_wf _ _ _ h1.int_inv.2)))⟩
theorem opr_make (hτ : tabB P 0 τ = true) {t d e sz by_ : Nat} {zs : List Z} {zr : List Cell} {x y : Operand} {k1 k2 : IntKind} {l c : Int} (ho : o.op = .makeSlice t x y) (hd : o.dst = some d) (hN : d < N) (ht : tyAt τ t = .sl e sz by_) (hz : (tyAt τ e).zs = some zs) (hzl : zs.length = sz) (h0 : 0 < sz)
    (hfl : unDL (zs.map Z.cv) = some zr) (hx : s.ev x = .one (.d (.int k1 l))) (hy : s.ev y = .one (.d (.int k2 c))) (hl : 0 ≤ l) (hlc : l ≤ c) (hb0 : 0 < by_) (hb : c * by_ ≤ 140737488355328) (hfr : s.fresh d = true) :
    OpR P T N w0 s o (fun s' => s' = (s.hput d (.arr e sz (List.replicate l.toNat zr))).put d (.one (.sl d l.toNat sz))) := by
  intro g a w hs K Q hK
  obtain ⟨f1, f2, _⟩ := St.fresh_spec hfr
  obtain ⟨hu, inf, hi, hsz⟩ := sliceT_spec (tab_sl hτ ht)
  have hby : inf.bytes = by_ := by
    have := tab_by hτ ht
    unfold bytesB at this
    rw [hi] at this
    exact Nat.eq_of_beq_eq_true this
  obtain ⟨i, z, hi2, hz1, hz2, hz3⟩ := zeroB_spec (tab_zs hτ hz)
  obtain rfl : i = inf := by rw [hi] at hi2; injection hi2 with h; exact h.symm
  obtain ⟨u1, u2⟩ := unDL_get hfl
  have hzs : z.cells.size = sz := by rw [hz2]; simp [hzl]
  have hzr : zr.length = sz := by have := u1; simp at this; omega
  have h1 := hs.ev x; rw [hx] at h1
  have h2 := hs.ev y; rw [hy] at h2
  have hcb : c * 1 ≤ c * by_ := Int.mul_le_mul_of_nonneg_left (by omega) (by omega)
  have hbu := run_make (P := P) (w := w) t e i z hu hi hz1 k1 k2 l c hl hlc (by rw [hby, Int.mul_comm]; omega) (by omega)
  rw [hsz] at hbu
  have hrun : (execOp a.eval o).run P w = .ok (.value (.slice (some ⟨w.heap.size, 0, none⟩) l.toNat c.toNat)) (w.alloc (.cells (madeCells z.cells (c.toNat * sz)) e)) := by
    simp only [execOp, ho, h1.int_inv.1, h2.int_inv.1, Sem.run_bind, hbu, Result.andThen_ok, Sem.run_pure]
  have hlc' : l.toNat ≤ c.toNat := by omega
  have hk := hs.newG (d := d) f1 f2 (r0 := none) (ob := none) (nb := some w.heap.size) (k := c.toNat) (w' := w.alloc (.cells (madeCells z.cells (c.toNat * sz)) e)) (vh := .arr e sz (List.replicate l.toNat zr)) (fun b hb => (by cases hb)) (World.grownBy_alloc w _ none) (fun b hb => (by simp at hb; subst hb; exact ⟨.inr (Nat.le_refl _), by simp⟩)) rfl (fun hf => by
    refine ⟨fun row hrow => by rw [(List.mem_replicate.1 hrow).2]; exact hzr, .inr ⟨w.heap.size, _, by simp [Gh.new, updO], Blk.new _ _ _, by simp [Gh.new, updN, madeCells], by simp [Gh.new, updN]; omega, by simp [Gh.new, updN]; unfold maxLen; omega, fun i' j row x hi' hj => ?_⟩⟩
    have hlt := (List.getElem?_eq_some_iff.1 hi').1
    simp at hlt
    rw [List.getElem?_replicate, if_pos (by omega)] at hi'
    injection hi' with hi'
    subst hi'
    have hjl := (List.getElem?_eq_some_iff.1 hj).1
    have : (i' + 1) * sz ≤ c.toNat * sz := Nat.mul_le_mul_right _ (by omega)
    rw [Nat.add_mul] at this
    have hjz : j < z.cells.size := by omega
    have e1 : (madeCells z.cells (c.toNat * sz))[i' * sz + j]? = some z.cells[j] := by
      unfold madeCells
      rw [Array.getElem?_map, Array.getElem?_range, if_pos (by omega)]
      have : (i' * sz + j) % z.cells.size = j := by rw [hzs]; exact (divmod (by omega)).2
      simp [this, hjz]
    have hcv : (zs.map Z.cv)[j]? = some ((zs.map Z.cv)[j]'(by omega)) := List.getElem?_eq_getElem _
    exact ⟨_, e1, (hz3 _ _ j _ _ (Array.getElem?_eq_getElem hjz) hcv).unD (u2 _ _ _ hcv hj)⟩)
  unfold Oper.wp
  rw [hrun]
  refine hK (g.new d (some w.heap.size) c.toNat) _ _ _ rfl ?_
  rw [hd]
  refine hk.put hN (.one ?_)
  have := RepCV.sl (P := P) (g := g.new d (some w.heap.size) c.toNat) (w := w.alloc (.cells (madeCells z.cells (c.toNat * sz)) e)) (r := d) (b := w.heap.size) l.toNat sz (by simp [Gh.new, updO]) (by simp [Gh.new, updN]; omega) (by simp [Gh.new, updN]; unfold maxLen; omega)
  simpa [Gh.new, updN] using this
end
def splr (rows : List (List Cell)) (off : Nat) (q : List (List Cell)) : List (List Cell) := rows.take off ++ q ++ rows.drop (off + q.length)
theorem splr_get {rows : List (List Cell)} {off : Nat} {q : List (List Cell)} (h : off + q.length ≤ rows.length) (i : Nat) : (splr rows off q)[i]? = if off ≤ i ∧ i < off + q.length then q[i - off]? else rows[i]? := by
  unfold splr
  by_cases h1 : i < off
  · rw [if_neg (by omega), List.append_assoc, List.getElem?_append_left (by simp; omega), List.getElem?_take_of_lt h1]
  · by_cases h2 : i < off + q.length
    · rw [if_pos (by omega), List.append_assoc, List.getElem?_append_right (by simp; omega), List.getElem?_append_left (by simp; omega)]
      simp [show min off rows.length = off by omega]
    · rw [if_neg (by omega), List.getElem?_append_right (by simp; omega), List.getElem?_drop]
      congr 1
      simp
      omega
theorem splr_len {rows : List (List Cell)} {off : Nat} {q : List (List Cell)} (h : off + q.length ≤ rows.length) : (splr rows off q).length = rows.length := by unfold splr; simp; omega
section
variable {P : Program} {T : TypeId} {N : Nat} {w0 : Org} {g : Gh} {a : Act} {w : World} {s : St} {o : Oper} {τ : List TyI}
theorem Sim.same {r : Nat} {vh : VH} (hs : Sim P T N w0 g s a w) (hH : getH s.H r = vh) : Sim P T N w0 g (s.hput r vh) a w := by
  have hg : ∀ q, getH (s.hput r vh).H q = getH s.H q := fun q => by
    show getH ((r, vh) :: s.H) q = _
    simp only [getH, beq_eq]
    by_cases e : r = q
    · subst e; simp [hH]
    · simp [e]
  have hl : ∀ q, live (s.hput r vh).H q ↔ live s.H q := fun q => by unfold live; rw [hg]
  exact ⟨⟨fun r r' b h1 h2 => hs.gi.inj r r' b ((hl _).1 h1) ((hl _).1 h2), fun r b h1 => hs.gi.bd r b ((hl _).1 h1), fun b o h => ⟨(hs.gi.rd b o h).1, (hs.gi.rd b o h).2.1, fun r h1 => (hs.gi.rd b o h).2.2 r ((hl _).1 h1)⟩, hs.gi.keep, hs.gi.tape, hs.gi.org, hs.gi.exs (fun _ _ h => h) fun c hc => ⟨rfl, hc.2.2.1, hc.2.2.2.1, fun q hq => hc.2.2.2.2 q ((hl _).1 hq)⟩⟩, hs.dn, hs.nt, hs.hF, fun q => by rw [hg]; exact hs.hH q⟩
theorem run_copy_g (w w' : World) (dT sT ty elem : TypeId) (i : TypeInfo) (hu : P.underlying dT = some (.slice elem)) (hi : P.info? elem = some i) (B A : Option Addr) (dLen dCap sLen sCap : Nat) (cs : List Value) (hcs : cs.length = Nat.min sLen dLen * i.size)
    (hsrc : Cells (fun _ => False) w A cs) (hst : match B with | some b => (storeCells b cs).run P w = .ok () w' | none => cs = [] ∧ w' = w) :
    (Builtin.copy_ #[dT, sT] ty #[.slice B dLen dCap, .slice A sLen sCap]).run P w = .ok (goInt (Nat.min sLen dLen)) w' := by
  have hf : (Builtin.firstCells i.size (Nat.min sLen dLen) (.slice A sLen sCap)).run P w = .ok cs.toArray w := by
    cases A with
    | none =>
      have : cs = [] := by
        cases cs with
        | nil => rfl
        | cons u cs => obtain ⟨ad, h, _⟩ := hsrc 0 u rfl; cases h
      subst this
      rfl
    | some ad =>
      have := run_loadCells_list (P := P) w ad cs (fun j v h => by
        obtain ⟨ad', h1, _, h2⟩ := hsrc j v h
        injection h1 with h1; subst h1; exact h2)
      simp only [Builtin.firstCells]
      rw [← hcs]
      exact this
  cases B with
  | none =>
    obtain ⟨h1, h2⟩ := hst
    subst h2
    simp [Builtin.copy_, run_underlying hu, Builtin.lenOf, sizeOf, typeInfo, hi, hf]
  | some b =>
    simp [Builtin.copy_, run_underlying hu, Builtin.lenOf, sizeOf, typeInfo, hi, hf, hst]
theorem copy_core (hτ : tabB P 0 τ = true) {d e sz by_ t t2 r off n : Nat} {x y : Operand} {rows rows' : List (List Cell)} (ho : o.op = .call { callee := .builtin .copy, args := #[x, y], argTypes := #[t, t2] }) (hd : o.dst = some d) (hN : d < N) (ht : tyAt τ t = .sl e sz by_)
    (h0 : 0 < sz) (hH : getH s.H r = .arr e sz rows) (hle : off + n ≤ rows.length)
    (hdst : ∀ g a w, Sim P T N w0 g s a w → (∃ b c, g.β r = some b ∧ a.eval x = .slice (some ⟨b, off * sz, none⟩) n c) ∨ (n = 0 ∧ ∃ A c, a.eval x = .slice A 0 c))
    (hsrc : ∀ g a w, Sim P T N w0 g s a w → ∃ (A : Option Addr) (c : Nat) (news : List Value), a.eval y = .slice A rows'.length c ∧ Cells (fun _ => False) w A news ∧ news.length = rows'.length * sz ∧ (∀ u ∈ news, u.oneCell' = true) ∧
      (∀ (i j : Nat) (row : List Cell) (x : Cell), rows'[i]? = some row → row[j]? = some x → j < sz ∧ ∃ u, news[i * sz + j]? = some u ∧ RepCell g.Rd w u x) ∧ rows'.length ≤ maxLen ∧ ∀ row ∈ rows', row.length = sz) :
    OpR P T N w0 s o (fun s' => s' = (s.hput r (.arr e sz (splr rows off (rows'.take n)))).put d (.one (.d (.int .i64 ((min rows'.length n : Nat) : Int))))) := by
  intro g a w hs K Q hK
  obtain ⟨hu, inf, hi, hsz⟩ := sliceT_spec (tab_sl hτ ht)
  obtain ⟨A, c, news, ey, hC, hnl, hn1, hnr, hml, hrl⟩ := hsrc g a w hs
  have hmin : (rows'.take n).length = min rows'.length n := by simp [Nat.min_comm]
  have hrep : ∀ (w : World), RepSV P g w (goInt (Nat.min rows'.length n)) (.one (.d (.int .i64 ((min rows'.length n : Nat) : Int)))) := fun w => .one (.d (.int .i64 _ (by
    have h3 : min rows'.length n ≤ maxLen := by omega
    have h4 : ((min rows'.length n : Nat) : Int) ≤ 9223372036854775807 := by unfold maxLen at h3; omega
    show (Lit.int .i64 ((min rows'.length n : Nat) : Int)).wf = true
    generalize min rows'.length n = q at h4 ⊢
    simp [Lit.wf, IntKind.min, IntKind.max, IntKind.bits, IntKind.signed]; omega)))
  obtain ⟨cs, hcs⟩ : ∃ cs, news.take (min rows'.length n * sz) = cs := ⟨_, rfl⟩
  have hmle : min rows'.length n * sz ≤ rows'.length * sz := Nat.mul_le_mul_right _ (by omega)
  have hcl : cs.length = Nat.min rows'.length n * inf.size := by
    rw [← hcs, hsz, List.length_take, hnl]
    exact Nat.min_eq_left hmle
  have hcl2 : cs.length = min rows'.length n * sz := hcl.trans (by rw [hsz])
  have hcget : ∀ k, cs[k]? = if k < min rows'.length n * sz then news[k]? else none := fun k => by rw [← hcs, List.getElem?_take]
  have hCc : Cells (fun _ => False) w A cs := fun k u h => by
    rw [hcget] at h
    split at h
    · exact hC k u h
    · cases h
  have hc1 : ∀ u ∈ cs, u.oneCell' = true := fun u h => hn1 u (by rw [← hcs] at h; exact List.mem_of_mem_take h)
  have hsame : min rows'.length n = 0 → splr rows off (rows'.take n) = rows := fun h => by
    have : rows'.take n = [] := List.eq_nil_of_length_eq_zero (by rw [hmin]; exact h)
    rw [this]; simp [splr]
  have nothing : ∀ (B : Option Addr) (n' c' : Nat), a.eval x = .slice B n' c' → n' = n → min rows'.length n = 0 → Oper.wp P o a w K Q := fun B n' c' hB hn' hz => by
    have hce : cs = [] := List.eq_nil_of_length_eq_zero (by rw [hcl2, hz]; simp)
    have hrun0 := run_copy_g (P := P) w w t t2 o.type e inf hu hi B A n' c' rows'.length c cs (by rw [hcl, hn']) hCc (by cases B with
      | none => exact ⟨hce, rfl⟩
      | some b => rw [hce]; rfl)
    have hrun : (execOp a.eval o).run P w = .ok (.value (goInt (Nat.min rows'.length n'))) w := by
      simp [execOp, ho, resolve, invoke, builtin, hB, ey, hrun0, Result.andThen]
    unfold Oper.wp
    rw [hrun]
    refine hK g _ _ _ rfl ?_
    rw [hd, hn']
    rw [hsame hz]
    exact Sim.put (hs.same (r := r) hH) hN (hrep w)
  rcases hdst g a w hs with ⟨b, c', hb, ex⟩ | ⟨hn0, B, c', ex⟩
  · by_cases hz : min rows'.length n = 0
    · exact nothing _ _ _ ex rfl hz
    · have hh := hs.hH r; rw [hH] at hh
      obtain ⟨g0, hh⟩ := hh
      rcases hh with ⟨g1, _⟩ | ⟨b2, vals, hb2, hbl, g2, g3, g4, g5⟩
      · rw [hb] at g1; cases g1
      obtain rfl : b = b2 := by rw [hb] at hb2; injection hb2
      have hfit : off * sz + cs.length ≤ vals.size := by
        rw [hcl2, g2, ← Nat.add_mul]
        exact Nat.mul_le_mul_right _ (by omega)
      have hst := run_storeCells_at P b (off * sz) e cs 0 vals w hbl (by simpa using hfit) hc1
      obtain ⟨V, hV⟩ : ∃ V, (vals.toList.take (off * sz) ++ cs ++ vals.toList.drop (off * sz + cs.length)).toArray = V := ⟨_, rfl⟩
      have hVs : V.size = vals.size := by rw [← hV]; simp; omega
      have hVg : ∀ k : Nat, V[k]? = if off * sz ≤ k ∧ k < off * sz + cs.length then cs[k - off * sz]? else vals[k]? := fun k => by
        rw [← hV, List.getElem?_toArray, seg_get _ _ _ (by simpa using hfit)]
        simp
      simp only [Nat.add_zero] at hst
      rw [hV] at hst
      have hrun0 := run_copy_g (P := P) w (w.setRow b V) t t2 o.type e inf hu hi (some ⟨b, off * sz, none⟩) A n c' rows'.length c cs hcl hCc hst
      have hrun : (execOp a.eval o).run P w = .ok (.value (goInt (Nat.min rows'.length n))) (w.setRow b V) := by
        simp [execOp, ho, resolve, invoke, builtin, ex, ey, hrun0, Result.andThen]
      have h2 := hs.change (r := r) (b := b) (vals := V) (vh := .arr e sz (splr rows off (rows'.take n))) (by unfold live; rw [hH]; rfl) hb hbl rfl (fun hf => by
        refine ⟨fun row hr => ?_, .inr ⟨b, _, hb, setRow_heap w b vals _ _ _ hbl, hVs.trans g2, by rw [splr_len (by omega)]; exact g3, g4, fun i j row x hi' hj => ?_⟩⟩
        · unfold splr at hr
          rcases List.mem_append.1 hr with hr | hr
          · rcases List.mem_append.1 hr with hr | hr
            · exact g0 _ (List.mem_of_mem_take hr)
            · exact hrl _ (List.mem_of_mem_take hr)
          · exact g0 _ (List.mem_of_mem_drop hr)
        · rw [splr_get (by omega)] at hi'
          rw [hVg]
          have m1 : ∀ {p q : Nat}, p < q → p * sz + sz ≤ q * sz := fun {p q} h => by
            have : (p + 1) * sz ≤ q * sz := Nat.mul_le_mul_right _ h
            rw [Nat.add_mul] at this; omega
          have eo : (off + min rows'.length n) * sz = off * sz + min rows'.length n * sz := Nat.add_mul _ _ _
          by_cases hin : off ≤ i ∧ i < off + (rows'.take n).length
          · rw [if_pos hin] at hi'
            rw [hmin] at hin
            have hi2 : rows'[i - off]? = some row := by
              rw [List.getElem?_take] at hi'
              split at hi'
              · exact hi'
              · cases hi'
            obtain ⟨hjs, u, hu', hr'⟩ := hnr _ j row x hi2 hj
            have e1 : off * sz + (i - off) * sz = i * sz := by rw [← Nat.add_mul]; congr 1; omega
            have l1 := m1 (p := i - off) (q := min rows'.length n) (by omega)
            rw [if_pos (by rw [hcl2]; omega)]
            refine ⟨u, ?_, hr'.mono hf.rd hf.cell⟩
            rw [hcget, if_pos (by omega)]
            rw [← hu']
            congr 1
            omega
          · rw [if_neg hin] at hi'
            rw [hmin] at hin
            obtain ⟨u, hu', hr'⟩ := g5 i j row x hi' hj
            have hjs : j < sz := by have := g0 _ (List.mem_of_getElem? hi'); have := (List.getElem?_eq_some_iff.1 hj).1; omega
            refine ⟨u, ?_, hr'.mono hf.rd hf.cell⟩
            rw [if_neg ?_]
            · exact hu'
            · rw [hcl2]
              by_cases hlo : i < off
              · have := m1 hlo; omega
              · have : (off + min rows'.length n) * sz ≤ i * sz := Nat.mul_le_mul_right _ (by omega)
                omega)
      unfold Oper.wp
      rw [hrun]
      refine hK g _ _ _ rfl ?_
      rw [hd]
      exact h2.put hN (hrep _)
  · exact nothing _ _ _ ex hn0.symm (by omega)
end
inductive Dst (sz : Nat) : SV → Nat → Nat → Nat → Prop where
  | sl (r n : Nat) : Dst sz (.one (.sl r n sz)) r 0 n
  | slp (r off n : Nat) : Dst sz (.one (.slp r off n sz)) r off n
inductive Srp (s : St) (sz : Nat) : SV → List (List Cell) → Prop where
  | d (rows : List (List Cell)) (h : ∀ row ∈ rows, row.length = sz) : Srp s sz (.one (.d (.list rows))) rows
  | sl {r n : Nat} {e : TypeId} {rows : List (List Cell)} (h : getH s.H r = .arr e sz rows) (hn : n = rows.length) : Srp s sz (.one (.sl r n sz)) rows
  | slp {r off n : Nat} {e : TypeId} {rows : List (List Cell)} (h : getH s.H r = .arr e sz rows) (hle : off + n ≤ rows.length) : Srp s sz (.one (.slp r off n sz)) ((rows.drop off).take n)
  | nil : Srp s sz (.one .nil) []
section
variable {P : Program} {T : TypeId} {N : Nat} {w0 : Org} {g : Gh} {a : Act} {w : World} {s : St} {o : Oper} {τ : List TyI}
theorem Srp.vals {sz : Nat} {sv : SV} {rows : List (List Cell)} (h : Srp s sz sv rows) (hz : 0 < sz) (hs : Sim P T N w0 g s a w) {v : Value} (hv : RepSV P g w v sv) :
    ∃ (A : Option Addr) (c : Nat) (news : List Value), v = .slice A rows.length c ∧ Cells (fun _ => False) w A news ∧ news.length = rows.length * sz ∧ (∀ u ∈ news, u.oneCell' = true) ∧
      (∀ (i j : Nat) (row : List Cell) (x : Cell), rows[i]? = some row → row[j]? = some x → j < sz ∧ ∃ u, news[i * sz + j]? = some u ∧ RepCell g.Rd w u x) ∧ rows.length ≤ maxLen ∧ ∀ row ∈ rows, row.length = sz := by
  cases h with
  | nil =>
    obtain ⟨A, c, news, h1, h2, h3, h4, h5⟩ := Src.vals (s := s) Src.nil hz hs hv
    exact ⟨A, c, news, h1, h2, h3, h4, h5, by simp, by simp⟩
  | d rows h =>
    obtain ⟨A, c, news, h1, h2, h3, h4, h5⟩ := Src.vals (s := s) (Src.d rows h) hz hs hv
    obtain ⟨A', cap, sz', vals, e, q0, q1, q2, _⟩ := hv.list_inv.list_inv
    exact ⟨A, c, news, h1, h2, h3, h4, h5, by omega, h⟩
  | @sl r n e rows h hn =>
    subst hn
    obtain ⟨A, c, news, h1, h2, h3, h4, h5⟩ := Src.vals (s := s) (Src.sl h) hz hs hv
    have hh := hs.hH r; rw [h] at hh
    refine ⟨A, c, news, h1, h2, h3, h4, h5, ?_, hh.1⟩
    rcases arr_vals hs h hv.one_inv with ⟨_, rfl, _⟩ | ⟨b, vals, _, _, _, _, q2, q3, _⟩
    · simp
    · omega
  | @slp r off n e rows h hle =>
    have hh := hs.hH r; rw [h] at hh
    obtain ⟨g0, hh⟩ := hh
    have hlen : ((rows.drop off).take n).length = n := by simp; omega
    have hrows : ∀ row ∈ (rows.drop off).take n, row.length = sz := fun row hr => g0 _ (List.mem_of_mem_drop (List.mem_of_mem_take hr))
    have empty : n = 0 → ∀ A c, v = .slice A n c → ∃ (A : Option Addr) (c : Nat) (news : List Value), v = .slice A ((rows.drop off).take n).length c ∧ Cells (fun _ => False) w A news ∧ news.length = ((rows.drop off).take n).length * sz ∧ (∀ u ∈ news, u.oneCell' = true) ∧
      (∀ (i j : Nat) (row : List Cell) (x : Cell), ((rows.drop off).take n)[i]? = some row → row[j]? = some x → j < sz ∧ ∃ u, news[i * sz + j]? = some u ∧ RepCell g.Rd w u x) ∧ ((rows.drop off).take n).length ≤ maxLen ∧ ∀ row ∈ (rows.drop off).take n, row.length = sz := fun hn A c hv => by
      subst hn
      exact ⟨A, c, [], by simpa using hv, Cells.nil _ _ _, by simp, by simp, by simp, by simp, by simp⟩
    have hv1 := hv.one_inv
    cases hv1 with
    | slpv => exact empty rfl _ _ rfl
    | @slp r b off n sz o c hb ho hle9 hc9 =>
      by_cases hn : n = 0
      · exact empty hn _ _ rfl
      have ho : o = off * sz := by omega
      subst ho
      rcases hh with ⟨g1, _⟩ | ⟨b2, vals, hb2, hbl, g2, g3, g4, g5⟩
      · rw [hb] at g1; cases g1
      obtain rfl : b = b2 := by rw [hb] at hb2; injection hb2
      have hsz : off * sz + n * sz ≤ vals.size := by
        rw [g2, ← Nat.add_mul]; exact Nat.mul_le_mul_right _ (by omega)
      have hnews : ∀ k, k < n * sz → ((vals.toList.drop (off * sz)).take (n * sz))[k]? = vals[off * sz + k]? := fun k hk => by
        rw [List.getElem?_take_of_lt hk, List.getElem?_drop]; simp
      have hnl : ((vals.toList.drop (off * sz)).take (n * sz)).length = n * sz := by simp; omega
      refine ⟨some ⟨b, off * sz, none⟩, c, (vals.toList.drop (off * sz)).take (n * sz), by rw [hlen], fun k u hu => ?_, by rw [hlen, hnl], fun u hu => ?_, fun i j row x hi hj => ?_, by omega, hrows⟩
      · have hk : k < n * sz := by have := (List.getElem?_eq_some_iff.1 hu).1; omega
        rw [hnews k hk] at hu
        refine ⟨⟨b, off * sz, none⟩, rfl, fun h => h, ?_⟩
        rw [Addr.add_lit, hbl.cell]
        exact hu
      · obtain ⟨k, hk⟩ := List.getElem?_of_mem hu
        have hkl : k < n * sz := by have := (List.getElem?_eq_some_iff.1 hk).1; omega
        rw [hnews k hkl] at hk
        have l1 : k / sz < n := (Nat.div_lt_iff_lt_mul hz).2 hkl
        have l2 : k % sz < sz := Nat.mod_lt _ hz
        have hl : off + k / sz < rows.length := by omega
        have e1 := g0 _ (List.getElem_mem hl)
        obtain ⟨u', hu', hr⟩ := g5 (off + k / sz) (k % sz) _ _ (List.getElem?_eq_getElem hl) (List.getElem?_eq_getElem (by omega))
        rw [show (off + k / sz) * sz + k % sz = off * sz + k by rw [Nat.add_mul, Nat.add_assoc]; congr 1; rw [Nat.mul_comm]; exact Nat.div_add_mod k sz] at hu'
        have : u = u' := by rw [hk] at hu'; injection hu'
        rw [this]
        exact hr.one
      · have hi2 : i < n ∧ rows[off + i]? = some row := by
          rw [List.getElem?_take] at hi
          split at hi
          · rw [List.getElem?_drop] at hi; exact ⟨by assumption, hi⟩
          · cases hi
        have e1 := g0 _ (List.mem_of_getElem? hi2.2)
        have hjl := (List.getElem?_eq_some_iff.1 hj).1
        have hk : i * sz + j < n * sz := by
          have : (i + 1) * sz ≤ n * sz := Nat.mul_le_mul_right _ hi2.1
          rw [Nat.add_mul] at this
          omega
        obtain ⟨u', hu', hr⟩ := g5 (off + i) j row x hi2.2 hj
        refine ⟨by omega, u', ?_, hr⟩
        rw [hnews _ hk, ← hu', Nat.add_mul]
        congr 1
        omega
theorem opr_copy (hτ : tabB P 0 τ = true) {d e sz by_ t t2 r off n : Nat} {x y : Operand} {rows rows' : List (List Cell)} (ho : o.op = .call { callee := .builtin .copy, args := #[x, y], argTypes := #[t, t2] }) (hd : o.dst = some d) (hN : d < N) (ht : tyAt τ t = .sl e sz by_)
    (h0 : 0 < sz) (hx : Dst sz (s.ev x) r off n) (hH : getH s.H r = .arr e sz rows) (hy : Srp s sz (s.ev y) rows') (hle : off + n ≤ rows.length) :
    OpR P T N w0 s o (fun s' => s' = (s.hput r (.arr e sz (splr rows off (rows'.take n)))).put d (.one (.d (.int .i64 ((min rows'.length n : Nat) : Int))))) := by
  refine copy_core hτ ho hd hN ht h0 hH hle (fun g a w hs => ?_) fun g a w hs => hy.vals h0 hs (hs.ev y)
  have hv := hs.ev x
  generalize hsv : s.ev x = sv at hx hv
  cases hx with
  | sl r n =>
    rcases hv.one_inv.sl_inv with ⟨e1, e2, e3⟩ | ⟨b, hb, h1, h2, e1⟩
    · exact .inr ⟨e2, none, 0, by rw [e1]⟩
    · exact .inl ⟨b, g.κ r, hb, by rw [e1]; simp⟩
  | slp r off n =>
    have hv1 := hv.one_inv
    generalize a.eval x = v at hv1
    cases hv1 with
    | slpv => exact .inr ⟨rfl, _, _, rfl⟩
    | @slp r b off n sz o c hb ho hle9 hc9 =>
      by_cases hn : n = 0
      · subst hn; exact .inr ⟨rfl, _, _, rfl⟩
      · have ho : o = off * sz := by omega
        subst ho
        exact .inl ⟨b, c, hb, rfl⟩
theorem ope_sl_l {t r n e sz : Nat} {x y : Operand} {k1 : IntKind} {m : Int} (ho : o.op = .slice t x (some y) none none) (hx : s.ev x = .one (.sl r n sz)) (hy : s.ev y = .one (.d (.int k1 m))) (ht : sliceT P t e sz = true) (h0 : 0 ≤ m) (h2 : m ≤ (n : Int)) : OpE P T N w0 s o (.one (.slp r m.toNat (n - m.toNat) sz)) :=
  ope_val fun g a w hs => by
    have q1 := hs.ev x; rw [hx] at q1
    have q2 := hs.ev y; rw [hy] at q2
    obtain ⟨hu, inf, hi, hsz⟩ := sliceT_spec ht
    have he : P.elem t = e := by simp [Program.elem, hu]
    have run : ∀ A c, a.eval x = .slice A n c → (execOp a.eval o).run P w = .ok (.value (Go.sliced A m.toNat n c sz)) w := fun A c hv => by
      have := run_slice_l (P := P) w t A n c (by rw [he]; exact hu) k1 m h0 h2
      simp [execOp, ho, hv, q2.int_inv.1, run_sliceAt_slice w t _ _ _ _ (by rw [he]; exact hu), this, he, sizeOf, typeInfo, hi, hsz, Result.andThen]
    rcases q1.one_inv.sl_inv with ⟨e1, e2, e3⟩ | ⟨b, hb, h1, h3, e1⟩
    · subst e2
      refine ⟨_, run none 0 e1, .one ?_⟩
      have : m.toNat = 0 := by omega
      rw [this]
      exact .slpv 0 sz
    · refine ⟨_, run _ _ e1, .one ?_⟩
      unfold Go.sliced
      by_cases hm : g.κ r = m.toNat
      · rw [if_pos hm]
        exact .slp _ _ _ _ _ hb (.inl (by omega)) (by omega) (.inl (by omega))
      · rw [if_neg hm]
        show RepCV P g w (.slice (some ((⟨b, 0, none⟩ : Addr).add (m.toNat * sz))) _ _) _
        rw [Addr.add_lit]
        exact .slp _ _ _ _ _ hb (.inr (by omega)) (by omega) (.inr ⟨by omega, by omega, h3⟩)
theorem ope_sl_h {t r n e sz : Nat} {x z : Operand} {k1 : IntKind} {m : Int} (ho : o.op = .slice t x none (some z) none) (hx : s.ev x = .one (.sl r n sz)) (hz : s.ev z = .one (.d (.int k1 m))) (ht : sliceT P t e sz = true) (h0 : 0 ≤ m) (h2 : m ≤ (n : Int)) : OpE P T N w0 s o (.one (.slp r 0 m.toNat sz)) :=
  ope_val fun g a w hs => by
    have q1 := hs.ev x; rw [hx] at q1
    have q2 := hs.ev z; rw [hz] at q2
    obtain ⟨hu, inf, hi, hsz⟩ := sliceT_spec ht
    have he : P.elem t = e := by simp [Program.elem, hu]
    have run : ∀ A c, a.eval x = .slice A n c → m ≤ (c : Int) → (execOp a.eval o).run P w = .ok (.value (Go.sliced A 0 m.toNat c sz)) w := fun A c hv hc => by
      have := run_slice_h (P := P) w t A n c (by rw [he]; exact hu) k1 m h0 hc
      simp [execOp, ho, hv, q2.int_inv.1, run_sliceAt_slice w t _ _ _ _ (by rw [he]; exact hu), this, he, sizeOf, typeInfo, hi, hsz, Result.andThen]
    rcases q1.one_inv.sl_inv with ⟨e1, e2, e3⟩ | ⟨b, hb, h1, h3, e1⟩
    · subst e2
      refine ⟨_, run none 0 e1 h2, .one ?_⟩
      have : m.toNat = 0 := by omega
      rw [this]
      exact .slpv 0 sz
    · refine ⟨_, run _ _ e1 (by omega), .one ?_⟩
      unfold Go.sliced
      by_cases hm : g.κ r = 0
      · rw [if_pos hm]
        exact .slp _ _ _ _ _ hb (.inl (by omega)) (by omega) (.inl (by omega))
      · rw [if_neg hm]
        show RepCV P g w (.slice (some ((⟨b, 0, none⟩ : Addr).add (0 * sz))) _ _) _
        rw [Addr.add_lit]
        exact .slp _ _ _ _ _ hb (.inr (by omega)) (by omega) (.inr ⟨by omega, by omega, h3⟩)
end
def splT {α : Type} (xs : List α) (off : Nat) (q : List α) : List α := xs.take off ++ q ++ xs.drop (off + q.length)
theorem splT_map {α : Type} (f : α → List Cell) (xs : List α) (off : Nat) (q : List α) : splr (xs.map f) off (q.map f) = (splT xs off q).map f := by simp [splr, splT, List.map_take, List.map_drop]
theorem splT_len {α : Type} {xs : List α} {off : Nat} {q : List α} (h : off + q.length ≤ xs.length) : (splT xs off q).length = xs.length := by unfold splT; simp; omega
theorem wr_u64 {z : Int} (h : 0 ≤ z ∧ z ≤ 18446744073709551615) : IntKind.u64.wrap z = z := by simp [IntKind.wrap, IntKind.bits, IntKind.signed]; omega
section
variable {k : Wk} {w0 : Org} {ops : Array Oper} {l : List Oper} {Q : St → Prop} {F : List (Nat × SV)} {H : List (Nat × VH)} {d t t' ty : Nat} {p : String} {af : Array Edge} {x y z : Operand} {s : St} {gd : Option (Nat × Bool)} {kk k1 : IntKind} {m n r : Int}
theorem f_conv (k2 : IntKind) (hk : convB k.P t t' k2 = true) (hx : s.ev x = .one (.d (.int kk m))) (hr : k2.wrap m = r) : OpE k.P k.T k.N w0 s ⟨some d, .convert t t' x, ty, p, af, gd⟩ (.one (.d (.int k2 r))) := ope_conv k2 rfl hk hx hr
theorem f_shr {tb : Nat} (hx : s.ev x = .one (.d (.int kk m))) (hy : s.ev y = .one (.d (.int k1 n))) (hn : 0 ≤ n) (hr : m.fdiv (2 ^ (min n.toNat kk.bits)) = r) : OpE k.P k.T k.N w0 s ⟨some d, .binOp .shr t x y tb, ty, p, af, gd⟩ (.one (.d (.int kk r))) := ope_shr rfl hx hy hn hr
theorem v_conv (k2 : IntKind) (hN : Nat.blt d k.N = true) (hk : convB k.P t t' k2 = true) (hx : (St.mk F H).ev x = .one (.d (.int kk m))) (hr : k2.wrap m = r) (h : rg k w0 ops l Q ⟨(d, .one (.d (.int k2 r))) :: F, H⟩) : rg k w0 ops (⟨some d, .convert t t' x, ty, p, af, none⟩ :: l) Q ⟨F, H⟩ :=
  rgI (irg_e rfl rfl (nlt hN) (f_conv k2 hk hx hr) (rgO h))
theorem v_shr {tb : Nat} (hN : Nat.blt d k.N = true) (hx : (St.mk F H).ev x = .one (.d (.int kk m))) (hy : (St.mk F H).ev y = .one (.d (.int k1 n))) (hn : 0 ≤ n) (hr : m.fdiv (2 ^ (min n.toNat kk.bits)) = r) (h : rg k w0 ops l Q ⟨(d, .one (.d (.int kk r))) :: F, H⟩) : rg k w0 ops (⟨some d, .binOp .shr t x y tb, ty, p, af, none⟩ :: l) Q ⟨F, H⟩ :=
  rgI (irg_e rfl rfl (nlt hN) (f_shr hx hy hn hr) (rgO h))
theorem v_make {α : Type} (f : α → List Cell) (a0 : α) {e sz by_ : Nat} {zs : List Z} {zr : List Cell} {k2 : IntKind} {c : Int} (hN : Nat.blt d k.N = true) (ht : tyAt k.τ t = .sl e sz by_) (hz : (tyAt k.τ e).zs = some zs) (hzl : zs.length = sz) (h0 : Nat.blt 0 sz = true) (hfl : unDL (zs.map Z.cv) = some zr) (hzr : zr = f a0) (hb0 : Nat.blt 0 by_ = true) (hb1 : Nat.ble by_ 100000 = true) (hfr : (St.mk F H).fresh d = true)
    (hx : (St.mk F H).ev x = .one (.d (.int k1 m))) (hy : (St.mk F H).ev y = .one (.d (.int k2 c))) (hc : 0 ≤ m ∧ m ≤ c ∧ c ≤ 1000000000)
    (h : rg k w0 ops l Q ⟨(d, .one (.sl d (List.replicate m.toNat a0).length sz)) :: F, (d, .arr e sz ((List.replicate m.toNat a0).map f)) :: H⟩) : rg k w0 ops (⟨some d, .makeSlice t x y, ty, p, af, none⟩ :: l) Q ⟨F, H⟩ :=
  rgI (irg_h rfl (opr_make k.ok rfl rfl (nlt hN) ht hz hzl (nlt h0) hfl hx hy hc.1 hc.2.1 (nlt hb0) (by
    have h1 : by_ ≤ 100000 := Nat.le_of_ble_eq_true hb1
    have h2 : c * (by_ : Int) ≤ 1000000000 * (by_ : Int) := Int.mul_le_mul_of_nonneg_right hc.2.2 (by omega)
    omega) hfr) (rgO (by rw [List.map_replicate, ← hzr, List.length_replicate] at h; exact h)))
theorem f_slsl {r n e sz by_ : Nat} (hx : s.ev x = .one (.sl r n sz)) (hy : s.ev y = .one (.d (.int k1 m))) (ht : tyAt k.τ t = .sl e sz by_) (hc : 0 ≤ m ∧ m ≤ (n : Int)) : OpE k.P k.T k.N w0 s ⟨some d, .slice t x (some y) none none, ty, p, af, gd⟩ (.one (.slp r m.toNat (n - m.toNat) sz)) :=
  ope_sl_l rfl hx hy (tab_sl k.ok ht) hc.1 hc.2
theorem f_slsh {r n e sz by_ : Nat} (hx : s.ev x = .one (.sl r n sz)) (hz : s.ev z = .one (.d (.int k1 m))) (ht : tyAt k.τ t = .sl e sz by_) (hc : 0 ≤ m ∧ m ≤ (n : Int)) : OpE k.P k.T k.N w0 s ⟨some d, .slice t x none (some z) none, ty, p, af, gd⟩ (.one (.slp r 0 m.toNat sz)) :=
  ope_sl_h rfl hx hz (tab_sl k.ok ht) hc.1 hc.2
inductive SrpT {α : Type} (H : List (Nat × VH)) (sz : Nat) (f : α → List Cell) : SV → List α → Prop where
  | d (ys : List α) : SrpT H sz f (.one (.d (.list (ys.map f)))) ys
  | sl {r n : Nat} {e : TypeId} {ys : List α} (h : getH H r = .arr e sz (ys.map f)) (hn : n = ys.length) : SrpT H sz f (.one (.sl r n sz)) ys
  | slp {r off n : Nat} {e : TypeId} {ys : List α} (h : getH H r = .arr e sz (ys.map f)) (hle : off + n ≤ ys.length) : SrpT H sz f (.one (.slp r off n sz)) ((ys.drop off).take n)
theorem SrpT.srp {α : Type} {sz : Nat} {f : α → List Cell} {sv : SV} {ys : List α} (h : SrpT H sz f sv ys) (hf : ∀ x, (f x).length = sz) : Srp ⟨F, H⟩ sz sv (ys.map f) := by
  cases h with
  | d ys => exact .d _ (map_rows hf)
  | sl h hn => exact .sl h (by simpa using hn)
  | slp h hle => rw [List.map_take, List.map_drop]; exact .slp h (by simpa using hle)
theorem v_copy {α : Type} (f : α → List Cell) {xs ys : List α} {e sz by_ r off n t2 : Nat} (hN : Nat.blt d k.N = true) (ht : tyAt k.τ t = .sl e sz by_) (h0 : Nat.blt 0 sz = true) (hx : Dst sz ((St.mk F H).ev x) r off n) (hH : getH H r = .arr e sz (xs.map f)) (hf : ∀ x, (f x).length = sz) (hy : SrpT H sz f ((St.mk F H).ev y) ys) (hc : off + n ≤ xs.length)
    (h : rg k w0 ops l Q ⟨(d, .one (.d (.int .i64 ((min ys.length n : Nat) : Int)))) :: F, (r, .arr e sz ((splT xs off (ys.take n)).map f)) :: H⟩) : rg k w0 ops (⟨some d, .call { callee := .builtin .copy, args := #[x, y], argTypes := #[t, t2] }, ty, p, af, none⟩ :: l) Q ⟨F, H⟩ :=
  rgI (irg_h rfl (opr_copy k.ok rfl rfl (nlt hN) ht (nlt h0) hx hH (hy.srp hf) (by simpa using hc)) (rgO (by
    rw [← splT_map, List.map_take] at h
    rw [List.length_map]; exact h)))
end
theorem v_pan {k : Wk} {w0 : Org} {ops : Array Oper} {Q : St → Prop} {s : St} {d d2 : Option Nat} {t t2 t3 : Nat} {x y : Operand} {p p2 : String} {af af2 : Array Edge} {g g2} (h : False) : rg k w0 ops [⟨d, .makeInterface t x, t2, p, af, g⟩, ⟨d2, .panic y, t3, p2, af2, g2⟩] Q s := h.elim
end Go.Proofs.Ytcbppkfnfbdkhaa
/- Texts: length and bytes; min and max. -/
set_option linter.all false
namespace Go.Proofs.Ytcbppkfnfbdkhaa
open Go.RowKit Go.Shelf
def strB (P : Program) (t : TypeId) : Bool := match P.underlying t with | some .string => true | _ => false
theorem strB_spec {P : Program} {t : TypeId} (h : strB P t = true) : P.underlying t = some .string := by
  unfold strB at h; split at h
  · assumption
  · cases h
theorem CVle.nildm {vs : List Nat} {α : Type} {f : α → List Cell} : CVle vs .nil (.d (.list (List.map f []))) := .nild
section
variable {P : Program} {T : TypeId} {N : Nat} {w0 : Org} {s : St} {o : Oper}
end
section
variable {k : Wk} {w0 : Org} {ops : Array Oper} {l : List Oper} {Q : St → Prop} {F : List (Nat × SV)} {H : List (Nat × VH)} {d t t' ty : Nat} {p : String} {af : Array Edge} {x y : Operand} {s : St} {gd : Option (Nat × Bool)} {kk k1 : IntKind} {m n : Int} {sb : ByteArray} {ts : Array TypeId}
theorem f_lenstr (hx : s.ev x = .one (.d (.str sb))) (ht : strB k.P t = true) : OpE k.P k.T k.N w0 s ⟨some d, .call { callee := .builtin .len, args := #[x], argTypes := #[t] }, ty, p, af, gd⟩ (.one (.d (.int .i64 (sb.size : Int)))) := ope_len_str rfl hx (strB_spec ht)
theorem v_lenstr (hN : Nat.blt d k.N = true) (hx : (St.mk F H).ev x = .one (.d (.str sb))) (ht : strB k.P t = true) (h : rg k w0 ops l Q ⟨(d, .one (.d (.int .i64 (sb.size : Int)))) :: F, H⟩) : rg k w0 ops (⟨some d, .call { callee := .builtin .len, args := #[x], argTypes := #[t] }, ty, p, af, none⟩ :: l) Q ⟨F, H⟩ :=
  rgI (irg_e rfl rfl (nlt hN) (f_lenstr hx ht) (rgO h))
end
end Go.Proofs.Ytcbppkfnfbdkhaa
/- Ways that meet; bytes and their texts. -/
set_option linter.all false
set_option maxRecDepth 20000
namespace Go.Proofs.Ytcbppkfnfbdkhaa
open Go.RowKit Go.Shelf
section
variable {P : Program} {T : TypeId} {N : Nat} {w0 : Org} {g : Gh} {a : Act} {w : World} {s : St} {o : Oper} {τ : List TyI}
theorem FrF.refl (H : List (Nat × VH)) (rs : List Nat) (F : List (Nat × SV)) : FrF H rs F F := by
  induction F with
  | nil => exact .nil
  | cons x F ih => exact .cons (.same _) ih
def dropB (d : Nat) (H : List (Nat × VH)) : List (Nat × VH) := H.map fun p => if p.1 = d then (p.1, .gone) else p
theorem dropB_fr (H0 : List (Nat × VH)) (d : Nat) (H : List (Nat × VH)) : FrH H0 [d] H (dropB d H) := by
  induction H with
  | nil => exact .nil
  | cons p H ih =>
    obtain ⟨x, v⟩ := p
    unfold dropB
    rw [List.map_cons]
    by_cases e : x = d
    · subst e; simp only [if_true]; exact .cons (.gone v (by simp)) ih
    · rw [if_neg e]; exact .cons (.same v (by simp; exact e)) ih
theorem dropB_get (d : Nat) (H : List (Nat × VH)) {r : Nat} (h : r ≠ d) : getH (dropB d H) r = getH H r := by
  induction H with
  | nil => rfl
  | cons p H ih =>
    obtain ⟨x, v⟩ := p
    unfold dropB at ih ⊢
    rw [List.map_cons]
    by_cases e : x = d
    · subst e
      rw [if_pos rfl]
      simp only [getH, beq_eq]
      rw [decide_eq_false (Ne.symm h)]
      exact ih
    · rw [if_neg e]
      simp only [getH, beq_eq]
      by_cases e2 : x = r
      · subst e2; simp
      · simp [e2, ih]
theorem opr_gone {d n sz e : Nat} {rows : List (List Cell)} (h : OpR P T N w0 s o (fun s' => s' = (s.hput d (.arr e sz rows)).put d (.one (.sl d n sz)))) (hn : n = rows.length) : OpR P T N w0 s o (fun s' => s' = (s.hput d .gone).put d (.one (.d (.list rows)))) := by
  intro g a w hs K Q hK
  refine h g a w hs K Q fun g' s' a' w' e1 hs' => ?_
  subst e1
  have hH : getH ((d, VH.arr e sz rows) :: s.H) d = .arr e sz rows := by simp [getH]
  have h2 := hs'.fr (rs := [d]) (F' := (d, .one (.d (.list rows))) :: s.F) (dropB_fr _ d _) (.cons (.one (.fz (by simp) hH hn)) (FrF.refl _ _ _))
  refine hK _ _ a' w' rfl (h2.less (fun x => .inl rfl) fun r => ?_)
  by_cases e2 : r = d
  · subst e2
    right
    show getH ((r, VH.gone) :: s.H) r = _
    simp [getH]
  · left
    show getH ((d, VH.gone) :: s.H) r = getH (dropB d ((d, VH.arr e sz rows) :: s.H)) r
    rw [dropB_get d _ e2]
    simp only [getH, beq_eq]
    rw [decide_eq_false (Ne.symm e2)]
    rfl
end
section
variable {k : Wk} {w0 : Org} {ops : Array Oper} {l : List Oper} {Q : St → Prop} {F F' : List (Nat × SV)} {H H' : List (Nat × VH)} {d t t' ty : Nat} {p : String} {af : Array Edge} {x y : Operand} {s : St} {gd : Option (Nat × Bool)} {xs : List Int}
end
section
variable {k : Wk} {w0 : Org} {ops : Array Oper} {W : Option (List Nat)} {S listed : Array Bool} {m i nq d : Nat} {l : List Nat} {Q : St → Prop} {s : St} {ty : Nat} {pp : String} {af : Array Edge}
theorem v_sbsf {α : Type} (f : α → List Cell) {xs : List α} {t len e sz by_ : Nat} {zs : List Z} {parts : Array (Nat × Operand)} {cp : List (Nat × List CV)} {r : List CV} {fl : List Cell} (hi : ops[i]? = some ⟨some d, .buildSlice t len parts, ty, pp, af, none⟩) (hN : Nat.blt d k.N = true)
    (ht : tyAt k.τ t = .sl e sz by_) (hz : (tyAt k.τ e).zs = some zs) (hp : partsOf s parts.toList = some cp) (hcf : cfill ((List.range len).map fun i => (i * sz, sz)) (List.replicate (len * sz) .u) cp = some r) (hfl : unDL r = some fl)
    (h0 : Nat.blt 0 (len * sz) = true) (hm : Nat.ble (len * sz) 16777216 = true) (hfr : s.fresh d = true) (hzl : zs.length = sz) (hrow : chunks sz len fl = xs.map f) (hn : len = xs.length)
    (hl : l.length = nq) (h : qn k w0 ops W S m Q l (listed.setIfInBounds i true) ((s.hput d .gone).put d (.one (.d (.list (xs.map f)))))) : qst k w0 ops W S m Q nq i listed s := by
  obtain ⟨f1, f2, f3⟩ := St.fresh_spec hfr
  unfold qn at h
  unfold qst
  subst hl
  refine ⟨_, hi, .inl ⟨d, rfl, nlt hN, .inr (.inr (.inl ⟨.gone, .one (.d (.list (xs.map f))), rfl, fun s' h1 h2 h3 => ?_, ⟨f1, f2, f3⟩, ?_⟩))⟩⟩
  · have ep : partsOf s' parts.toList = partsOf s parts.toList := partsOf_cg _ fun p hp => ev_cg fun q hq => h1 q (by
      simp only [Op.operands]
      rw [List.mem_map]
      exact ⟨p, hp, hq⟩)
    have := opr_gone (opr_buildSliceG (P := k.P) (T := k.T) (N := k.N) (w0 := w0) (s := s') (o := ⟨some d, .buildSlice t len parts, ty, pp, af, none⟩) k.ok rfl rfl (nlt hN) ht hz (by rw [ep]; exact hp) hcf hfl (nlt h0) (Nat.le_of_ble_eq_true hm) h3.ff h3.hh hzl) (by rw [hrow, List.length_map]; exact hn)
    rw [hrow] at this
    exact this
  · rw [put_f] at h
    have e2 : getH ((s.hput d VH.gone).put d (.one (.d (.list (xs.map f))))).H = puth (getH s.H) d .gone := by
      funext q
      show getH ((d, _) :: s.H) q = _
      rw [hget_put]; rfl
    rw [e2] at h
    exact h
theorem v_dbsf {α : Type} (f : α → List Cell) {xs : List α} {t len e sz by_ : Nat} {zs : List Z} {parts : Array (Nat × Operand)} {cp : List (Nat × List CV)} {r : List CV} {fl : List Cell} (hi : ops[i]? = some ⟨some d, .buildSlice t len parts, ty, pp, af, none⟩) (hN : Nat.blt d k.N = true) (hr : Region.ready .any ops listed = [i])
    (ht : tyAt k.τ t = .sl e sz by_) (hz : (tyAt k.τ e).zs = some zs) (hp : partsOf s parts.toList = some cp) (hcf : cfill ((List.range len).map fun i => (i * sz, sz)) (List.replicate (len * sz) .u) cp = some r) (hfl : unDL r = some fl)
    (h0 : Nat.blt 0 (len * sz) = true) (hm : Nat.ble (len * sz) 16777216 = true) (hfr : s.fresh d = true) (hzl : zs.length = sz) (hrow : chunks sz len fl = xs.map f) (hn : len = xs.length)
    (h : qn k w0 ops W S m Q l (listed.setIfInBounds i true) ((s.hput d .gone).put d (.one (.d (.list (xs.map f)))))) : qn k w0 ops W S m Q (i :: l) listed s :=
  d_one hr (v_sbsf f hi hN ht hz hp hcf hfl h0 hm hfr hzl hrow hn rfl h)
end
end Go.Proofs.Ytcbppkfnfbdkhaa
/- Calls that change what they were handed. -/
set_option linter.all false
set_option maxRecDepth 20000
namespace Go.Proofs.Ytcbppkfnfbdkhaa
open Go.RowKit Go.Shelf
def CV.nl : CV → Bool
  | .d _ => true
  | .nil => true
  | .u => true
  | _ => false
def CV.nlL : List CV → Bool
  | [] => true
  | c :: l => c.nl && CV.nlL l
def VH.nl : VH → Bool
  | .arr _ _ _ => true
  | .blk _ cs => CV.nlL cs
  | _ => false
theorem CV.nlL_get {cs : List CV} (h : CV.nlL cs = true) {j : Nat} {c : CV} (hj : cs[j]? = some c) : c.nl = true := by
  induction cs generalizing j with
  | nil => simp at hj
  | cons x cs ih =>
    simp [CV.nlL] at h
    cases j with
    | zero => simp at hj; subst hj; exact h.1
    | succ j => exact ih h.2 (by simpa using hj)
theorem CV.nl_nt {c : CV} (h : c.nl = true) : c.nt = true := by cases c <;> first | rfl | cases h
theorem CV.nl_has {c : CV} (h : c.nl = true) (r : Nat) : c.has r = false := by cases c <;> first | rfl | cases h
theorem VH.nl_live {h : VH} (hn : h.nl = true) : h.live = true := by cases h <;> first | rfl | cases hn
inductive Mv (r : Nat) : CV → CV → Prop where
  | sl (n sz : Nat) : Mv r (.sl r n sz) (.sl 0 n sz)
  | ref (off : Nat) : Mv r (.ref r off) (.ref 0 off)
def ICmm (P : Program) (T : TypeId) (f : FuncId) (c : CV) (args : List SV) (vh : VH) (post : SV → VH → Prop) : Prop :=
  Enters P f ∧ ∀ (w0 : Org) (g : Gh) (w : World) (u : Value) (vals : Array Value), w0.w = w → GI T w0 g [(0, vh)] w → RepCV P g w u c → HeapOK P g w 0 vh → vals.size = args.length → (∀ (j : Nat) (v : Value) (sv : SV), vals[j]? = some v → args[j]? = some sv → RepSV P g w v sv) →
    Calls P f (#[u] ++ vals) w fun e w' => ∃ v sv vh' g', post sv vh' ∧ vh'.nl = true ∧ e = .returned v ∧ RepSV P g' w' v sv ∧ sv.pl = true ∧ GI T w0 g' [(0, vh')] w' ∧ RepCV P g' w' u c ∧ HeapOK P g' w' 0 vh'
section
variable {P : Program} {T : TypeId} {N : Nat} {w0 : Org} {g g' g1 : Gh} {s s' : St} {a : Act} {w w' : World} {τ : List TyI}
theorem GI.sub {H H' : List (Nat × VH)} (h : GI T w0 g H w) (hl : ∀ r, live H' r → live H r) : GI T w0 g H' w :=
  ⟨fun r r' b h1 h2 => h.inj r r' b (hl r h1) (hl r' h2), fun r b h1 => h.bd r b (hl r h1), fun b o h1 => ⟨(h.rd b o h1).1, (h.rd b o h1).2.1, fun r h2 => (h.rd b o h1).2.2 r (hl r h2)⟩, h.keep, h.tape, h.org, h.exs (fun _ _ h => h) fun c hc => ⟨rfl, hc.2.2.1, hc.2.2.2.1, fun r h2 => hc.2.2.2.2 r (hl r h2)⟩⟩
theorem HeapOK.other {r q : Nat} {vh : VH} (h : HeapOK P g w r vh) (hn : vh.nl = true) (hf : Fut g.Rd g1.Rd w w') (hβ : g1.β q = g.β r) (hκ : ∀ b, g.β r = some b → g1.κ q = g.κ r) (hbl : ∀ b, g.β r = some b → w'.heap[b]? = w.heap[b]?) : HeapOK P g1 w' q vh := by
  cases vh with
  | gone => cases hn
  | pin v c => cases hn
  | tbl _ _ _ _ => cases hn
  | blk t cs =>
    obtain ⟨b, vals, h1, h2, h3, h4⟩ := h
    refine ⟨b, vals, hβ.trans h1, (hbl b h1).trans h2, h3, fun j v c hv hc => ?_⟩
    have hc2 := CV.nlL_get hn hc
    exact (h4 j v c hv hc).moveN hf (CV.nl_nt hc2) fun q hq => by rw [CV.nl_has hc2] at hq; cases hq
  | arr e sz rows =>
    obtain ⟨h0, h⟩ := h
    refine ⟨h0, ?_⟩
    rcases h with ⟨h1, h2⟩ | ⟨b, vals, h1, h2, h3, h4, h5, h6⟩
    · exact .inl ⟨hβ.trans h1, h2⟩
    · have e2 := hκ b h1
      refine .inr ⟨b, vals, hβ.trans h1, (hbl b h1).trans h2, by rw [e2]; exact h3, by rw [e2]; exact h4, by rw [e2]; exact h5, fun i j row x hi hj => ?_⟩
      obtain ⟨u, hu, hr⟩ := h6 i j row x hi hj
      exact ⟨u, hu, hr.mono hf.rd hf.cell⟩
end
section
variable {P : Program} {T : TypeId} {N : Nat} {w0 : Org} {g g' : Gh} {s : St} {a : Act} {w w' : World} {o : Oper} {τ : List TyI}
def Gh.lend (g : Gh) (r : Nat) : Gh := ⟨fun x => if x = 0 then g.β r else none, fun x => if x = 0 then g.κ r else g.κ x, g.Rd, g.tp, g.tl, fun _ => none⟩
def Org.lend (g : Gh) (w : World) (r : Nat) : Org := ⟨w, g.Rd, g.tp, g.tl, fun k => g.β r = some k⟩
theorem Mv.rep {r : Nat} {cr c : CV} (h : Mv r cr c) {u : Value} (hu : RepCV P g w u cr) : RepCV P (g.lend r) w u c := by
  cases h with
  | sl n sz =>
    rcases hu.sl_inv with ⟨rfl, rfl, hb⟩ | ⟨b, hb, h1, h2, rfl⟩
    · exact .slv _ (by simpa [Gh.lend] using hb)
    · have := RepCV.sl (P := P) (g := g.lend r) (w := w) (r := 0) (b := b) n sz (by simpa [Gh.lend] using hb) (by simpa [Gh.lend] using h1) (by simpa [Gh.lend] using h2)
      simpa [Gh.lend] using this
  | ref off => obtain ⟨b, hb, rfl⟩ := hu.ref_inv; exact .ref _ (by simpa [Gh.lend] using hb)
theorem Mv.same {r : Nat} {cr c : CV} (h : Mv r cr c) {u : Value} (hu : RepCV P g w u cr) (hu' : RepCV P g' w' u c) : g'.β 0 = g.β r ∧ ∀ b, g.β r = some b → (∃ n sz, cr = .sl r n sz) → g'.κ 0 = g.κ r := by
  cases h with
  | sl n sz =>
    rcases hu.sl_inv with ⟨rfl, rfl, hb⟩ | ⟨b, hb, h1, h2, rfl⟩
    · rcases hu'.sl_inv with ⟨_, _, hb'⟩ | ⟨b', hb', _, _, e⟩
      · exact ⟨by rw [hb, hb'], fun b h => by rw [hb] at h; cases h⟩
      · cases e
    · rcases hu'.sl_inv with ⟨e, _, _⟩ | ⟨b', hb', _, _, e⟩
      · cases e
      · simp at e
        obtain ⟨e1, e2⟩ := e
        subst e1
        exact ⟨by rw [hb, hb'], fun _ _ _ => e2.symm⟩
  | ref off =>
    obtain ⟨b, hb, rfl⟩ := hu.ref_inv
    obtain ⟨b', hb', e⟩ := hu'.ref_inv
    simp at e
    subst e
    exact ⟨by rw [hb, hb'], fun _ _ ⟨_, _, h⟩ => by cases h⟩
theorem lend_gi (hs : Sim P T N w0 g s a w) {r : Nat} {vh : VH} (hr : getH s.H r = vh) (hl : vh.live = true) : GI T (Org.lend g w r) (g.lend r) [(0, vh)] w := by
  have hlr : live s.H r := by unfold live; rw [hr]; exact hl
  have only : ∀ q, live [(0, vh)] q → q = 0 := fun q hq => by
    unfold live at hq
    simp only [getH, beq_eq] at hq
    by_cases e : 0 = q
    · exact e.symm
    · simp only [e, decide_false, cond_false] at hq; cases hq
  refine ⟨fun q q' b h1 h2 _ _ => by rw [only q h1, only q' h2], fun q b h1 h2 => ?_, fun b o h => ?_, Keep.refl _ _, fun tb h => ?_, ⟨fun _ _ h => h, fun _ _ h => .inl h, fun tb h => ⟨h, rfl⟩, fun tb h => .inl h⟩, fun c o h => (by cases h)⟩
  · have := only q h1; subst this
    have hb : g.β r = some b := by simpa [Gh.lend] using h2
    exact ⟨.inr hb, (hs.gi.bd r b hlr hb).2⟩
  · refine ⟨(hs.gi.rd b o h).1, (hs.gi.rd b o h).2.1, fun q hq e => ?_⟩
    have := only q hq; subst this
    exact (hs.gi.rd b o h).2.2 r hlr (by simpa [Gh.lend] using e)
  · exact hs.gi.tape tb h
theorem psG_lend {v : Value} {sv : SV} {r : Nat} {H : List (Nat × VH)} (h : RepSV P (psG g H w true) w v sv) (h0 : sv.has 0 = false) : RepSV P (g.lend r) w v sv :=
  (h.move (g' := ⟨fun _ => none, (g.lend r).κ, g.Rd, g.tp, g.tl, fun _ => none⟩) (Fut.refl _ _) (fun _ h => h) fun q hq => ⟨rfl, by
    simp only [Gh.lend, psG]
    rw [if_neg (fun e => by subst e; rw [h0] at hq; cases hq)]⟩).move (Fut.refl _ _) (fun _ h => h) fun q hq => ⟨by
    simp only [Gh.lend]
    rw [if_neg (fun e => by subst e; rw [h0] at hq; cases hq)], rfl⟩
theorem opr_callm {f : FuncId} {x : Operand} {xr : List Operand} {xs : Array Operand} {ts : Array TypeId} {args : List SV} {v : SV} {vh vh' : VH} {cr c : CV} {r d : Nat} (ho : o.op = .call { callee := .value (.func f), args := xs, argTypes := ts }) (hxs : xs.toList = x :: xr) (hd : o.dst = some d) (hN : d < N) (hic : ICmm P T f c args vh (fun x y => x = v ∧ y = vh'))
    (hx : s.ev x = .one cr) (hm : Mv r cr c) (hr : getH s.H r = vh) (hnl : vh.nl = true) (ha : PsSL P T s true xr args) (h0 : SV.hasL 0 args = false) (hk : (∃ n sz, cr = .sl r n sz) ∨ ∃ t cs, vh' = .blk t cs) :
    OpR P T N w0 s o (fun s' => s' = (s.hput r vh').put d v) := by
  intro g a w hs K Q hK
  obtain ⟨k1, k2⟩ := ha.rep hs
  have hev := hs.ev x; rw [hx] at hev
  have hlv := VH.nl_live hnl
  have hlr : live s.H r := by unfold live; rw [hr]; exact hlv
  have hh := hs.hH r; rw [hr] at hh
  have hxa : xs.map a.eval = #[a.eval x] ++ (xr.map a.eval).toArray := by
    apply Array.toList_inj.1; simp [hxs]
  have hrun : (execOp a.eval o).run P w = .ok (.enter f (xs.map a.eval)) w := by
    simp only [execOp, ho, Sem.run_bind, resolve, Act.eval, Deferred.ofValue, Sem.run_pure, Result.andThen_ok, invoke]
    have := hic.1 (#[] ++ xs.map a.eval ++ #[]) w
    simpa using this
  rw [hxa] at hrun
  unfold Oper.wp
  rw [hrun, Oper.upon_enter]
  have hvh0 : HeapOK P (g.lend r) w 0 vh := hh.other hnl (Fut.refl _ _) (by simp [Gh.lend]) (fun b hb => by simp [Gh.lend]) fun _ _ => rfl
  refine (hic.2 (Org.lend g w r) (g.lend r) w (a.eval x) (xr.map a.eval).toArray rfl (lend_gi hs hr hlv) (hm.rep hev.one_inv) hvh0 (by simpa using k1) fun j v sv hv hsv => ?_).mono fun e w' ⟨v1, sv, vh1, g', ⟨h1, h2⟩, h3, h4, h5, h6, h7, h8, h9⟩ => ?_
  · refine psG_lend (k2 j v sv (by simpa using hv) hsv) ?_
    cases hb : sv.has 0 with
    | false => rfl
    | true => rw [SV.hasL_get hsv hb] at h0; cases h0
  subst h1; subst h2; subst h4
  have hlv1 := VH.nl_live h3
  obtain ⟨e1, e2⟩ := hm.same hev.one_inv h8
  have hkeep : Keep (MutO (Org.lend g w r)) w w' := h7.keep
  have hsz : w.heap.size ≤ w'.heap.size := hkeep.size
  have hsz0 := hs.gi.sz
  have nomut : ∀ b, b < w.heap.size → g.tp ≠ some b → g.β r ≠ some b → ¬ MutO (Org.lend g w r) b := fun b q1 q2 q3 hm => by
    rcases hm with hm | hm | hm
    · exact q2 hm
    · have : w.heap.size ≤ b := hm; omega
    · exact q3 hm
  have hf : Fut g.Rd g'.Rd w w' := ⟨fun b o h => h7.org.rd0 b o h, fun b o h => hkeep.cell (p := ⟨b, o, none⟩) (nomut b (hs.gi.rd b o h).1 (hs.gi.rd b o h).2.1 ((hs.gi.rd b o h).2.2 r hlr))⟩
  have hget : ∀ q, getH (s.hput r vh1).H q = if q = r then vh1 else getH s.H q := fun q => by
    show getH ((r, vh1) :: s.H) q = _
    simp only [getH, beq_eq]
    by_cases e : r = q
    · simp [e]
    · simp [e, show ¬ q = r from fun h => e h.symm]
  have lv : ∀ q, live (s.hput r vh1).H q → live s.H q := fun q hq => by
    unfold live at hq ⊢
    rw [hget] at hq
    by_cases e : q = r
    · subst e; rw [hr]; exact hlv
    · rwa [if_neg e] at hq
  have hl0 : live [(0, vh1)] 0 := by unfold live; exact hlv1
  have hrd : ∀ b o, g'.Rd b o → g.Rd b o ∨ w.heap.size ≤ b := fun b o h => by
    rcases h7.org.new0 b o h with h' | h' | h'
    · exact .inl h'
    · exact .inr h'
    · exact absurd (e1.trans h') ((h7.rd b o h).2.2 0 hl0)
  let g2 : Gh := ⟨g.β, g.κ, g'.Rd, g.tp, g.tl, g.ex⟩
  have hs2 : Sim P T N w0 g2 (s.hput r vh1) a w' := by
    refine ⟨⟨fun q q' b q1 q2 => hs.gi.inj q q' b (lv q q1) (lv q' q2), fun q b q1 q2 => ?_, fun b o h => ?_, ?_, fun tb htb => ?_, ⟨fun b o h => h7.org.rd0 b o (hs.gi.org.rd0 b o h), fun b o h => ?_, hs.gi.org.tp0, hs.gi.org.tpo⟩, hs.gi.exs (fun _ _ h => h) fun c hc => ?_⟩, hs.dn, hs.nt, fun y => (hs.hF y).move hf (fun _ h => h) fun _ _ => ⟨rfl, rfl⟩, fun q => ?_⟩
    · obtain ⟨a1, a2, a3⟩ := hs.gi.bd q b (lv q q1) q2
      exact ⟨a1, by omega, a3⟩
    · refine ⟨(h7.rd b o h).1, fun e => (h7.rd b o h).2.1 (h7.org.tp0 b e).1, fun q hq e => ?_⟩
      by_cases eq : q = r
      · subst eq; exact (h7.rd b o h).2.2 0 hl0 (e1.trans e)
      · rcases hrd b o h with h' | h'
        · exact (hs.gi.rd b o h').2.2 q (lv q hq) e
        · have := (hs.gi.bd q b (lv q hq) e).2.1; omega
    · refine hs.gi.keep.trans (hkeep.mono fun k hk => ?_)
      rcases hk with hk | hk | hk
      · exact hs.gi.org.tpo k hk
      · exact .inr (.inl (Nat.le_trans hsz0 hk))
      · exact .inr (hs.gi.bd r k hlr hk).1
    · obtain ⟨q1, q2⟩ := h7.org.tp0 tb htb
      have := h7.tape tb q1
      rw [q2] at this
      exact this
    · rcases hrd b o h with h' | h'
      · exact hs.gi.org.new0 b o h'
      · exact .inr (.inl (Nat.le_trans hsz0 h'))
    · obtain ⟨_, c2, c3, c4, c5⟩ := hc
      refine ⟨hkeep.block c (nomut c c2 c3 fun e => c5 r hlr e), c3, fun o ho2 => ?_, fun q hq => c5 q (lv q hq)⟩
      rcases hrd c o ho2 with h | h
      · exact c4 o h
      · omega
    · show HeapOK P g2 w' q (getH (s.hput r vh1).H q)
      rw [hget]
      by_cases e : q = r
      · subst e
        rw [if_pos rfl]
        cases hm with
        | sl n sz => exact h9.other h3 (Fut.refl _ _) e1.symm (fun b hb => (e2 b (e1.symm.trans hb) ⟨n, sz, rfl⟩).symm) fun _ _ => rfl
        | ref off =>
          cases vh1 with
          | gone => cases h3
          | pin _ _ => cases h3
          | tbl _ _ _ _ => cases h3
          | blk t cs => obtain ⟨b, vals, q1, q2, q3, q4⟩ := h9
                        exact ⟨b, vals, e1.symm.trans q1, q2, q3, fun j v c hv hc => (q4 j v c hv hc).moveN (Fut.refl _ _) (CV.nl_nt (CV.nlL_get h3 hc)) fun q hq => by rw [CV.nl_has (CV.nlL_get h3 hc)] at hq; cases hq⟩
          | arr e sz rows => (rcases hk with ⟨_, _, h⟩ | ⟨_, _, h⟩ <;> cases h)
      · rw [if_neg e]
        exact (hs.hH q).move hf (fun _ h => h) (fun _ _ => ⟨rfl, rfl⟩) (fun b hl hb => hkeep.block b (nomut b (hs.gi.bd q b hl hb).2.1 (hs.gi.bd q b hl hb).2.2 fun e' => e (hs.gi.inj q r b hl hlr hb e'))) fun _ _ h => h
  refine hK g2 _ _ _ rfl ?_
  rw [hd]
  exact hs2.put hN (h5.plain h6 (Fut.refl _ _))
end
def ICm (pre : Prop) (f : Nat) (args : List SV) (e sz n : Nat) (rows : List (List Cell)) (v : SV) (rows' : List (List Cell)) : Prop :=
  pre → ICmm Try.prog 25 f (.sl 0 n sz) args (.arr e sz rows) (fun x y => x = v ∧ y = .arr e sz rows')
section
variable {k : Wk} {w0 : Org} {ops : Array Oper} {l : List Oper} {Q : St → Prop} {F : List (Nat × SV)} {H : List (Nat × VH)} {d t : Nat} {p : String} {af : Array Edge}
theorem v_callm {pre : Prop} {f : FuncId} {x : Operand} {xr : List Operand} {xs : Array Operand} {ts : Array TypeId} {args : List SV} {v : SV} {r n e sz : Nat} {rows rows' : List (List Cell)} (hN : Nat.blt d k.N = true) (hk : k.P = Try.prog ∧ k.T = 25) (hxs : xs.toList = x :: xr) (hx : (St.mk F H).ev x = .one (.sl r n sz)) (hr : getH H r = .arr e sz rows) (hic : ICm pre f args e sz n rows v rows')
    (ha : PsSL k.P k.T ⟨F, H⟩ true xr args) (h0 : SV.hasL 0 args = false) (hp : pre) (h : rg k w0 ops l Q ⟨(d, v) :: F, (r, .arr e sz rows') :: H⟩) :
    rg k w0 ops (⟨some d, .call { callee := .value (.func f), args := xs, argTypes := ts }, t, p, af, none⟩ :: l) Q ⟨F, H⟩ :=
  rgI (irg_h rfl (opr_callm rfl hxs rfl (nlt hN) (by rw [hk.1, hk.2]; exact hic hp) hx (.sl n sz) hr rfl ha h0 (.inl ⟨_, _, rfl⟩)) (rgO h))
end
section
variable {τ : List TyI} {fn : Func} {F : List (Nat × SV)} {H : List (Nat × VH)} {α : Type} {f : α → List Cell} {xs x0 : List α} {e sz : Nat} {u : Value} {c : CV} {ex : Exit} {sv : SV}
end
section
variable {P : Program} {T : TypeId} {N : Nat} {w0 : Org} {s : St} {o : Oper} {τ : List TyI}
end
section
variable {k : Wk} {w0 : Org} {ops : Array Oper} {W : Option (List Nat)} {S listed : Array Bool} {nq m n : Nat} {Q : St → Prop} {s : St} {l : List Nat} {ty : TypeId} {pp : String} {af : Array Edge} {d i : Nat}
end
end Go.Proofs.Ytcbppkfnfbdkhaa
/- An append whose first list stays in use. -/
set_option linter.all false
set_option maxRecDepth 20000
namespace Go.Proofs.Ytcbppkfnfbdkhaa
open Go.RowKit Go.Shelf
section
variable {P : Program} {T : TypeId} {N : Nat} {w0 : Org} {s : St} {o : Oper} {τ : List TyI} {g : Gh} {a : Act} {w : World}
end
section
variable {k : Wk} {w0 : Org} {ops : Array Oper} {l : List Oper} {Q : St → Prop} {F F' : List (Nat × SV)} {H H' : List (Nat × VH)}
end
section
variable {k : Wk} {w0 : Org} {s : St} {o : Oper} {x y z : Operand} {t t' : TypeId}
end
end Go.Proofs.Ytcbppkfnfbdkhaa
/- Tables: a list of lists of the call's own, changed in place. -/
set_option linter.all false
set_option maxRecDepth 20000
namespace Go.Proofs.Ytcbppkfnfbdkhaa
open Go.RowKit Go.Shelf
def VH.isT : VH → Bool
  | .tbl _ _ _ _ => true
  | _ => false
section
variable {P : Program} {T : TypeId} {N : Nat} {w0 : Org} {g g' : Gh} {s : St} {a : Act} {w w' : World} {o : Oper} {τ : List TyI}
theorem HeapOK.exs {r : Nat} {c : VH} (h : HeapOK P g w r c) (hn : c.isT = false) (f : Nat → Option Obj) : HeapOK P ⟨g.β, g.κ, g.Rd, g.tp, g.tl, f⟩ w r c := by
  have mv : ∀ {v : Value} {c : CV}, RepCV P g w v c → RepCV P ⟨g.β, g.κ, g.Rd, g.tp, g.tl, f⟩ w v c := fun h => h.move (Fut.refl _ _) (fun _ h => h) fun _ _ => ⟨rfl, rfl⟩
  cases c with
  | gone => trivial
  | pin v c => exact mv h
  | blk t cs => obtain ⟨b, vals, h1, h2, h3, h4⟩ := h; exact ⟨b, vals, h1, h2, h3, fun j v c hv hc => mv (h4 j v c hv hc)⟩
  | arr e sz rows => exact h
  | tbl _ _ _ _ => cases hn
inductive TzF (r : Nat) (rows : List (List (List Cell))) : List (Nat × SV) → List (Nat × SV) → Prop where
  | nil : TzF r rows [] []
  | sl {x n : Nat} {l l' : List (Nat × SV)} (hn : n = rows.length) (h : TzF r rows l l') : TzF r rows ((x, .one (.sl r n 1)) :: l) ((x, .one (.d (.list (rows.map fun row => [.list row])))) :: l')
  | same {x : Nat} {v : SV} {l l' : List (Nat × SV)} (h : TzF r rows l l') : TzF r rows ((x, v) :: l) ((x, v) :: l')
theorem TzF.get {r : Nat} {rows : List (List (List Cell))} {F F' : List (Nat × SV)} (h : TzF r rows F F') (x : Nat) : getF F' x = getF F x ∨ (∃ n, n = rows.length ∧ getF F x = .one (.sl r n 1) ∧ getF F' x = .one (.d (.list (rows.map fun row => [.list row])))) := by
  induction h with
  | nil => exact .inl rfl
  | @sl y n l l' hn h ih =>
    simp only [getF, beq_eq]
    by_cases e : y = x
    · subst e; exact .inr ⟨n, hn, by simp, by simp⟩
    · simpa [e] using ih
  | @same y v l l' h ih =>
    simp only [getF, beq_eq]
    by_cases e : y = x
    · subst e; exact .inl (by simp)
    · simpa [e] using ih
end
section
variable {k : Wk} {w0 : Org} {ops : Array Oper} {l : List Oper} {Q : St → Prop} {F F' : List (Nat × SV)} {H : List (Nat × VH)} {β : Type} {f : β → List Cell} {xs : List (List β)} {e e1 r q : Nat}
end
end Go.Proofs.Ytcbppkfnfbdkhaa
/- A queue: the part of a list of the call's own that is left, and that grows. -/
set_option linter.all false
set_option maxRecDepth 20000
namespace Go.Proofs.Ytcbppkfnfbdkhaa
open Go.RowKit Go.Shelf
section
variable {P : Program} {T : TypeId} {N : Nat} {w0 : Org} {s : St} {o : Oper} {τ : List TyI} {g : Gh} {a : Act} {w : World}
end
section
variable {k : Wk} {w0 : Org} {ops : Array Oper} {l : List Oper} {Q : St → Prop} {F F' : List (Nat × SV)} {H : List (Nat × VH)} {d t t' : Nat} {x y : Operand} {p : String} {af : Array Edge}
end
end Go.Proofs.Ytcbppkfnfbdkhaa
/- Queues whose old head is read behind the append. -/
set_option linter.all false
set_option maxRecDepth 20000
set_option maxHeartbeats 4000000
namespace Go.Proofs.Ytcbppkfnfbdkhaa
open Go.RowKit Go.Shelf
section
variable {P : Program} {T : TypeId} {N : Nat} {w0 : Org} {s : St} {o : Oper} {τ : List TyI} {g : Gh} {a : Act} {w : World}
end
section
variable {k : Wk} {w0 : Org} {ops : Array Oper} {l : List Oper} {Q : St → Prop} {F F' : List (Nat × SV)} {H : List (Nat × VH)} {d t t' : Nat} {x y : Operand} {p : String} {af : Array Edge}
end
section
variable {k : Wk} {w0 : Org} {ops : Array Oper} {W : Option (List Nat)} {S listed : Array Bool} {nq m n : Nat} {Q : St → Prop} {s : St} {l : List Nat}
end
section
variable {k : Wk} {w0 : Org} {s : St} {o : Oper}
end
end Go.Proofs.Ytcbppkfnfbdkhaa
/- Arrays of bools at a variable index. -/
set_option linter.all false
set_option maxRecDepth 20000
namespace Go.Proofs.Ytcbppkfnfbdkhaa
open Go.RowKit Go.Shelf
section
variable {k : Wk} {w0 : Org} {ops : Array Oper} {l : List Oper} {Q : St → Prop} {F F' : List (Nat × SV)} {H H' : List (Nat × VH)} {d t t' ty : Nat} {p : String} {af : Array Edge} {x y : Operand} {s : St} {gd : Option (Nat × Bool)} {xs : List Bool}
end
section
variable {k : Wk} {w0 : Org} {ops : Array Oper} {W : Option (List Nat)} {S listed : Array Bool} {nq m n : Nat} {Q : St → Prop} {s : St} {l : List Nat} {op : Op} {ty : TypeId} {pp : String} {af : Array Edge} {i : Nat} {x y : Operand} {t tt r : Nat} {xs : List Bool} {v : Bool} {a b : Int}
end
section
variable {k : Wk} {w0 : Org} {d t t' ty : Nat} {p : String} {af : Array Edge} {x y : Operand} {s : St} {gd : Option (Nat × Bool)} {b c : Bool}
end
end Go.Proofs.Ytcbppkfnfbdkhaa
/- Methods that change what their receiver points to. -/
set_option linter.all false
set_option maxRecDepth 20000
namespace Go.Proofs.Ytcbppkfnfbdkhaa
open Go.RowKit Go.Shelf
section
variable {P : Program} {T : TypeId} {N : Nat} {w0 : Org} {s : St} {o : Oper} {τ : List TyI}
end
section
variable {k : Wk} {w0 : Org} {ops : Array Oper} {l : List Oper} {Q : St → Prop} {F : List (Nat × SV)} {H : List (Nat × VH)} {d t t' ty : Nat} {p : String} {af : Array Edge} {x : Operand}
end
section
variable {k : Wk} {w0 : Org} {ops : Array Oper} {l : List Oper} {Q : St → Prop} {F : List (Nat × SV)} {H : List (Nat × VH)} {d t : Nat} {p : String} {af : Array Edge}
end
section
variable {τ : List TyI} {fn : Func} {F : List (Nat × SV)} {H : List (Nat × VH)} {ty : TypeId} {cs cs' : List CV} {u : Value} {c : CV} {ex : Exit} {sv : SV}
end
end Go.Proofs.Ytcbppkfnfbdkhaa
/- A text is appended to bytes. -/
set_option linter.all false
set_option maxRecDepth 20000
namespace Go.Proofs.Ytcbppkfnfbdkhaa
open Go.RowKit Go.Shelf Go.Lib
section
variable {P : Program}
end
section
variable {P : Program} {T : TypeId} {N : Nat} {w0 : Org} {s : St} {o : Oper} {τ : List TyI}
end
section
variable {P : Program} {T : TypeId} {N : Nat} {w0 : Org} {s : St} {o : Oper} {τ : List TyI}
end
section
variable {k : Wk} {w0 : Org} {ops : Array Oper} {l : List Oper} {Q : St → Prop} {F F' : List (Nat × SV)} {H H' : List (Nat × VH)} {d t t' u : Nat} {x y : Operand} {p : String} {af : Array Edge}
end
section
variable {P : Program} {T : TypeId} {N : Nat} {w0 : Org} {s : St} {o : Oper} {τ : List TyI}
end
section
variable {k : Wk} {w0 : Org} {ops : Array Oper} {l : List Oper} {Q : St → Prop} {F F' : List (Nat × SV)} {H H' : List (Nat × VH)} {d t t' u : Nat} {x y : Operand} {p : String} {af : Array Edge}
end
end Go.Proofs.Ytcbppkfnfbdkhaa
/- To bytes whose room is used up, bytes are appended. -/
set_option linter.all false
set_option maxRecDepth 20000
namespace Go.Proofs.Ytcbppkfnfbdkhaa
open Go.RowKit Go.Shelf Go.Lib
section
variable {P : Program} {o : Oper} {a : Act} {w : World} {K K' : Act → World → Prop} {Q1 Q' : Exit → Act → World → Prop} {b : Nat}
end
section
variable {P : Program} {T : TypeId} {N : Nat} {w0 : Org} {g g' : Gh} {s : St} {a : Act} {w w' : World} {o : Oper} {τ : List TyI}
end
@[irreducible] def rgx (k : Wk) (w0 : Org) (b n : Nat) (ops : Array Oper) (l : List Oper) (Q : St → Prop) (s : St) : Prop :=
  ∀ g a w, Sim k.P k.T k.N w0 g s a w → (∃ A, a.eval (.tmp b) = .slice A n n) → ∀ Q' : Exit → Act → World → Prop, (∀ g' s' a' w', Q s' → Sim k.P k.T k.N w0 g' s' a' w' → Q' .normal a' w') → wpList k.P ops Q' l a w
def dstNe (b : Nat) (l : List Oper) : Bool := l.all fun o => match o.dst with | some d => !(Nat.beq d b) | none => true
section
variable {k : Wk} {w0 : Org} {ops : Array Oper} {l rest : List Oper} {Q : St → Prop} {F F' : List (Nat × SV)} {H H' : List (Nat × VH)} {d b n t : Nat} {p p' pa pb pc pd : String} {af af' afa afb afc afd : Array Edge} {s : St}
end
end Go.Proofs.Ytcbppkfnfbdkhaa
/- Results that are owned lists, of which only a property is known. -/
set_option linter.all false
set_option maxRecDepth 20000
namespace Go.Proofs.Ytcbppkfnfbdkhaa
open Go.RowKit Go.Shelf
section
variable {P : Program} {T : TypeId} {N : Nat} {w0 : Org} {s : St} {o : Oper}
end
section
variable {k : Wk} {w0 : Org} {ops : Array Oper} {l : List Oper} {Q : St → Prop} {F : List (Nat × SV)} {H : List (Nat × VH)} {d t : Nat} {p : String} {af : Array Edge} {α : Type} {φ : List α → Prop} {gg : α → List Cell}
end
section
variable {τ : List TyI} {fn : Func} {F : List (Nat × SV)} {H : List (Nat × VH)} {α : Type} {φ : List α → Prop} {f : α → List Cell} {xs : List α} {e sz : Nat} {t : Tmp}
end
end Go.Proofs.Ytcbppkfnfbdkhaa
/- Texts put together. -/
set_option linter.all false
set_option maxRecDepth 20000
namespace Go.Proofs.Ytcbppkfnfbdkhaa
open Go.RowKit Go.Shelf
section
variable {P : Program} {T : TypeId} {N : Nat} {w0 : Org} {s : St} {o : Oper}
end
section
variable {k : Wk} {w0 : Org} {ops : Array Oper} {l : List Oper} {Q : St → Prop} {F : List (Nat × SV)} {H : List (Nat × VH)} {d t ty tb : Nat} {x y : Operand} {p : String} {af : Array Edge} {a b : ByteArray}
end
end Go.Proofs.Ytcbppkfnfbdkhaa
