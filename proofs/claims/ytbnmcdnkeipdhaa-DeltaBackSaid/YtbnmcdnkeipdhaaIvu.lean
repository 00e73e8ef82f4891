/- Operations that hand back a value, or change the heap, by one function each. -/
import Derived.Test.YtbnmcdnkeipdhaaIvt
set_option linter.all false
namespace Go.Proofs.Ytbnmcdnkeipdhaa
open Go.RowKit Go.Shelf
/-- The list, made anew. -/
def listK {α β : Type} : List α → (List α → β) → β
  | [], k => k []
  | c :: l, k => listK l fun r => k (c :: r)
theorem listK_eq {α β : Type} (l : List α) (k : List α → β) : listK l k = k l := by
  induction l generalizing k with
  | nil => rfl
  | cons c l ih => simp only [listK, ih]
/-- The cells, made anew. -/
def forceL {β : Type} : List CV → (List CV → β) → β
  | [], k => k []
  | c :: l, k => forceL l fun q => match c with
    | .sl r n sz => k (.sl r n sz :: q)
    | .d x => k (.d x :: q)
    | .nil => k (.nil :: q)
    | .u => k (.u :: q)
    | .ref r o => k (.ref r o :: q)
    | .el r i j sz => k (.el r i j sz :: q)
    | .slp r o n sz => k (.slp r o n sz :: q)
    | .rp cs => k (.rp cs :: q)
    | .clo f cs => k (.clo f cs :: q)
    | .fn p => k (.fn p :: q)
    | .tape => k (.tape :: q)
theorem forceL_eq {β : Type} (l : List CV) (k : List CV → β) : forceL l k = k l := by
  induction l generalizing k with
  | nil => rfl
  | cons c l ih => simp only [forceL, ih]; cases c <;> rfl
def nrm : Option SV → Option SV
  | none => none
  | some (.agg l) => forceL l fun r => some (.agg r)
  | some (.one (.rp l)) => forceL l fun r => some (.one (.rp r))
  | some (.one c) => some (.one c)
  | some (.tup l) => some (.tup l)
  | some .u => some .u
theorem nrm_eq (x : Option SV) : nrm x = x := by
  unfold nrm
  split
  · rfl
  · rw [forceL_eq]
  · rw [forceL_eq]
  · rfl
  · rfl
  · rfl
def nthO {α : Type} : List α → Nat → Option α
  | [], _ => none
  | x :: _, 0 => some x
  | _ :: l, n + 1 => nthO l n
theorem nthO_eq {α : Type} (l : List α) (n : Nat) : nthO l n = l[n]? := by
  induction l generalizing n with
  | nil => rfl
  | cons x l ih => cases n <;> simp [nthO, ih]
def dropO {α : Type} : Nat → List α → Option (List α)
  | 0, l => some l
  | _ + 1, [] => none
  | n + 1, _ :: l => dropO n l
theorem dropO_eq {α : Type} {n : Nat} {l r : List α} (h : dropO n l = some r) : r = l.drop n ∧ n ≤ l.length := by
  induction n generalizing l with
  | zero => simp [dropO] at h; simp [h]
  | succ n ih =>
    cases l with
    | nil => cases h
    | cons c l => obtain ⟨e1, e2⟩ := ih (by simpa [dropO] using h); simp [e1]; omega
def takeO {α : Type} : Nat → List α → Option (List α)
  | 0, _ => some []
  | _ + 1, [] => none
  | n + 1, c :: l => match takeO n l with | some r => some (c :: r) | none => none
theorem takeO_eq {α : Type} {n : Nat} {l r : List α} (h : takeO n l = some r) : r = l.take n ∧ n ≤ l.length := by
  induction n generalizing l r with
  | zero => simp [takeO] at h; simp [h]
  | succ n ih =>
    cases l with
    | nil => cases h
    | cons c l =>
      simp only [takeO] at h
      cases hx : takeO n l with
      | none => rw [hx] at h; cases h
      | some q =>
        rw [hx] at h
        injection h with h
        obtain ⟨e1, e2⟩ := ih hx
        subst h e1
        simp; omega
/-- What is loaded from cells. -/
def loadO (ty : TyI) (cs : List CV) : Option SV :=
  match ty with
  | .one _ => match cs with | c :: _ => some (.one c) | [] => none
  | .sl _ _ _ => match cs with | c :: _ => some (.one c) | [] => none
  | .st n _ _ => match takeO n cs with | some r => some (.agg r) | none => none
  | .ar n _ _ _ _ => match takeO n cs with | some r => some (.agg r) | none => none
  | .bad => none
def kN : IntKind → Nat
  | .i8 => 0 | .i16 => 1 | .i32 => 2 | .i64 => 3 | .u8 => 4 | .u16 => 5 | .u32 => 6 | .u64 => 7
theorem kN_inj {a b : IntKind} (h : Nat.beq (kN a) (kN b) = true) : a = b := by
  cases a <;> cases b <;> first | rfl | cases h
def cmpO (op : BinOp) (k : IntKind) (m n : Int) : Option Cell :=
  match op with
  | .eql => some (.bool (decide (m = n)))
  | .neq => some (.bool (!decide (m = n)))
  | .lss => some (.bool (decide (m < n)))
  | .leq => some (.bool (decide (m ≤ n)))
  | .gtr => some (.bool (decide (n < m)))
  | .geq => some (.bool (decide (n ≤ m)))
  | .and => some (.int k (bits .and k m n))
  | .or => some (.int k (bits .or k m n))
  | .xor => some (.int k (bits .xor k m n))
  | .andNot => some (.int k (bits .andNot k m n))
  | _ => none
/-- The value of an operation. -/
def opV (τ : List TyI) (F : List (Nat × SV)) (H : List (Nat × VH)) : Op → Option SV
  | .move x => some ((St.mk F H).ev x)
  | .assign x => some ((St.mk F H).ev x)
  | .load t x => match (St.mk F H).ev x with
    | .one (.rp cs) => loadO (tyAt τ t) cs
    | .one (.ref r off) => match getH H r with
      | .blk _ cs => match dropO off cs with | some r => loadO (tyAt τ t) r | none => none
      | _ => none
    | _ => none
  | .fieldAddr t x f => match tyAt τ t with
    | .st _ fs _ => match nthO fs f with
      | some (o, _, _) => match (St.mk F H).ev x with
        | .one (.ref r off) => some (.one (.ref r (off + o)))
        | .one (.rp cs) => match dropO o cs with | some r => some (.one (.rp r)) | none => none
        | .one (.el r i j sz) => some (.one (.el r i (j + o) sz))
        | _ => none
      | none => none
    | _ => none
  | .field t x f => match tyAt τ t with
    | .st _ fs _ => match nthO fs f with
      | some (o, ft, _) => match (St.mk F H).ev x with
        | .agg cs => match dropO o cs with | some r => loadO (tyAt τ ft) r | none => none
        | _ => none
      | none => none
    | _ => none
  | .unOp .not _ x => match (St.mk F H).ev x with
    | .one (.d (.bool b)) => some (.one (.d (.bool (!b))))
    | _ => none
  | .nilCheck x => match (St.mk F H).ev x with
    | .one c => bif c.ptr then some (.one c) else none
    | _ => none
  | .extract x i => match (St.mk F H).ev x with
    | .tup vs => nthO vs i
    | _ => none
  | .makeFunc (.func f) first caps => match first.toList, evL (St.mk F H) caps.toList with
    | [], some cs => some (.one (.clo f cs))
    | _, _ => none
  | .build t parts => match tyAt τ t, partsOf (St.mk F H) parts.toList with
    | .st _ fs zs, some cp => match cfill (fs.map fun f => (f.1, f.2.2)) (zs.map Z.cv) cp with | some r => some (.agg r) | none => none
    | .ar _ len _ sz zs, some cp => match cfill ((List.range len).map fun i => (i * sz, sz)) (zs.map Z.cv) cp with | some r => some (.agg r) | none => none
    | _, _ => none
  | .binOp op _ x y _ => match (St.mk F H).ev x, (St.mk F H).ev y with
    | .one (.d (.int k m)), .one (.d (.int k' n)) => bif Nat.beq (kN k) (kN k') then (match cmpO op k m n with | some c => some (.one (.d c)) | none => none) else none
    | _, _ => none
  | _ => none
section
variable {P : Program} {T : TypeId} {N : Nat} {w0 : Org} {g g' : Gh} {a : Act} {w w' : World} {τ : List TyI} {F : List (Nat × SV)} {H : List (Nat × VH)}
theorem loadO_rp (hτ : tabB P 0 τ = true) {o : Oper} {t : Nat} {x : Operand} {cs : List CV} {v : SV} (ho : o.op = .load t x) (hx : (St.mk F H).ev x = .one (.rp cs)) (h : loadO (tyAt τ t) cs = some v) : OpE P T N w0 ⟨F, H⟩ o v := by
  unfold loadO at h
  split at h
  · rename_i z hty
    cases cs with
    | nil => cases h
    | cons c l => injection h with h; subst h; exact ope_load_rp1 ho hx (tab_one hτ (by rw [hty]; rfl)) rfl
  · rename_i e n b hty
    cases cs with
    | nil => cases h
    | cons c l => injection h with h; subst h; exact ope_load_rp1 ho hx (tab_one hτ (by rw [hty]; rfl)) rfl
  · rename_i n fs zs hty
    cases hq : takeO n cs with
    | none => rw [hq] at h; cases h
    | some r =>
      rw [hq] at h; injection h with h; subst h
      obtain ⟨rfl, hle⟩ := takeO_eq hq
      exact ope_load_rpn ho hx (tab_agg hτ hty) hle
  · rename_i n len e sz zs hty
    cases hq : takeO n cs with
    | none => rw [hq] at h; cases h
    | some r =>
      rw [hq] at h; injection h with h; subst h
      obtain ⟨rfl, hle⟩ := takeO_eq hq
      exact ope_load_rpn ho hx (tab_agga hτ hty) hle
  · cases h
theorem drop_head {α : Type} {l : List α} {n : Nat} {c : α} {r : List α} (h : l.drop n = c :: r) : l[n]? = some c := by
  have : (l.drop n)[0]? = some c := by rw [h]; rfl
  simpa using this
theorem loadO_ref (hτ : tabB P 0 τ = true) {o : Oper} {t tt r off : Nat} {x : Operand} {cs : List CV} {v : SV} (ho : o.op = .load t x) (hx : (St.mk F H).ev x = .one (.ref r off)) (hH : getH H r = .blk tt cs) (hoff : off ≤ cs.length) (h : loadO (tyAt τ t) (cs.drop off) = some v) : OpE P T N w0 ⟨F, H⟩ o v := by
  unfold loadO at h
  split at h
  · rename_i z hty
    cases hc : cs.drop off with
    | nil => rw [hc] at h; cases h
    | cons c l => rw [hc] at h; injection h with h; subst h; exact ope_load_ref1 ho hx hH (tab_one hτ (by rw [hty]; rfl)) (drop_head hc)
  · rename_i e n b hty
    cases hc : cs.drop off with
    | nil => rw [hc] at h; cases h
    | cons c l => rw [hc] at h; injection h with h; subst h; exact ope_load_ref1 ho hx hH (tab_one hτ (by rw [hty]; rfl)) (drop_head hc)
  · rename_i n fs zs hty
    cases hq : takeO n (cs.drop off) with
    | none => rw [hq] at h; cases h
    | some q =>
      rw [hq] at h; injection h with h; subst h
      obtain ⟨rfl, hle⟩ := takeO_eq hq
      exact ope_load_refn ho hx hH (tab_agg hτ hty) (by simp at hle; omega)
  · rename_i n len e sz zs hty
    cases hq : takeO n (cs.drop off) with
    | none => rw [hq] at h; cases h
    | some q =>
      rw [hq] at h; injection h with h; subst h
      obtain ⟨rfl, hle⟩ := takeO_eq hq
      exact ope_load_refn ho hx hH (tab_agga hτ hty) (by simp at hle; omega)
  · cases h
theorem opV_ok (hτ : tabB P 0 τ = true) {o : Oper} {v : SV} (h : opV τ F H o.op = some v) : OpE P T N w0 ⟨F, H⟩ o v := by
  obtain ⟨dst, op, ty, pos, af, gd⟩ := o
  simp only at h
  unfold opV at h
  split at h
  · injection h with h; subst h; exact ope_move rfl
  · injection h with h; subst h; exact ope_assign rfl
  · rename_i t x
    split at h
    · rename_i cs hx; exact loadO_rp hτ rfl hx h
    · rename_i r off hx
      split at h
      · rename_i tt cs hH
        split at h
        · rename_i q hq
          obtain ⟨rfl, hle⟩ := dropO_eq hq
          exact loadO_ref hτ rfl hx hH hle h
        · cases h
      · cases h
    · cases h
  · rename_i t x f
    split at h
    · rename_i n fs zs hty
      split at h
      · rename_i o' ft sz hf
        rw [nthO_eq] at hf
        have hfl := (tab_fld hτ hty hf).1
        split at h
        · rename_i r off hx; injection h with h; subst h; exact ope_fieldAddr_ref rfl hx hfl
        · rename_i cs hx
          split at h
          · rename_i q hq
            obtain ⟨rfl, hle⟩ := dropO_eq hq
            injection h with h; subst h; exact ope_fieldAddr_rp rfl hx hfl
          · cases h
        · rename_i r i j sz hx; injection h with h; subst h; exact ope_fieldAddr_el rfl hx hfl
        · cases h
      · cases h
    · cases h
  · rename_i t x f
    split at h
    · rename_i n fs zs hty
      split at h
      · rename_i o' ft sz hf
        rw [nthO_eq] at hf
        have hfl := (tab_fld hτ hty hf).2
        split at h
        · rename_i cs hx
          split at h
          · rename_i q hq
            obtain ⟨rfl, hle⟩ := dropO_eq hq
            unfold loadO at h
            split at h
            · rename_i z hty2
              cases hc : cs.drop o' with
              | nil => rw [hc] at h; cases h
              | cons c l => rw [hc] at h; injection h with h; subst h; exact ope_field1 rfl hx hfl (tab_one hτ (by rw [hty2]; rfl)) (drop_head hc)
            · rename_i e n b hty2
              cases hc : cs.drop o' with
              | nil => rw [hc] at h; cases h
              | cons c l => rw [hc] at h; injection h with h; subst h; exact ope_field1 rfl hx hfl (tab_one hτ (by rw [hty2]; rfl)) (drop_head hc)
            · rename_i n2 fs2 zs2 hty2
              cases hq : takeO n2 (cs.drop o') with
              | none => rw [hq] at h; cases h
              | some q =>
                rw [hq] at h; injection h with h; subst h
                obtain ⟨rfl, hle2⟩ := takeO_eq hq
                exact ope_fieldn rfl hx hfl (tab_agg hτ hty2) (by simp at hle2; omega)
            · rename_i n2 len e sz2 zs2 hty2
              cases hq : takeO n2 (cs.drop o') with
              | none => rw [hq] at h; cases h
              | some q =>
                rw [hq] at h; injection h with h; subst h
                obtain ⟨rfl, hle2⟩ := takeO_eq hq
                exact ope_fieldn rfl hx hfl (tab_agga hτ hty2) (by simp at hle2; omega)
            · cases h
          · cases h
        · cases h
      · cases h
    · cases h
  · rename_i t x
    split at h
    · rename_i b hx; injection h with h; subst h; exact ope_not rfl hx
    · cases h
  · rename_i x
    split at h
    · rename_i c hx
      cases hc : c.ptr with
      | false => rw [hc] at h; cases h
      | true => rw [hc] at h; injection h with h; subst h; exact ope_nilCheck rfl hx hc
    · cases h
  · rename_i x i
    split at h
    · rename_i vs hx; rw [nthO_eq] at h; exact ope_extract rfl hx h
    · cases h
  · rename_i f first caps
    split at h
    · rename_i cs h1 h2
      injection h with h; subst h
      have : first = #[] := by cases first; simp_all
      subst this
      exact ope_makeFunc rfl h2
    · cases h
  · rename_i t parts
    split at h
    · rename_i n fs zs cp hty hp
      split at h
      · rename_i r hr; injection h with h; subst h; exact ope_build hτ rfl hty hp hr
      · cases h
    · rename_i n len e sz zs cp hty hp
      split at h
      · rename_i r hr; injection h with h; subst h; exact ope_build_arr hτ rfl hty hp hr
      · cases h
    · cases h
  · rename_i op t x y tb
    split at h
    · rename_i k m k' n hx hy
      cases hk : Nat.beq (kN k) (kN k') with
      | false => rw [hk] at h; cases h
      | true =>
        have := kN_inj hk
        subst this
        rw [hk] at h
        simp only [cond_true] at h
        unfold cmpO at h
        cases op <;> simp only at h <;> first
          | (cases h; done)
          | (injection h with h; subst h; first
              | exact ope_eql rfl hx hy
              | exact ope_neq rfl hx hy
              | exact ope_lss rfl hx hy
              | exact ope_leq rfl hx hy
              | exact ope_gtr rfl hx hy
              | exact ope_geq rfl hx hy
              | exact ope_bits (.inl rfl) rfl hx hy rfl
              | exact ope_bits (.inr (.inl rfl)) rfl hx hy rfl
              | exact ope_bits (.inr (.inr (.inl rfl))) rfl hx hy rfl
              | exact ope_bits (.inr (.inr (.inr rfl))) rfl hx hy rfl)
    · cases h
  · cases h
end
end Go.Proofs.Ytbnmcdnkeipdhaa
