/- Equality of structs, of bools and of strings. -/
import Derived.Test.YtbnmcdnkeipdhaaIvo
import Derived.Laws.StructEq
set_option linter.all false
namespace Go.Proofs.Ytbnmcdnkeipdhaa
open Go.RowKit Go.Shelf
inductive EK where
  | i
  | b
  | s
deriving DecidableEq
def ekT (P : Program) (t : TypeId) : Option EK :=
  match P.underlying t with
  | some .bool => some .b
  | some (.int _) => some .i
  | some .string => some .s
  | _ => none
def eqFs (P : Program) : List Field → Nat → Option (List EK)
  | [], _ => some []
  | f :: fs, j => bif (f.name != "_") && Nat.beq f.offset j then (match ekT P f.type, eqFs P fs (j + 1) with | some e, some l => some (e :: l) | _, _ => none) else none
/-- The struct t has these fields, each of one cell, and nothing else. -/
def eqT (P : Program) (t : TypeId) : Option (List EK) :=
  match P.underlying t with
  | some (.struct fs) => bif !(P.stoodInHeld t) && !(P.eqGuardType P.depth t) then eqFs P fs.toList 0 else none
  | _ => none
def cellEq : EK → Cell → Cell → Option Bool
  | .i, .int k a, .int k' b => if k = k' then some (decide (a = b)) else none
  | .b, .bool a, .bool b => some (a == b)
  | .s, .str a, .str b => some (a == b)
  | _, _, _ => none
def cellsEq : List EK → List CV → List CV → Option Bool
  | [], _, _ => some true
  | e :: l, .d a :: al, .d b :: bl => match cellEq e a b, cellsEq l al bl with | some x, some y => some (x && y) | _, _ => none
  | _, _, _ => none
section
variable {P : Program} {T : TypeId} {N : Nat} {w0 : Org} {g : Gh} {s : St} {a : Act} {w : World} {o : Oper} {t t' : TypeId} {x y : Operand}
theorem ekT_one {e : EK} (h : ekT P t = some e) : oneT P t = true := by
  unfold ekT at h; unfold oneT
  cases hu : P.underlying t with
  | none => rw [hu] at h; cases h
  | some d => rw [hu] at h; cases d <;> first | rfl | cases h
theorem cellEq_run {d : Nat} {e : EK} {a b : Cell} {u v : Value} {Rd : Nat → Nat → Prop} {r : Bool} (h : ekT P t = some e) (hu : RepCell Rd w u a) (hv : RepCell Rd w v b) (hr : cellEq e a b = some r) : (Op.equalIn (d + 1) t u v).run P w = .ok r w := by
  unfold ekT at h
  split at h <;> rename_i ht
  · cases h
    cases hu <;> cases hv <;> simp [cellEq] at hr
    subst hr
    exact run_equalIn_bool w d t _ _ ht
  · cases h
    cases hu <;> cases hv <;> simp [cellEq] at hr
    obtain ⟨rfl, rfl⟩ := hr
    rw [run_equalIn_int w d t _ _ _ _ ht]
    rfl
  · cases h
    cases hu <;> cases hv <;> simp [cellEq] at hr
    subst hr
    rw [run_equalIn_string w d t _ _ ht, ← beq_toListBytes]
  · cases h
theorem eqFields_run {d : Nat} (xs ys : Array Value) : ∀ (fs : List Field) (j : Nat) (ks : List EK) (al bl : List CV) (r : Bool), eqFs P fs j = some ks → cellsEq ks al bl = some r →
    (∀ (i : Nat) (c : CV), al[i]? = some c → ∃ u, xs[j + i]? = some u ∧ RepCV P g w u c) → (∀ (i : Nat) (c : CV), bl[i]? = some c → ∃ u, ys[j + i]? = some u ∧ RepCV P g w u c) →
    (Op.eqFields (d + 1) xs ys fs).run P w = .ok r w
  | [], j, ks, al, bl, r, h, hr, ha, hb => by
    simp [eqFs] at h; subst h
    simp [cellsEq] at hr; subst hr
    simp [Op.eqFields]
  | f :: fs, j, ks, al, bl, r, h, hr, ha, hb => by
    simp only [eqFs] at h
    cases hq : ((f.name != "_") && Nat.beq f.offset j) with
    | false => rw [hq] at h; cases h
    | true =>
      rw [hq] at h
      simp only [cond_true] at h
      simp only [Bool.and_eq_true] at hq
      obtain ⟨hn, ho⟩ := hq
      have hn' : f.name ≠ "_" := by simpa using hn
      have ho' : f.offset = j := Nat.eq_of_beq_eq_true ho
      cases he : ekT P f.type with
      | none => rw [he] at h; cases h
      | some e =>
        cases hl : eqFs P fs (j + 1) with
        | none => rw [he, hl] at h; cases h
        | some l =>
          rw [he, hl] at h
          cases h
          match al, bl, hr, ha, hb with
          | .d p :: al, .d q :: bl, hr, ha, hb =>
            simp only [cellsEq] at hr
            cases h1 : cellEq e p q with
            | none => rw [h1] at hr; cases hr
            | some r1 =>
              cases h2 : cellsEq l al bl with
              | none => rw [h1, h2] at hr; cases hr
              | some r2 =>
                rw [h1, h2] at hr
                cases hr
                obtain ⟨u, u1, u2⟩ := ha 0 _ rfl
                obtain ⟨v, v1, v2⟩ := hb 0 _ rfl
                have ih := eqFields_run (d := d) xs ys fs (j + 1) l al bl r2 hl h2 (fun i c hc => by
                  obtain ⟨u, e1, e2⟩ := ha (i + 1) c (by simpa using hc)
                  exact ⟨u, by rw [← e1]; congr 1; omega, e2⟩) (fun i c hc => by
                  obtain ⟨u, e1, e2⟩ := hb (i + 1) c (by simpa using hc)
                  exact ⟨u, by rw [← e1]; congr 1; omega, e2⟩)
                simp only [Op.eqFields, hn', ne_eq, not_false_eq_true, if_true, Sem.run_bind]
                rw [run_part_one (ekT_one he) (by rw [ho']; exact u1)]
                simp only [Result.andThen_ok]
                rw [run_part_one (ekT_one he) (by rw [ho']; exact v1)]
                simp only [Result.andThen_ok]
                cases u2 with | d u2 => cases v2 with | d v2 =>
                rw [cellEq_run (d := d) he u2 v2 h1]
                simp only [Result.andThen_ok]
                cases r1
                · simp
                · simpa using ih
theorem eqT_spec {ks : List EK} (h : eqT P t = some ks) : P.underlying t = some (.struct (P.fieldsOf t)) ∧ P.stoodInHeld t = false ∧ P.eqGuardType P.depth t = false ∧ eqFs P (P.fieldsOf t).toList 0 = some ks := by
  unfold eqT at h
  split at h
  · rename_i fs hu
    have hf : P.fieldsOf t = fs := by unfold Program.fieldsOf; rw [hu]
    cases hq : (!(P.stoodInHeld t) && !(P.eqGuardType P.depth t)) with
    | false => rw [hq] at h; cases h
    | true =>
      rw [hq] at h
      simp only [Bool.and_eq_true, Bool.not_eq_true'] at hq
      refine ⟨by rw [hf]; exact hu, hq.1, hq.2, ?_⟩
      rw [hf]; exact h
  · cases h
theorem agg_eq_run {ks : List EK} {cs ds : List CV} {r : Bool} {u v : Value} (h : eqT P t = some ks) (hu : RepSV P g w u (.agg cs)) (hv : RepSV P g w v (.agg ds)) (hr : cellsEq ks cs ds = some r) :
    ∃ xs ys, u = .agg xs ∧ v = .agg ys ∧ (Op.equalIn 10000 t (.agg xs) (.agg ys)).run P w = .ok r w ∧ P.eqGuardType P.depth t = false := by
  obtain ⟨xs, rfl, hxs, hxr⟩ := hu.agg_inv
  obtain ⟨ys, rfl, hys, hyr⟩ := hv.agg_inv
  obtain ⟨h1, h2, h3, h4⟩ := eqT_spec h
  refine ⟨xs, ys, rfl, rfl, ?_, h3⟩
  rw [show (10000 : Nat) = 9998 + 1 + 1 from rfl, run_equalIn_struct w (9998 + 1) t xs ys h1 h2]
  refine eqFields_run (g := g) xs ys _ 0 ks cs ds r h4 hr (fun i c hc => ?_) (fun i c hc => ?_)
  · have hlt := (List.getElem?_eq_some_iff.1 hc).1
    exact ⟨xs[i]'(by omega), by simp [show i < xs.size by omega], hxr i _ c (Array.getElem?_eq_getElem (by omega)) hc⟩
  · have hlt := (List.getElem?_eq_some_iff.1 hc).1
    exact ⟨ys[i]'(by omega), by simp [show i < ys.size by omega], hyr i _ c (Array.getElem?_eq_getElem (by omega)) hc⟩
theorem ope_seq {ks : List EK} {cs ds : List CV} {r : Bool} (ho : o.op = .binOp .eql t x y t') (h : eqT P t = some ks) (hx : s.ev x = .agg cs) (hy : s.ev y = .agg ds) (hr : cellsEq ks cs ds = some r) : OpE P T N w0 s o (.one (.d (.bool r))) :=
  ope_scalar (v := .bool r) (fun g a w hs => by
    have h1 := hs.ev x; rw [hx] at h1
    have h2 := hs.ev y; rw [hy] at h2
    obtain ⟨xs, ys, e1, e2, e3, e4⟩ := agg_eq_run h h1 h2 hr
    simp only [execOp, ho, e1, e2, Sem.run_bind, run_eqGuard_agg w .eql t x y xs ys e4, Result.andThen_ok, run_eql_struct, e3, Sem.run_pure]) rfl (by simp) (by simp)
theorem ope_sne {ks : List EK} {cs ds : List CV} {r : Bool} (ho : o.op = .binOp .neq t x y t') (h : eqT P t = some ks) (hx : s.ev x = .agg cs) (hy : s.ev y = .agg ds) (hr : cellsEq ks cs ds = some r) : OpE P T N w0 s o (.one (.d (.bool (!r)))) :=
  ope_scalar (v := .bool (!r)) (fun g a w hs => by
    have h1 := hs.ev x; rw [hx] at h1
    have h2 := hs.ev y; rw [hy] at h2
    obtain ⟨xs, ys, e1, e2, e3, e4⟩ := agg_eq_run h h1 h2 hr
    simp only [execOp, ho, e1, e2, Sem.run_bind, run_eqGuard_agg w .neq t x y xs ys e4, Result.andThen_ok, run_neq_struct, e3, Sem.run_pure]) rfl (by simp) (by simp)
end
section
variable {k : Wk} {w0 : Org} {ops : Array Oper} {l : List Oper} {Q : St → Prop} {s : St} {d t t' ty : Nat} {x y : Operand} {p : String} {af : Array Edge}
theorem i_seq {ks : List EK} {cs ds : List CV} {r : Bool} (h : eqT k.P ty = some ks) (hN : Nat.blt d k.N = true) (hx : s.ev x = .agg cs) (hy : s.ev y = .agg ds) (hr : cellsEq ks cs ds = some r) (hk : rg k w0 ops l Q (s.put d (.one (.d (.bool r))))) : rg k w0 ops (⟨some d, .binOp .eql ty x y t', t, p, af, none⟩ :: l) Q s :=
  rgI (irg_e rfl rfl (nlt hN) (ope_seq rfl h hx hy hr) (rgO hk))
theorem i_sne {ks : List EK} {cs ds : List CV} {r : Bool} (h : eqT k.P ty = some ks) (hN : Nat.blt d k.N = true) (hx : s.ev x = .agg cs) (hy : s.ev y = .agg ds) (hr : cellsEq ks cs ds = some r) (hk : rg k w0 ops l Q (s.put d (.one (.d (.bool (!r)))))) : rg k w0 ops (⟨some d, .binOp .neq ty x y t', t, p, af, none⟩ :: l) Q s :=
  rgI (irg_e rfl rfl (nlt hN) (ope_sne rfl h hx hy hr) (rgO hk))
theorem e_seq {o : Oper} {ks : List EK} {cs ds : List CV} {r : Bool} (h : eqT k.P ty = some ks) (ho : o.op = .binOp .eql ty x y t') (hx : s.ev x = .agg cs) (hy : s.ev y = .agg ds) (hr : cellsEq ks cs ds = some r) : OpE k.P k.T k.N w0 s o (.one (.d (.bool r))) := ope_seq ho h hx hy hr
theorem e_sne {o : Oper} {ks : List EK} {cs ds : List CV} {r : Bool} (h : eqT k.P ty = some ks) (ho : o.op = .binOp .neq ty x y t') (hx : s.ev x = .agg cs) (hy : s.ev y = .agg ds) (hr : cellsEq ks cs ds = some r) : OpE k.P k.T k.N w0 s o (.one (.d (.bool (!r)))) := ope_sne ho h hx hy hr
end
end Go.Proofs.Ytbnmcdnkeipdhaa
