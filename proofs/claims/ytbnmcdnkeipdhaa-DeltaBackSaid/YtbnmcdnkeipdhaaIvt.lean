/- A law's arguments, whatever plain data they are; a law's call. -/
import Derived.Test.YtbnmcdnkeipdhaaIvs
import Derived.Deep.Slices
import Derived.Deep.Fields
import Derived.ChangeSame
import Derived.OpenShut
import Derived.ShutString
set_option linter.all false
namespace Go.Proofs.Ytbnmcdnkeipdhaa
open Go.RowKit Go.Shelf Go.ChangeShapes Go.WideShapes Go.Deep
/-- Data of a type. -/
inductive HasTy (τ : List TyI) : Nat → List Cell → Prop where
  | bool {t : Nat} (h : tyAt τ t = .one .bool) (b : Bool) : HasTy τ t [.bool b]
  | int {t : Nat} {k : IntKind} (h : tyAt τ t = .one (.int k)) (n : Int) : HasTy τ t [.int k n]
  | str {t : Nat} (h : tyAt τ t = .one .str) (s : ByteArray) : HasTy τ t [.str s]
  | sl {t e sz by_ : Nat} {rows : List (List Cell)} (h : tyAt τ t = .sl e sz by_) (hr : ∀ row ∈ rows, HasTy τ e row) : HasTy τ t [.list rows]
  | st {t n : Nat} {fs : List (Nat × Nat × Nat)} {zs : List Z} {cs : List Cell} (h : tyAt τ t = .st n fs zs) (hl : cs.length = n) (hf : ∀ (i : Nat) (f : Nat × Nat × Nat), fs[i]? = some f → HasTy τ f.2.1 ((cs.drop f.1).take f.2.2)) : HasTy τ t cs
def contB : Nat → List (Nat × Nat × Nat) → Nat → Bool
  | o, [], n => Nat.beq o n
  | o, f :: fs, n => Nat.beq f.1 o && contB (o + f.2.2) fs n
/-- The entry is just the type. -/
def dB (P : Program) (t : Nat) : TyI → Bool
  | .one .bool => match P.underlying t with | some .bool => true | _ => false
  | .one (.int k) => match P.underlying t with | some (.int k') => decide (k' = k) | _ => false
  | .one .str => match P.underlying t with | some .string => true | _ => false
  | .sl e n _ => match P.underlying t with | some (.slice e') => Nat.beq e' e && Nat.beq (P.cellsOf e) n && Nat.blt 0 n | _ => false
  | .st n fs _ => match P.underlying t with
    | some (.struct fields) => decide (fields.toList.map (fun f => (f.offset, f.type, P.cellsOf f.type)) = fs) && Nat.beq (P.cellsOf t) n && contB 0 fs n
    | _ => false
  | _ => false
def kidsB (S : List Nat) : TyI → Bool
  | .sl e _ _ => S.contains e
  | .st _ fs _ => fs.all fun f => S.contains f.2.1
  | _ => true
def closedB (P : Program) (τ : List TyI) (S : List Nat) : Bool := S.all fun t => dB P t (tyAt τ t) && kidsB S (tyAt τ t)
/-- All cells can be read. -/
def rd0 (w : World) : Nat → Nat → Prop := fun b o => (w.cell? ⟨b, o, none⟩).isSome = true
theorem cell_spot {w : World} {a : Addr} {v : Value} (h : w.cell? a = some v) : ∃ b o, a = ⟨b, o, none⟩ := by
  obtain ⟨b, o, s⟩ := a
  unfold World.cell? at h
  cases s with
  | none => exact ⟨b, o, rfl⟩
  | some n =>
    exfalso
    dsimp only at h
    split at h
    · simp at h
    · cases h
section
variable {H : Type} {enc : TypeId × Value → H} {P : Program} {w : World} {base : Nat} {held : Bool} {τ : List TyI} {S : List Nat}
theorem dB_bool {t : Nat} (hd : dB P t (.one .bool) = true) : P.underlying t = some .bool := by
  simp only [dB] at hd
  split at hd
  · assumption
  · cases hd
theorem dB_int {t : Nat} {k : IntKind} (hd : dB P t (.one (.int k)) = true) : P.underlying t = some (.int k) := by
  simp only [dB] at hd
  split at hd
  · rename_i k' h'; have := of_decide_eq_true hd; subst this; assumption
  · cases hd
theorem dB_str {t : Nat} (hd : dB P t (.one .str) = true) : P.underlying t = some .string := by
  simp only [dB] at hd
  split at hd
  · assumption
  · cases hd
theorem dB_sl {t e n b : Nat} (hd : dB P t (.sl e n b) = true) : P.underlying t = some (.slice e) ∧ P.cellsOf e = n ∧ 0 < n := by
  simp only [dB] at hd
  split at hd
  · rename_i e' h'
    simp only [Bool.and_eq_true] at hd
    have e1 := Nat.eq_of_beq_eq_true hd.1.1
    subst e1
    exact ⟨h', Nat.eq_of_beq_eq_true hd.1.2, nlt hd.2⟩
  · cases hd
/-- What a reading shows of its cells. -/
def Shows (τ : List TyI) (w : World) (t : Nat) (cs : List Value) (ds : List Cell) : Prop :=
  ds.length = cs.length ∧ HasTy τ t ds ∧ ∀ (j : Nat) (v : Value) (c : Cell), cs[j]? = some v → ds[j]? = some c → RepCell (rd0 w) w v c
theorem shows_one {t : Nat} {v : Value} {c : Cell} (ht : HasTy τ t [c]) (h : RepCell (rd0 w) w v c) : Shows τ w t [v] [c] :=
  ⟨rfl, ht, fun j v' c' h1 h2 => by
    cases j with
    | zero => simp at h1 h2; subst h1 h2; exact h
    | succ j => simp at h1⟩
theorem shows_fields {fs : List (Nat × Nat × Nat)} {n : Nat} {o : Nat} {cs : List Value} (hc : contB o fs n = true) (hl : cs.length = n) (ho : o ≤ n)
    (h : ∀ (i : Nat) (f : Nat × Nat × Nat), fs[i]? = some f → ∃ ds, Shows τ w f.2.1 ((cs.drop f.1).take f.2.2) ds) :
    ∃ ds : List Cell, ds.length = (cs.drop o).length ∧ (∀ (i : Nat) (f : Nat × Nat × Nat), fs[i]? = some f → HasTy τ f.2.1 ((ds.drop (f.1 - o)).take f.2.2)) ∧ (∀ (i : Nat) (f : Nat × Nat × Nat), fs[i]? = some f → o ≤ f.1) ∧ ∀ (j : Nat) (v : Value) (c : Cell), (cs.drop o)[j]? = some v → ds[j]? = some c → RepCell (rd0 w) w v c := by
  induction fs generalizing o with
  | nil =>
    simp only [contB] at hc
    have := Nat.eq_of_beq_eq_true hc
    subst this
    refine ⟨[], by simp; omega, by simp, by simp, fun j v c h1 h2 => by simp at h2⟩
  | cons f fs ih =>
    simp only [contB, Bool.and_eq_true] at hc
    have e := Nat.eq_of_beq_eq_true hc.1
    subst e
    obtain ⟨d1, l1, t1, r1⟩ := h 0 f rfl
    have hle : f.1 + f.2.2 ≤ n := by
      have key : ∀ (fs : List (Nat × Nat × Nat)) (o : Nat), contB o fs n = true → o ≤ n := by
        intro fs
        induction fs with
        | nil => intro o h; simp only [contB] at h; have := Nat.eq_of_beq_eq_true h; omega
        | cons g fs ih => intro o h; simp only [contB, Bool.and_eq_true] at h; have := ih _ h.2; omega
      exact key _ _ hc.2
    obtain ⟨d2, l2, t2, o2, r2⟩ := ih hc.2 (by omega) fun i g hg => h (i + 1) g (by simpa using hg)
    have l1' : d1.length = f.2.2 := by rw [l1]; simp; omega
    have l2' : d2.length = n - (f.1 + f.2.2) := by rw [l2]; simp; omega
    refine ⟨d1 ++ d2, by simp; omega, fun i g hg => ?_, fun i g hg => ?_, fun j v c h1 h2 => ?_⟩
    · cases i with
      | zero =>
        simp at hg
        subst hg
        rw [Nat.sub_self, List.drop_zero, List.take_append_of_le_length (by omega), List.take_of_length_le (by omega)]
        exact t1
      | succ i =>
        have hg' : fs[i]? = some g := by simpa using hg
        have ho := o2 i g hg'
        have ht := t2 i g hg'
        rw [List.drop_append, List.drop_of_length_le (show d1.length ≤ g.1 - f.1 by omega), List.nil_append, l1', show g.1 - f.1 - f.2.2 = g.1 - (f.1 + f.2.2) by omega]
        exact ht
    · cases i with
      | zero => simp at hg; subst hg; exact Nat.le_refl _
      | succ i => have := o2 i g (by simpa using hg); omega
    · by_cases hj : j < f.2.2
      · rw [List.getElem?_append_left (by omega)] at h2
        exact r1 j v c (by rw [List.getElem?_take_of_lt hj]; exact h1) h2
      · rw [List.getElem?_append_right (by omega), l1'] at h2
        refine r2 (j - f.2.2) v c ?_ h2
        rw [List.getElem?_drop] at h1 ⊢
        rw [← h1]; congr 1; omega
theorem shows_of (hS : closedB P τ S = true) : ∀ (fuel : Nat) (t : Nat) (cs : List Value) (x : DataW H × List MemPlace), S.contains t = true → DataW.trod enc P w base (fun _ => true) held fuel t cs = some x → ∃ ds, Shows τ w t cs ds := by
  intro fuel
  induction fuel with
  | zero => intro t cs x _ h; simp [DataW.trod] at h
  | succ fuel ih =>
    intro t cs x htS h
    have hd : dB P t (tyAt τ t) = true ∧ kidsB S (tyAt τ t) = true := by
      have := List.all_eq_true.1 hS t (by simpa using htS)
      simpa using this
    obtain ⟨hd, hk⟩ := hd
    cases hi : tyAt τ t with
    | bad => rw [hi] at hd; simp [dB] at hd
    | ar n len e sz zs => rw [hi] at hd; simp [dB] at hd
    | one z =>
      rw [hi] at hd
      cases z with
      | bool =>
        have hu := dB_bool hd
        obtain ⟨b, rfl⟩ : ∃ b, cs = [.bool b] := by
          unfold DataW.trod at h
          rw [hu] at h
          split at h <;> simp_all
        exact ⟨_, shows_one (.bool hi b) (.bool b)⟩
      | int k =>
        have hu := dB_int hd
        obtain ⟨z, rfl, _, hw⟩ := DataW.trod_int hu h
        exact ⟨_, shows_one (.int hi z) (.int k z hw)⟩
      | str =>
        have hu := dB_str hd
        obtain ⟨s, rfl, _, hs⟩ := DataW.trod_string hu h
        exact ⟨_, shows_one (.str hi s) (.str s hs)⟩
      | nil => simp [dB] at hd
      | u => simp [dB] at hd
    | sl e n b =>
      rw [hi] at hd hk
      obtain ⟨hu, hcn, hn0⟩ := dB_sl hd
      rcases DataW.trod_slice hu h with ⟨rfl, _⟩ | ⟨a, len, cap, elems, rest, m, hm', rfl, rfl, hb, hl, hmx, hlen, hel, hsp, hns⟩
      · exact ⟨[.list []], shows_one (.sl hi (by simp)) (.list none 0 [] n (fun _ _ => undef) (fun _ => rfl) (Nat.le_refl _) (by unfold maxLen; omega) (by simp) (by simp) (by simp))⟩
      · have hfm : m = fuel := by omega
        subst hfm
        have each : ∀ i, i < len → ∃ ds cs', w.cells? base (a.add (i * n)) n = some cs' ∧ Shows τ w e cs' ds := fun i hil => by
          have h1 := hel i hil
          rw [List.getElem?_eq_getElem (by omega)] at h1
          obtain ⟨cs', h2, h3⟩ := Option.bind_eq_some_iff.1 h1
          obtain ⟨ds, hds⟩ := ih e cs' _ hk h3
          rw [hcn] at h2
          exact ⟨ds, cs', h2, hds⟩
        obtain ⟨rowf, hrow⟩ := choose_lt each
        have hRl : ((List.range len).map rowf).length = len := by simp
        have hlenr : ∀ i, i < len → (rowf i).length = n := fun i hil => by
          obtain ⟨cs', h1, h2⟩ := hrow i hil
          rw [h2.1, (World.cells?_some h1).2.1]
        have hspot : len = 0 ∨ ∃ b o, a = ⟨b, o, none⟩ := by
          rcases Nat.eq_zero_or_pos len with h0 | h0
          · exact .inl h0
          · obtain ⟨cs', h1, h2⟩ := hrow 0 h0
            obtain ⟨_, hcl, hat⟩ := World.cells?_some h1
            have := hat 0 hn0
            rw [List.getElem?_eq_getElem (by omega), Nat.zero_mul] at this
            exact .inr (cell_spot this)
        refine ⟨[.list ((List.range len).map rowf)], shows_one (.sl hi fun row hr => ?_) ?_⟩
        · obtain ⟨i, hi', rfl⟩ := List.mem_map.1 hr
          obtain ⟨cs', _, h2⟩ := hrow i (by simpa using hi')
          exact h2.2.1
        · rcases hspot with h0 | ⟨b, o, rfl⟩
          · subst h0
            exact .list (some a) cap [] n (fun _ _ => undef) (fun _ => rfl) (by simp) hmx (by simp) (by simp) (by simp)
          · have hcell : ∀ i j, i < len → j < n → ∃ v, w.cell? ⟨b, o + (i * n + j), none⟩ = some v ∧ ∀ x, (rowf i)[j]? = some x → RepCell (rd0 w) w v x := fun i j hil hj => by
              obtain ⟨cs', h1, h2⟩ := hrow i hil
              obtain ⟨_, hcl, hat⟩ := World.cells?_some h1
              have h3 := hat j hj
              rw [List.getElem?_eq_getElem (by omega), Addr.add_lit, Addr.add_lit, Nat.add_assoc] at h3
              exact ⟨_, h3, fun x hx => h2.2.2 j _ x (List.getElem?_eq_getElem (by omega)) hx⟩
            have hR := RepCell.list (Rd := rd0 w) (w := w) (some ⟨b, o, none⟩) cap ((List.range len).map rowf) n (fun i j => (w.cell? ⟨b, o + (i * n + j), none⟩).getD undef) (fun h => by cases h) (by rw [hRl]; exact hl) hmx (fun row hr => by
                obtain ⟨i, hi', rfl⟩ := List.mem_map.1 hr
                exact hlenr i (by simpa using hi')) (fun i j h1 h2 => by
                obtain ⟨v, hv, _⟩ := hcell i j (by omega) h2
                exact ⟨b, o, rfl, by unfold rd0; rw [hv]; rfl, by rw [hv]; rfl⟩) (fun i j row x h1 h2 => by
                have hil : i < len := by have := (List.getElem?_eq_some_iff.1 h1).1; omega
                simp [hil] at h1
                subst h1
                have hj : j < n := by have := (List.getElem?_eq_some_iff.1 h2).1; have := hlenr i hil; omega
                obtain ⟨v, hv, hx⟩ := hcell i j hil hj
                rw [hv]; exact hx x h2)
            rw [hRl] at hR
            exact hR
    | st n fs zs =>
      rw [hi] at hd hk
      simp only [dB] at hd
      obtain ⟨fields, hu, hfs, hcn, hct⟩ : ∃ fields, P.underlying t = some (.struct fields) ∧ fields.toList.map (fun f => (f.offset, f.type, P.cellsOf f.type)) = fs ∧ P.cellsOf t = n ∧ contB 0 fs n = true := by
        split at hd
        · rename_i fields h'
          simp only [Bool.and_eq_true] at hd
          exact ⟨fields, h', of_decide_eq_true hd.1.1, Nat.eq_of_beq_eq_true hd.1.2, hd.2⟩
        · cases hd
      obtain ⟨ys, m, hm, _, hcl, hyl, hf⟩ := DataW.trod_struct hu h
      have hfm : m = fuel := by omega
      subst hfm
      obtain ⟨ds, q1, q2, q3, q4⟩ := shows_fields (τ := τ) (w := w) (o := 0) (cs := cs) hct (by omega) (Nat.zero_le _) fun i f hfi => by
        rw [← hfs, List.getElem?_map] at hfi
        cases hx : fields.toList[i]? with
        | none => rw [hx] at hfi; cases hfi
        | some g =>
          rw [hx] at hfi
          simp at hfi
          subst hfi
          have hg : fields[i]? = some g := by simpa using hx
          have h1 := hf i g hg
          have hil : i < ys.length := by have := (Array.getElem?_eq_some_iff.1 hg).1; omega
          rw [List.getElem?_eq_getElem hil] at h1
          refine ih g.type _ _ ?_ h1
          have := List.all_eq_true.1 (show fs.all (fun f => S.contains f.2.1) = true from hk) (g.offset, g.type, P.cellsOf g.type) (by rw [← hfs]; exact List.mem_map.2 ⟨g, List.mem_of_getElem? hx, rfl⟩)
          exact this
      refine ⟨ds, by simpa using q1, .st hi (by simp at q1; omega) fun i f hfi => ?_, fun j v c h1 h2 => q4 j v c (by simpa using h1) h2⟩
      have := q2 i f hfi
      simpa using this
end
/-- Where a law begins. -/
def g0 (w : World) : Gh := ⟨fun _ => none, fun _ => 0, rd0 w, none, (none, 0, 0, fun _ => 0)⟩
section
variable {H : Type} {enc : TypeId × Value → H} {P : Program} {w : World} {base : Nat} {held : Bool} {τ : List TyI} {S : List Nat} {T : TypeId}
theorem open_one (hS : closedB P τ S = true) {t : Nat} {v : Value} {d : DataW H} {p : List MemPlace} (ht : S.contains t = true) (h1 : (tyAt τ t).isOne = true) (hτ : tabB P 0 τ = true) {r : Reach} {b0 : Nat} (hv : Value.okWide P w r b0 t v) (h : DataW.Trod enc P w base (fun _ => true) held t v d p) : ∃ c, HasTy τ t [c] ∧ RepSV P (g0 w) w v (.one (.d c)) := by
  obtain ⟨fuel, hf⟩ := h
  obtain ⟨ds, q1, q2, q3⟩ := shows_of hS fuel t _ _ ht hf
  have hone : ∃ c, ds = [c] := by
    cases q2 with
    | bool h b => exact ⟨_, rfl⟩
    | int h n => exact ⟨_, rfl⟩
    | str h s => exact ⟨_, rfl⟩
    | sl h hr => exact ⟨_, rfl⟩
    | st h hl hf => rw [h] at h1; cases h1
  obtain ⟨c, rfl⟩ := hone
  have hna : ∀ cs, v ≠ .agg cs := fun cs e => by
    have hd : dB P t (tyAt τ t) = true := by
      have := List.all_eq_true.1 hS t (by simpa using ht)
      simp only [Bool.and_eq_true] at this
      exact this.1
    subst e
    cases q2 with
    | bool h b => rw [h] at hd; obtain ⟨b, hb⟩ := okWide_bool (dB_bool hd) hv; cases hb
    | int h n => rw [h] at hd; obtain ⟨b, hb⟩ := okWide_int (dB_int hd) hv; cases hb
    | str h s => rw [h] at hd; obtain ⟨b, hb⟩ := okWide_string (dB_str hd) hv; cases hb
    | sl h hr => rw [h] at hd; obtain ⟨b, b2, b3, hb⟩ := okWide_slice (dB_sl hd).1 hv; cases hb
    | st h hl hf => rw [h] at h1; cases h1
  have hcs : v.cells.toList = [v] := by
    cases v <;> first | rfl | (exact absurd rfl (hna _))
  exact ⟨c, q2, .one (.d (q3 0 v c (by rw [hcs]; rfl) rfl))⟩
theorem open_agg (hS : closedB P τ S = true) {t n : Nat} {fs : List (Nat × Nat × Nat)} {zs : List Z} {v : Value} {d : DataW H} {p : List MemPlace} (ht : S.contains t = true) (h1 : tyAt τ t = .st n fs zs) {r : Reach} {b0 : Nat} (hv : Value.okWide P w r b0 t v) (h : DataW.Trod enc P w base (fun _ => true) held t v d p) : ∃ cs, HasTy τ t cs ∧ RepSV P (g0 w) w v (.agg (cs.map .d)) := by
  obtain ⟨fuel, hf⟩ := h
  obtain ⟨ds, q1, q2, q3⟩ := shows_of hS fuel t _ _ ht hf
  have hd : dB P t (tyAt τ t) = true := by
    have := List.all_eq_true.1 hS t (by simpa using ht)
    simp only [Bool.and_eq_true] at this
    exact this.1
  obtain ⟨fields, hu⟩ : ∃ fields, P.underlying t = some (.struct fields) := by
    rw [h1] at hd
    simp only [dB] at hd
    split at hd
    · exact ⟨_, by assumption⟩
    · cases hd
  obtain ⟨cs, rfl, hsz⟩ := okWide_struct hu hv
  have hcs : (Value.agg cs).cells = cs := rfl
  rw [hcs] at q1 q3
  refine ⟨ds, q2, .agg cs _ (by simp at q1 ⊢; omega) fun j v c h1 h2 => ?_⟩
  rw [List.getElem?_map] at h2
  cases hx : ds[j]? with
  | none => rw [hx] at h2; cases h2
  | some x => rw [hx] at h2; simp at h2; subst h2; exact .d (q3 j v x (by simpa using h1) hx)
/-- A law. -/
def IL (P : Program) (T : TypeId) (f : FuncId) (args : List SV) (post : SV → Prop) : Prop :=
  Enters P f ∧ ∀ (g : Gh) (w : World) (vals : Array Value), (∀ r, g.β r = none) → g.tp = none → GI T (g.org w) g [] w → vals.size = args.length → (∀ (j : Nat) (v : Value) (sv : SV), vals[j]? = some v → args[j]? = some sv → RepSV P g w v sv) →
    Calls P f vals w fun e w' => ∃ v sv g', post sv ∧ sv.pl = true ∧ e = .returned v ∧ RepSV P g' w' v sv ∧ ExtC T g g' w w'
theorem il_of {f : FuncId} {fn : Func} {c : Code} {args : List SV} {post : SV → Prop} (hτ : tabB P 0 τ = true) (hf : P.funcs[f]? = some fn) (hname : (fn.name == "runtime.NumGoroutine") = false) (hb : fn.body = some c) (hn : Nat.ble args.length fn.ntmps = true)
    (h : ∀ w0, w0.tp = none → iwp P T fn.ntmps w0 c (RetQ τ fn post) ⟨argF 0 args, []⟩) : IL P T f args post := by
  refine ⟨enters_of hf hname hb, fun g w vals hβ htp hgi hsz hrep => calls_of_wp hf hb ?_⟩
  have hle := Nat.le_of_ble_eq_true hn
  have hs : Sim P T fn.ntmps (g.org w) g ⟨argF 0 args, []⟩ { tmps := vals ++ Array.replicate (fn.ntmps - vals.size) undef, defers := [] } w := by
    refine ⟨hgi, rfl, by simp; omega, fun x => ?_, fun r => trivial⟩
    show RepSV P g w _ (getF (argF 0 args) x)
    rw [argF_get]
    simp only [Nat.zero_le, if_true, Nat.sub_zero]
    cases hx : args[x]? with
    | none => exact .u _
    | some sv =>
      have hlt := (List.getElem?_eq_some_iff.1 hx).1
      have hv : vals[x]? = some (vals[x]'(by omega)) := Array.getElem?_eq_getElem (by omega)
      have := hrep x _ sv hv hx
      simpa [Array.getElem_append, show x < vals.size by omega, show x < vals.size + (fn.ntmps - vals.size) by omega] using this
  refine wp_mono (h (g.org w) htp g _ w hs) fun e a' w' ⟨g', s', ⟨he, raw, sv, hr1, hr2, hp⟩, hs'⟩ => ?_
  obtain ⟨v, hrun, hrv⟩ := results_run (tp := g.tp) (tl := g.tl) hτ hs' hr1 hr2
  have hext : ExtC T g (g'.all s'.H w' g.tp g.tl) w w' := by
    refine ⟨fun b o h => .inl (hs'.gi.org.rd0 b o h), fun b o h => ?_, hs'.gi.keep, fun tb htb => ?_⟩
    · have hlt := (hs'.all_rd h).1
      rcases h with h | ⟨⟨r, hl, hb⟩, _⟩
      · rcases hs'.gi.org.new0 b o h with h | h
        · exact .inl h
        · exact .inr ⟨h, hlt⟩
      · exact .inr ⟨(hs'.gi.bd r b hl hb).1, hlt⟩
    · obtain ⟨e1, e2⟩ := hs'.gi.org.tp0 tb htb
      have := (hs'.gi.tape tb e1).2
      rw [e2] at this
      exact this.keep hs'.all_fut rfl
  rcases he with rfl | rfl
  · exact ⟨hs'.dn, v, hrun, v, sv, _, hp, hr2.pl, rfl, hrv, hext⟩
  · exact ⟨hs'.dn, v, hrun, v, sv, _, hp, hr2.pl, rfl, hrv, hext⟩
theorem il_wk (k : Wk) {f : FuncId} {fn : Func} {c : Code} {args : List SV} {post : SV → Prop} (hf : k.P.funcs[f]? = some fn) (hN : fn.ntmps = k.N) (hname : (fn.name == "runtime.NumGoroutine") = false) (hb : fn.body = some c) (hn : Nat.ble args.length k.N = true)
    (h : ∀ w0, w0.tp = none → wk k w0 c (RetQ k.τ fn post) ⟨argF 0 args, []⟩) : IL k.P k.T f args post :=
  il_of k.ok hf hname hb (by rw [hN]; exact hn) fun w0 h0 => by rw [hN]; exact wkO (h w0 h0)
/-- The call of a law. -/
theorem law_calls {f : FuncId} {args : List SV} {vals : Array Value} (h : IL P T f args (fun v => v = .one (.d (.bool true)))) (hsz : vals.size = args.length) (hrep : ∀ (j : Nat) (v : Value) (sv : SV), vals[j]? = some v → args[j]? = some sv → RepSV P (g0 w) w v sv) :
    Calls P f vals w fun e w' => e = .returned (.bool true) ∧ Below w.heap.size w w' := by
  have hgi : GI T ((g0 w).org w) (g0 w) [] w := by
    refine ⟨fun r r' b h => (by cases h), fun r b h => (by cases h), fun b o h => ⟨?_, (by simp [g0]), fun r h => (by cases h)⟩, Keep.refl _ _, fun tb h => (by simp [g0] at h), ⟨fun _ _ h => h, fun _ _ h => .inl h, fun tb h => (by simp [g0, Gh.org] at h), fun tb h => (by simp [g0] at h)⟩⟩
    simp only [g0, rd0] at h
    unfold World.cell? at h
    cases hh : w.heap[b]? with
    | none => simp [hh] at h
    | some o => exact (Array.getElem?_eq_some_iff.1 hh).1
  refine (h.2 (g0 w) w vals (fun _ => rfl) rfl hgi hsz hrep).mono fun e w' ⟨v, sv, g', h1, h2, h3, h4, h5⟩ => ?_
  subst h1
  subst h3
  refine ⟨?_, h5.keep.to_below fun k hk => ?_⟩
  · cases h4 with | one h => cases h with | d h => rw [h.sval rfl]
  · rcases hk with hk | hk
    · cases hk
    · exact hk
theorem exists_map {α β : Type} {f : α → β} {rows : List β} (h : ∀ row ∈ rows, ∃ r, row = f r) : ∃ l : List α, rows = l.map f := by
  induction rows with
  | nil => exact ⟨[], rfl⟩
  | cons x rows ih =>
    obtain ⟨r, rfl⟩ := h x (by simp)
    obtain ⟨l, rfl⟩ := ih fun y hy => h y (by simp [hy])
    exact ⟨r :: l, rfl⟩
theorem HasTy.int_ {t : Nat} {k : IntKind} {cs : List Cell} (h : HasTy τ t cs) (ht : tyAt τ t = .one (.int k)) : ∃ n, cs = [.int k n] := by
  cases h with
  | bool h b => rw [h] at ht; cases ht
  | int h n => rw [h] at ht; cases ht; exact ⟨n, rfl⟩
  | str h s => rw [h] at ht; cases ht
  | sl h hr => rw [h] at ht; cases ht
  | st h hl hf => rw [h] at ht; cases ht
theorem HasTy.bool_ {t : Nat} {cs : List Cell} (h : HasTy τ t cs) (ht : tyAt τ t = .one .bool) : ∃ n, cs = [.bool n] := by
  cases h with
  | bool h b => exact ⟨b, rfl⟩
  | int h n => rw [h] at ht; cases ht
  | str h s => rw [h] at ht; cases ht
  | sl h hr => rw [h] at ht; cases ht
  | st h hl hf => rw [h] at ht; cases ht
theorem HasTy.str_ {t : Nat} {cs : List Cell} (h : HasTy τ t cs) (ht : tyAt τ t = .one .str) : ∃ n, cs = [.str n] := by
  cases h with
  | bool h b => rw [h] at ht; cases ht
  | int h n => rw [h] at ht; cases ht
  | str h s => exact ⟨s, rfl⟩
  | sl h hr => rw [h] at ht; cases ht
  | st h hl hf => rw [h] at ht; cases ht
theorem HasTy.sl_ {t e sz by_ : Nat} {cs : List Cell} (h : HasTy τ t cs) (ht : tyAt τ t = .sl e sz by_) : ∃ rows, cs = [.list rows] ∧ ∀ row ∈ rows, HasTy τ e row := by
  cases h with
  | bool h b => rw [h] at ht; cases ht
  | int h n => rw [h] at ht; cases ht
  | str h s => rw [h] at ht; cases ht
  | sl h hr => rw [h] at ht; cases ht; exact ⟨_, rfl, hr⟩
  | st h hl hf => rw [h] at ht; cases ht
theorem HasTy.st_ {t n : Nat} {fs : List (Nat × Nat × Nat)} {zs : List Z} {cs : List Cell} (h : HasTy τ t cs) (ht : tyAt τ t = .st n fs zs) : cs.length = n ∧ ∀ (i : Nat) (f : Nat × Nat × Nat), fs[i]? = some f → HasTy τ f.2.1 ((cs.drop f.1).take f.2.2) := by
  cases h with
  | bool h b => rw [h] at ht; cases ht
  | int h n => rw [h] at ht; cases ht
  | str h s => rw [h] at ht; cases ht
  | sl h hr => rw [h] at ht; cases ht
  | st h hl hf => rw [h] at ht; cases ht; exact ⟨hl, hf⟩
/-- A slice of rows that are f of something. -/
theorem HasTy.map_ {α : Type} {f : α → List Cell} {t e sz by_ : Nat} {cs : List Cell} (h : HasTy τ t cs) (ht : tyAt τ t = .sl e sz by_) (hf : ∀ row, HasTy τ e row → ∃ x, row = f x) : ∃ l : List α, cs = [.list (l.map f)] := by
  obtain ⟨rows, rfl, hr⟩ := h.sl_ ht
  obtain ⟨l, rfl⟩ := exists_map fun row hrow => hf row (hr row hrow)
  exact ⟨l, rfl⟩
inductive All2 {α β : Type _} (R : α → β → Prop) : List α → List β → Prop where
  | nil : All2 R [] []
  | cons {a b l l'} (h : R a b) (hl : All2 R l l') : All2 R (a :: l) (b :: l')
theorem reps_of {P : Program} {g : Gh} {w : World} {vals : Array Value} {args : List SV} (h : All2 (RepSV P g w) vals.toList args) : ∀ (j : Nat) (v : Value) (sv : SV), vals[j]? = some v → args[j]? = some sv → RepSV P g w v sv := by
  obtain ⟨l⟩ := vals
  simp only at h
  induction h with
  | nil => intro j v sv h1 h2; simp at h2
  | cons h hl ih =>
    intro j v sv h1 h2
    cases j with
    | zero => simp at h1 h2; subst h1 h2; exact h
    | succ j => exact ih j v sv (by simpa using h1) (by simpa using h2)
end
end Go.Proofs.Ytbnmcdnkeipdhaa
