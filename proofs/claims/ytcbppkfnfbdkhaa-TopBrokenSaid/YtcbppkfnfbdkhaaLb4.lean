/- Texts of the library, put together. -/
import Derived.Test.YtcbppkfnfbdkhaaLb3
import Derived.Deep.Upon
import Derived.Laws.Strings3
/- Calls that change blocks they were handed, and hand lists back. -/
set_option linter.all false
set_option maxRecDepth 20000
namespace Go.Proofs.Ytcbppkfnfbdkhaa
open Go.RowKit Go.Shelf
def CV.upn (ρ : List Nat) : CV → CV
  | .d x => .d x
  | .nil => .nil
  | .sl r n sz => .sl (ρ.getD r 0) n sz
  | .ref r off => .ref (ρ.getD r 0) off
  | .u => .u
  | .el _ _ _ _ => .u
  | .slp _ _ _ _ => .u
  | .rp _ => .u
  | .clo _ _ => .u
  | .fn _ => .u
  | .tape => .u
def CV.okn (m : Nat) (k : Bool) : CV → Bool
  | .d _ => true
  | .nil => true
  | .sl r _ _ => Nat.blt r m && !(k && Nat.beq r 0)
  | .ref r _ => Nat.blt r m
  | .u => true
  | .el _ _ _ _ => false
  | .slp _ _ _ _ => false
  | .rp _ => false
  | .clo _ _ => false
  | .fn _ => false
  | .tape => false
def CV.oknL (m : Nat) (k : Bool) : List CV → Bool
  | [] => true
  | c :: l => c.okn m k && CV.oknL m k l
def CV.upnL (ρ : List Nat) : List CV → List CV
  | [] => []
  | c :: l => c.upn ρ :: CV.upnL ρ l
mutual
def SV.upn (ρ : List Nat) : SV → SV
  | .u => .u
  | .one c => .one (c.upn ρ)
  | .agg cs => .agg (CV.upnL ρ cs)
  | .tup vs => .tup (SV.upnL ρ vs)
def SV.upnL (ρ : List Nat) : List SV → List SV
  | [] => []
  | v :: l => v.upn ρ :: SV.upnL ρ l
end
mutual
def SV.okn (m : Nat) (k : Bool) : SV → Bool
  | .u => true
  | .one c => c.okn m k
  | .agg cs => CV.oknL m k cs
  | .tup vs => SV.oknL m k vs
def SV.oknL (m : Nat) (k : Bool) : List SV → Bool
  | [] => true
  | v :: l => v.okn m k && SV.oknL m k l
end
def VH.upn (ρ : List Nat) : VH → VH
  | .arr e sz rows => .arr e sz rows
  | .blk t cs => .blk t (CV.upnL ρ cs)
  | .gone => .gone
  | .pin _ _ => .gone
  | .tbl _ _ _ _ => .gone
def VH.okn (m : Nat) (k b : Bool) : VH → Bool
  | .arr _ _ _ => !b
  | .blk _ cs => CV.oknL m k cs
  | .gone => false
  | .pin _ _ => false
  | .tbl _ _ _ _ => false
def numH (i : Nat) : List VH → List (Nat × VH)
  | [] => []
  | h :: l => (i, h) :: numH (i + 1) l
def pinK (k : Bool) (u : Value) : List (Nat × VH) := bif k then [(1000, .pin u (.ref 0 0))] else []
theorem numH_get (hs : List VH) (B : List (Nat × VH)) (i r : Nat) : getH (numH i hs ++ B) r = if i ≤ r ∧ r < i + hs.length then hs.getD (r - i) .gone else getH B r := by
  induction hs generalizing i with
  | nil => rw [if_neg (by simp only [List.length_nil]; omega)]; rfl
  | cons h hs ih =>
    simp only [numH, List.cons_append, getH, beq_eq]
    by_cases e : i = r
    · subst e
      rw [decide_eq_true rfl, cond_true, if_pos (by simp), Nat.sub_self]; rfl
    · rw [decide_eq_false e, cond_false, ih]
      by_cases e2 : i + 1 ≤ r ∧ r < i + 1 + hs.length
      · rw [if_pos e2, if_pos (by simp; omega), show r - i = (r - (i + 1)) + 1 by omega]; rfl
      · rw [if_neg e2, if_neg (by simp; omega)]
theorem pinK_live (k : Bool) (u : Value) (r : Nat) : (getH (pinK k u) r).live = false := by
  cases k with
  | false => rfl
  | true =>
    simp only [pinK, cond_true, getH, beq_eq]
    by_cases e : 1000 = r <;> simp [e, VH.live]
theorem CV.oknL_get {m : Nat} {k : Bool} {cs : List CV} (h : CV.oknL m k cs = true) {j : Nat} {c : CV} (hj : cs[j]? = some c) : c.okn m k = true := by
  induction cs generalizing j with
  | nil => simp at hj
  | cons x cs ih =>
    simp only [CV.oknL, Bool.and_eq_true] at h
    cases j with
    | zero => simp at hj; subst hj; exact h.1
    | succ j => exact ih h.2 (by simpa using hj)
theorem SV.oknL_get {m : Nat} {k : Bool} {cs : List SV} (h : SV.oknL m k cs = true) {j : Nat} {c : SV} (hj : cs[j]? = some c) : c.okn m k = true := by
  induction cs generalizing j with
  | nil => simp at hj
  | cons x cs ih =>
    simp only [SV.oknL, Bool.and_eq_true] at h
    cases j with
    | zero => simp at hj; subst hj; exact h.1
    | succ j => exact ih h.2 (by simpa using hj)
theorem CV.upnL_get (ρ : List Nat) (cs : List CV) (j : Nat) : (CV.upnL ρ cs)[j]? = (cs[j]?).map (CV.upn ρ) := by
  induction cs generalizing j with
  | nil => rfl
  | cons x cs ih => cases j with
    | zero => rfl
    | succ j => simpa [CV.upnL] using ih j
theorem CV.upnL_len (ρ : List Nat) (cs : List CV) : (CV.upnL ρ cs).length = cs.length := by
  induction cs with
  | nil => rfl
  | cons x cs ih => simp [CV.upnL, ih]
theorem SV.upnL_get (ρ : List Nat) (cs : List SV) (j : Nat) : (SV.upnL ρ cs)[j]? = (cs[j]?).map (SV.upn ρ) := by
  induction cs generalizing j with
  | nil => rfl
  | cons x cs ih => cases j with
    | zero => rfl
    | succ j => simpa [SV.upnL] using ih j
theorem SV.upnL_len (ρ : List Nat) (cs : List SV) : (SV.upnL ρ cs).length = cs.length := by
  induction cs with
  | nil => rfl
  | cons x cs ih => simp [SV.upnL, ih]
structure Names (ρ : List Nat) (k : Bool) (gl gu : Gh) : Prop where
  β : ∀ i q, ρ[i]? = some q → gu.β q = gl.β i
  κ : ∀ i q, ρ[i]? = some q → (k = true → i ≠ 0) → gu.κ q = gl.κ i
theorem okn_sl {m : Nat} {k : Bool} {r n sz : Nat} (h : (CV.sl r n sz).okn m k = true) : r < m ∧ (k = true → r ≠ 0) := by
  simp only [CV.okn, Bool.and_eq_true, Bool.not_eq_true', beq_eq] at h
  refine ⟨blt_lt h.1, fun hk e => ?_⟩
  subst hk e
  simp at h
theorem getD_some {ρ : List Nat} {r : Nat} (h : r < ρ.length) : ρ[r]? = some (ρ.getD r 0) := by
  rw [List.getD_eq_getElem?_getD, List.getElem?_eq_getElem h]; rfl
theorem RepCV.down {P : Program} {gl gu : Gh} {w : World} {ρ : List Nat} {k : Bool} (hn : Names ρ k gl gu) (hR : gl.Rd = gu.Rd) {v : Value} {c : CV} (ho : c.okn ρ.length k = true) (h : RepCV P gu w v (c.upn ρ)) : RepCV P gl w v c := by
  cases c with
  | u => exact .u h.one
  | d x => cases h; rename_i h; exact .d (hR ▸ h)
  | nil => cases h; exact .nil
  | sl r n sz =>
    obtain ⟨o1, o2⟩ := okn_sl ho
    have hq := getD_some o1
    have e1 := hn.β _ _ hq
    have e2 := hn.κ _ _ hq o2
    rcases RepCV.sl_inv h with ⟨rfl, rfl, hb⟩ | ⟨b, hb, h1, h2, rfl⟩
    · exact .slv _ (e1.symm.trans hb)
    · have := RepCV.sl (P := P) (g := gl) (w := w) (r := r) (b := b) n sz (e1.symm.trans hb) (by rw [← e2]; exact h1) (by rw [← e2]; exact h2)
      rwa [← e2] at this
  | ref r off =>
    have o1 : r < ρ.length := blt_lt ho
    obtain ⟨b, hb, rfl⟩ := RepCV.ref_inv h
    exact .ref _ ((hn.β _ _ (getD_some o1)).symm.trans hb)
  | el _ _ _ _ => cases ho
  | slp _ _ _ _ => cases ho
  | rp _ => cases ho
  | clo _ _ => cases ho
  | fn _ => cases ho
  | tape => cases ho
theorem RepCV.upn {P : Program} {gl gu : Gh} {w : World} {ρ : List Nat} {k : Bool} (hn : Names ρ k gl gu) (hR : gl.Rd = gu.Rd) {v : Value} {c : CV} (ho : c.okn ρ.length k = true) (h : RepCV P gl w v c) : RepCV P gu w v (c.upn ρ) := by
  cases c with
  | u => exact .u h.one
  | d x => cases h; rename_i h; exact .d (hR ▸ h)
  | nil => cases h; exact .nil
  | sl r n sz =>
    obtain ⟨o1, o2⟩ := okn_sl ho
    have hq := getD_some o1
    have e1 := hn.β _ _ hq
    have e2 := hn.κ _ _ hq o2
    rcases h.sl_inv with ⟨rfl, rfl, hb⟩ | ⟨b, hb, h1, h2, rfl⟩
    · exact .slv _ (e1.trans hb)
    · have := RepCV.sl (P := P) (g := gu) (w := w) (r := ρ.getD r 0) (b := b) n sz (e1.trans hb) (by rw [e2]; exact h1) (by rw [e2]; exact h2)
      rwa [e2] at this
  | ref r off =>
    have o1 : r < ρ.length := blt_lt ho
    obtain ⟨b, hb, rfl⟩ := h.ref_inv
    exact .ref _ ((hn.β _ _ (getD_some o1)).trans hb)
  | el _ _ _ _ => cases ho
  | slp _ _ _ _ => cases ho
  | rp _ => cases ho
  | clo _ _ => cases ho
  | fn _ => cases ho
  | tape => cases ho
theorem RepSV.upn {P : Program} {gl gu : Gh} {w : World} {ρ : List Nat} {k : Bool} (hn : Names ρ k gl gu) (hR : gl.Rd = gu.Rd) {v : Value} {c : SV} (h : RepSV P gl w v c) (ho : c.okn ρ.length k = true) : RepSV P gu w v (c.upn ρ) := by
  induction h with
  | u v => exact .u v
  | one h => exact .one (h.upn hn hR ho)
  | agg vs cs hs h =>
    refine .agg vs _ (by rw [CV.upnL_len]; exact hs) fun j v c' h1 h2 => ?_
    rw [CV.upnL_get] at h2
    cases hc : cs[j]? with
    | none => rw [hc] at h2; cases h2
    | some c =>
      rw [hc] at h2; simp at h2; subst h2
      exact (h j v c h1 hc).upn hn hR (CV.oknL_get ho hc)
  | tup vs ss hs h ih =>
    refine .tup vs _ (by rw [SV.upnL_len]; exact hs) fun j v c' h1 h2 => ?_
    rw [SV.upnL_get] at h2
    cases hc : ss[j]? with
    | none => rw [hc] at h2; cases h2
    | some c =>
      rw [hc] at h2; simp at h2; subst h2
      exact ih j v c h1 hc (SV.oknL_get ho hc)
theorem HeapOK.down {P : Program} {gl gu : Gh} {w : World} {ρ : List Nat} {k : Bool} (hn : Names ρ k gl gu) (hR : gl.Rd = gu.Rd) {i q : Nat} {vh : VH} (hi : ρ[i]? = some q) {b : Bool} (hb : b = (k && Nat.beq i 0)) (ho : vh.okn ρ.length k b = true) (h : HeapOK P gu w q (vh.upn ρ)) : HeapOK P gl w i vh := by
  cases vh with
  | gone => cases ho
  | pin _ _ => cases ho
  | tbl _ _ _ _ => cases ho
  | blk t cs =>
    obtain ⟨bb, vals, h1, h2, h3, h4⟩ := h
    refine ⟨bb, vals, (hn.β _ _ hi).symm.trans h1, h2, by rw [h3, CV.upnL_len], fun j v c hv hc => ?_⟩
    exact RepCV.down hn hR (CV.oknL_get ho hc) (h4 j v (c.upn ρ) hv (by rw [CV.upnL_get, hc]; rfl))
  | arr e sz rows =>
    have e1 := hn.β _ _ hi
    have e2 := hn.κ _ _ hi fun hk e => by subst hk e; subst hb; cases ho
    obtain ⟨h0, h⟩ := h
    refine ⟨h0, ?_⟩
    rcases h with ⟨h1, h2⟩ | ⟨bb, vals, h1, h2, h3, h4, h5, h6⟩
    · exact .inl ⟨e1.symm.trans h1, h2⟩
    · refine .inr ⟨bb, vals, e1.symm.trans h1, h2, by rw [← e2]; exact h3, by rw [← e2]; exact h4, by rw [← e2]; exact h5, fun i j row x hi hj => ?_⟩
      obtain ⟨u, hu, hr⟩ := h6 i j row x hi hj
      exact ⟨u, hu, hR ▸ hr⟩
theorem HeapOK.upn {P : Program} {gl gu : Gh} {w : World} {ρ : List Nat} {k : Bool} (hn : Names ρ k gl gu) (hR : gl.Rd = gu.Rd) {i q : Nat} {vh : VH} (hi : ρ[i]? = some q) {b : Bool} (hb : b = (k && Nat.beq i 0)) (ho : vh.okn ρ.length k b = true) (h : HeapOK P gl w i vh) : HeapOK P gu w q (vh.upn ρ) := by
  cases vh with
  | gone => cases ho
  | pin _ _ => cases ho
  | tbl _ _ _ _ => cases ho
  | blk t cs =>
    obtain ⟨bb, vals, h1, h2, h3, h4⟩ := h
    refine ⟨bb, vals, (hn.β _ _ hi).trans h1, h2, by rw [h3, CV.upnL_len], fun j v c' hv hc' => ?_⟩
    rw [CV.upnL_get] at hc'
    cases hc : cs[j]? with
    | none => rw [hc] at hc'; cases hc'
    | some c =>
      rw [hc] at hc'; simp at hc'; subst hc'
      exact (h4 j v c hv hc).upn hn hR (CV.oknL_get ho hc)
  | arr e sz rows =>
    have e1 := hn.β _ _ hi
    have e2 := hn.κ _ _ hi fun hk e => by subst hk e; subst hb; cases ho
    obtain ⟨h0, h⟩ := h
    refine ⟨h0, ?_⟩
    rcases h with ⟨h1, h2⟩ | ⟨bb, vals, h1, h2, h3, h4, h5, h6⟩
    · exact .inl ⟨e1.trans h1, h2⟩
    · refine .inr ⟨bb, vals, e1.trans h1, h2, by rw [e2]; exact h3, by rw [e2]; exact h4, by rw [e2]; exact h5, fun i j row x hi hj => ?_⟩
      obtain ⟨u, hu, hr⟩ := h6 i j row x hi hj
      exact ⟨u, hu, hR ▸ hr⟩
theorem VH.okn_live {m : Nat} {k b : Bool} {vh : VH} (h : vh.okn m k b = true) : vh.live = true := by cases vh <;> first | rfl | cases h
theorem VH.upn_live {ρ : List Nat} {vh : VH} {m : Nat} {k b : Bool} (h : vh.okn m k b = true) : (vh.upn ρ).live = true := by cases vh <;> first | rfl | cases h
def IChJ (j : Nat) (P : Program) (T : TypeId) (f : FuncId) (k : Bool) (args : List SV) (hs : List VH) (post : SV → List VH → Prop) : Prop :=
  Enters P f ∧ ∀ (w0 : Org) (g : Gh) (w : World) (vals : Array Value), w0.w = w → GI T w0 g (numH 0 hs ++ pinK k (vals.getD j undef)) w → (∀ r, HeapOK P g w r (getH (numH 0 hs ++ pinK k (vals.getD j undef)) r)) → vals.size = args.length → (∀ (i : Nat) (v : Value) (sv : SV), vals[i]? = some v → args[i]? = some sv → RepSV P g w v sv) →
    Calls P f vals w fun e w' => ∃ v sv hs' g', post sv hs' ∧ e = .returned v ∧ RepSV P g' w' v sv ∧ GI T w0 g' (numH 0 hs' ++ pinK k (vals.getD j undef)) w' ∧ ∀ r, HeapOK P g' w' r (getH (numH 0 hs' ++ pinK k (vals.getD j undef)) r)
abbrev ICh (P : Program) (T : TypeId) (f : FuncId) (k : Bool) (args : List SV) (hs : List VH) (post : SV → List VH → Prop) : Prop := IChJ 0 P T f k args hs post
section
variable {P : Program} {T : TypeId} {N : Nat} {w0 : Org} {g g' : Gh} {s s' : St} {a : Act} {w w' : World} {o : Oper} {τ : List TyI}
def RetQh (τ : List TyI) (fn : Func) (k : Bool) (u : Value) (post : SV → List VH → Prop) (e : Exit) (s : St) : Prop :=
  (e = .ret ∨ e = .normal) ∧ ∃ vs F' hs' raw sv, Fits vs s ⟨F', numH 0 hs' ++ pinK k u⟩ ∧ ResL τ ⟨F', numH 0 hs' ++ pinK k u⟩ fn.results.toList raw ∧ ResO raw sv ∧ post sv hs'
theorem ich_of {j : Nat} {f : FuncId} {fn : Func} {cd : Code} {k : Bool} {args : List SV} {hs : List VH} {post : SV → List VH → Prop} (hτ : tabB P 0 τ = true) (hf : P.funcs[f]? = some fn) (hname : (fn.name == "runtime.NumGoroutine") = false) (hb : fn.body = some cd) (hn : Nat.ble args.length fn.ntmps = true)
    (h : ∀ w0 u, iwp P T fn.ntmps w0 cd (RetQh τ fn k u post) ⟨argF 0 args, numH 0 hs ++ pinK k u⟩) : IChJ j P T f k args hs post := by
  refine ⟨enters_of hf hname hb, fun w0 g w vals hw0 hgi hH hsz hrep => calls_of_wp hf hb ?_⟩
  have hle := Nat.le_of_ble_eq_true hn
  have hs : Sim P T fn.ntmps w0 g ⟨argF 0 args, numH 0 hs ++ pinK k (vals.getD j undef)⟩ { tmps := vals ++ Array.replicate (fn.ntmps - vals.size) undef, defers := [] } w := by
    refine ⟨hgi, rfl, by simp; omega, fun x => ?_, hH⟩
    show RepSV P g w _ (getF (argF 0 args) x)
    rw [argF_get]
    simp only [Nat.zero_le, if_true, Nat.sub_zero]
    cases hx : args[x]? with
    | none => exact .u _
    | some sv =>
      have hlt := (List.getElem?_eq_some_iff.1 hx).1
      have hv : vals[x]? = some (vals[x]'(by omega)) := Array.getElem?_eq_getElem (by omega)
      have := hrep x _ sv hv hx
      simpa [Array.getElem_append, show x < vals.size by omega, show x < vals.size + (fn.ntmps - vals.size) by omega] using this
  refine wp_mono (h w0 (vals.getD j undef) g _ w hs) fun e a' w' ⟨g', s', ⟨he, vs, F', hs', raw, sv, hfit, hr1, hr2, hp⟩, hs1⟩ => ?_
  have hs2 := hs1.fits hfit
  obtain ⟨v, hrun, hrv⟩ := results_runO hτ hs2 hr1 hr2
  rcases he with rfl | rfl
  · exact ⟨hs1.dn, v, hrun, v, sv, hs', _, hp, rfl, hrv, hs2.gi, hs2.hH⟩
  · exact ⟨hs1.dn, v, hrun, v, sv, hs', _, hp, rfl, hrv, hs2.gi, hs2.hH⟩
end
end Go.Proofs.Ytcbppkfnfbdkhaa
/- Calls that change blocks they were handed, and hand lists back: the caller. -/
set_option linter.all false
set_option maxRecDepth 20000
namespace Go.Proofs.Ytcbppkfnfbdkhaa
open Go.RowKit Go.Shelf
def inv : List Nat → Nat → Nat → Option Nat
  | [], _, _ => none
  | q :: l, i, x => if q = x then some i else inv l (i + 1) x
theorem inv_get {l : List Nat} {i x j : Nat} (h : inv l i x = some j) : i ≤ j ∧ l[j - i]? = some x := by
  induction l generalizing i with
  | nil => cases h
  | cons q l ih =>
    rw [inv] at h
    split at h
    · rename_i e; injection h with h; subst h e; simp
    · obtain ⟨h1, h2⟩ := ih h
      refine ⟨by omega, ?_⟩
      rw [show j - i = (j - (i + 1)) + 1 by omega, List.getElem?_cons_succ]; exact h2
theorem inv_of {l : List Nat} (hn : l.Nodup) {i x j : Nat} (h : l[j]? = some x) : inv l i x = some (i + j) := by
  induction l generalizing i j with
  | nil => simp at h
  | cons q l ih =>
    rw [List.nodup_cons] at hn
    rw [inv]
    cases j with
    | zero => simp at h; rw [if_pos h]; rfl
    | succ j =>
      rw [List.getElem?_cons_succ] at h
      rw [if_neg (fun e => by subst e; exact hn.1 (List.mem_of_getElem? h)), ih hn.2 h]
      exact congrArg some (by omega)
theorem inv_none {l : List Nat} {i x : Nat} (h : inv l i x = none) : x ∉ l := by
  induction l generalizing i with
  | nil => simp
  | cons q l ih =>
    rw [inv] at h
    split at h
    · cases h
    · rename_i e
      intro hm
      rcases List.mem_cons.1 hm with hm | hm
      · exact e hm.symm
      · exact ih h hm
def upsH (σ : List Nat) : List Nat → List VH → List (Nat × VH)
  | q :: ρ, h :: hh => (q, h.upn σ) :: upsH σ ρ hh
  | [], _ => []
  | _ :: _, [] => []
theorem upsH_get (σ ρ : List Nat) (hh : List VH) (B : List (Nat × VH)) (hl : hh.length = ρ.length) (i x : Nat) : getH (upsH σ ρ hh ++ B) x = match inv ρ i x with | some j => (hh.getD (j - i) .gone).upn σ | none => getH B x := by
  induction ρ generalizing hh i with
  | nil => cases hh with
    | nil => rfl
    | cons _ _ => simp at hl
  | cons q ρ ih =>
    cases hh with
    | nil => simp at hl
    | cons h hh =>
      simp only [upsH, List.cons_append, getH, beq_eq, inv]
      by_cases e : q = x
      · simp [e]
      · rw [decide_eq_false e, cond_false, ih hh (by simpa using hl) (i + 1), if_neg e]
        cases hi : inv ρ (i + 1) x with
        | none => rfl
        | some j =>
          have := (inv_get hi).1
          simp only []
          rw [show j - i = (j - (i + 1)) + 1 by omega]; rfl
def Gh.lendN (g : Gh) (ρ : List Nat) : Gh := ⟨fun i => (ρ[i]?).bind g.β, fun i => match ρ[i]? with | some q => g.κ q | none => g.κ i, g.Rd, g.tp, g.tl, fun _ => none⟩
def Org.lendN (g : Gh) (w : World) (ρ : List Nat) : Org := ⟨w, g.Rd, g.tp, g.tl, fun k => ∃ q ∈ ρ, g.β q = some k⟩
theorem names_lend (g : Gh) (ρ : List Nat) (k : Bool) : Names ρ k (g.lendN ρ) g := ⟨fun i q h => by simp [Gh.lendN, h], fun i q h _ => by simp [Gh.lendN, h]⟩
def Gh.back (g g' : Gh) (ρ : List Nat) (k : Bool) : Gh := ⟨fun x => match inv ρ 0 x with | some i => g'.β i | none => g.β x, fun x => match inv ρ 0 x with | some i => bif k && Nat.beq i 0 then g.κ x else g'.κ i | none => g.κ x, g'.Rd, g.tp, g.tl, g.ex⟩
structure Handed (s : St) (ρ : List Nat) (k : Bool) (hh : List VH) : Prop where
  nd : ρ.Nodup
  len : hh.length = ρ.length
  h : ∀ (i q : Nat) (vh : VH), ρ[i]? = some q → hh[i]? = some vh → getH s.H q = vh.upn ρ ∧ vh.okn ρ.length k (k && Nat.beq i 0) = true
theorem live_num {hh : List VH} {k : Bool} {u : Value} {r : Nat} (h : live (numH 0 hh ++ pinK k u) r) : r < hh.length := by
  unfold live at h
  rw [numH_get] at h
  by_cases e : 0 ≤ r ∧ r < 0 + hh.length
  · omega
  · rw [if_neg e, pinK_live] at h; cases h
theorem num_get {hh : List VH} {k : Bool} {u : Value} {i : Nat} {vh : VH} (h : hh[i]? = some vh) : getH (numH 0 hh ++ pinK k u) i = vh := by
  have := (List.getElem?_eq_some_iff.1 h).1
  rw [numH_get, if_pos (by omega), Nat.sub_zero, List.getD_eq_getElem?_getD, h]; rfl
section
variable {P : Program} {T : TypeId} {N : Nat} {w0 : Org} {g g' : Gh} {s s' : St} {a : Act} {w w' : World} {o : Oper} {τ : List TyI} {ρ : List Nat} {k : Bool} {hh hh' : List VH} {u : Value}
theorem Handed.get (h : Handed s ρ k hh) {i q : Nat} (hi : ρ[i]? = some q) : ∃ vh, hh[i]? = some vh ∧ getH s.H q = vh.upn ρ ∧ vh.okn ρ.length k (k && Nat.beq i 0) = true ∧ live s.H q := by
  have := (List.getElem?_eq_some_iff.1 hi).1
  have hv : hh[i]? = some (hh[i]'(by have := h.len; omega)) := List.getElem?_eq_getElem _
  obtain ⟨h1, h2⟩ := h.h i q _ hi hv
  exact ⟨_, hv, h1, h2, by unfold live; rw [h1]; exact VH.upn_live h2⟩
theorem Handed.mem (h : Handed s ρ k hh) {q : Nat} (hq : q ∈ ρ) : live s.H q := by
  obtain ⟨i, hi⟩ := List.getElem?_of_mem hq
  exact (h.get hi).choose_spec.2.2.2
theorem lendN_gi (hs : Sim P T N w0 g s a w) (h : Handed s ρ k hh) (u : Value) : GI T (Org.lendN g w ρ) (g.lendN ρ) (numH 0 hh ++ pinK k u) w := by
  have hg : ∀ r, live (numH 0 hh ++ pinK k u) r → ∃ q, ρ[r]? = some q ∧ (g.lendN ρ).β r = g.β q ∧ live s.H q := fun r hr => by
    have hlt := live_num hr
    have hq : ρ[r]? = some (ρ[r]'(by have := h.len; omega)) := List.getElem?_eq_getElem _
    obtain ⟨vh, _, _, _, hl⟩ := h.get hq
    exact ⟨_, hq, (names_lend g ρ k).β _ _ hq ▸ rfl, hl⟩
  refine ⟨fun r r' b h1 h2 h3 h4 => ?_, fun r b h1 h2 => ?_, fun b o hr => ?_, Keep.refl _ _, fun tb ht => hs.gi.tape tb ht, ⟨fun _ _ h => h, fun _ _ h => .inl h, fun tb h => ⟨h, rfl⟩, fun tb h => .inl h⟩, fun c o hc => by cases hc⟩
  · obtain ⟨q, q1, q2, q3⟩ := hg r h1
    obtain ⟨q', p1, p2, p3⟩ := hg r' h2
    have := hs.gi.inj q q' b q3 p3 (q2 ▸ h3) (p2 ▸ h4)
    subst this
    have i1 := inv_of h.nd (i := 0) q1
    rw [inv_of h.nd (i := 0) p1] at i1
    injection i1 with i1; omega
  · obtain ⟨q, q1, q2, q3⟩ := hg r h1
    have hb : g.β q = some b := q2 ▸ h2
    obtain ⟨_, b2, b3⟩ := hs.gi.bd q b q3 hb
    exact ⟨.inr ⟨q, List.mem_of_getElem? q1, hb⟩, b2, b3⟩
  · obtain ⟨r1, r2, r3⟩ := hs.gi.rd b o hr
    refine ⟨r1, r2, fun r hl e => ?_⟩
    obtain ⟨q, q1, q2, q3⟩ := hg r hl
    exact r3 q q3 (q2 ▸ e)
theorem lendN_heap (hs : Sim P T N w0 g s a w) (h : Handed s ρ k hh) (hu : k = true → RepCV P (g.lendN ρ) w u (.ref 0 0)) (r : Nat) : HeapOK P (g.lendN ρ) w r (getH (numH 0 hh ++ pinK k u) r) := by
  by_cases hr : r < hh.length
  · have hq : ρ[r]? = some (ρ[r]'(by have := h.len; omega)) := List.getElem?_eq_getElem _
    obtain ⟨vh, h1, h2, h3, _⟩ := h.get hq
    rw [num_get h1]
    have := hs.hH (ρ[r]'(by have := h.len; omega))
    rw [h2] at this
    exact this.down (names_lend g ρ k) rfl hq rfl h3
  · rw [numH_get, if_neg (by omega)]
    cases hk : k with
    | false => trivial
    | true =>
      simp only [pinK, cond_true, getH, beq_eq]
      by_cases e : 1000 = r
      · simp only [e, decide_true, cond_true]; exact hu hk
      · simp only [e, decide_false, cond_false]; trivial
theorem backN (hs : Sim P T N w0 g s a w) (h : Handed s ρ k hh) (hu : k = true → RepCV P (g.lendN ρ) w u (.ref 0 0)) (hk0 : k = true → 0 < ρ.length ∧ ρ.length ≤ 1000) (h7 : GI T (Org.lendN g w ρ) g' (numH 0 hh' ++ pinK k u) w') (h8 : ∀ r, HeapOK P g' w' r (getH (numH 0 hh' ++ pinK k u) r)) (hlen : hh'.length = ρ.length) (ho : ∀ (i : Nat) (vh : VH), hh'[i]? = some vh → vh.okn ρ.length k (k && Nat.beq i 0) = true)
    {F' : List (Nat × SV)} (hF : ∀ x, getF F' x = .u ∨ getF F' x = getF s.F x ∧ ∀ i q, ρ[i]? = some q → (k = true → i ≠ 0) → (getF F' x).has q = false) (hH : ∀ x, x ∉ ρ → ∀ i q, ρ[i]? = some q → (k = true → i ≠ 0) → (getH s.H x).has q = false) :
    Sim P T N w0 (g.back g' ρ k) ⟨F', upsH ρ ρ hh' ++ s.H⟩ a w' ∧ Names ρ k g' (g.back g' ρ k) := by
  have hnm : Names ρ k g' (g.back g' ρ k) := ⟨fun i q hi => by simp only [Gh.back, inv_of h.nd hi, Nat.zero_add], fun i q hi hne => by
    simp only [Gh.back, inv_of h.nd hi, Nat.zero_add]
    have : (k && Nat.beq i 0) = false := by
      cases hk : k with
      | false => rfl
      | true => simp [beq_eq, hne hk]
    rw [this]; rfl⟩
  refine ⟨?_, hnm⟩
  have hkeep : Keep (MutO (Org.lendN g w ρ)) w w' := h7.keep
  have hsz : w.heap.size ≤ w'.heap.size := hkeep.size
  have hsz0 := hs.gi.sz
  have nomut : ∀ b, b < w.heap.size → g.tp ≠ some b → (∀ q ∈ ρ, g.β q ≠ some b) → ¬ MutO (Org.lendN g w ρ) b := fun b q1 q2 q3 hm => by
    rcases hm with hm | hm | ⟨q, hq, hm⟩
    · exact q2 hm
    · have : w.heap.size ≤ b := hm; omega
    · exact q3 q hq hm
  have hf : Fut g.Rd g'.Rd w w' := ⟨fun b o h => h7.org.rd0 b o h, fun b o hr => hkeep.cell (p := ⟨b, o, none⟩) (nomut b (hs.gi.rd b o hr).1 (hs.gi.rd b o hr).2.1 fun q hq => (hs.gi.rd b o hr).2.2 q (h.mem hq))⟩
  -- the kept block is where it was
  have hkept : ∀ i q, ρ[i]? = some q → ¬ (k = true → i ≠ 0) → (g.back g' ρ k).β q = g.β q ∧ (g.back g' ρ k).κ q = g.κ q := fun i q hi hne => by
    have hk : k = true := by cases hk : k with | true => rfl | false => exact absurd (fun h => by rw [hk] at h; cases h) hne
    have e0 : i = 0 := by
      by_cases e : i = 0
      · exact e
      · exact absurd (fun _ => e) hne
    subst e0
    constructor
    · rw [hnm.β _ _ hi]
      obtain ⟨b, hb, eu⟩ := (hu hk).ref_inv
      have hp := h8 1000
      rw [numH_get, if_neg (by have := (hk0 hk).2; omega)] at hp
      subst hk
      have hp2 : RepCV P g' w' u (.ref 0 0) := by simpa [pinK, getH, HeapOK] using hp
      obtain ⟨b', hb', eu'⟩ := hp2.ref_inv
      rw [eu] at eu'
      simp at eu'
      subst eu'
      rw [hb', ← hb]
      exact ((names_lend g ρ true).β _ _ hi).symm
    · subst hk
      simp [Gh.back, inv_of h.nd hi, beq_eq]
  have hsame : ∀ q, (∀ i, ρ[i]? = some q → ¬ (k = true → i ≠ 0)) → (g.back g' ρ k).β q = g.β q ∧ (g.back g' ρ k).κ q = g.κ q := fun q hq => by
    cases hi : inv ρ 0 q with
    | none => simp [Gh.back, hi]
    | some i =>
      have := (inv_get hi).2
      exact hkept i q this (hq i this)
  have hget : ∀ x, getH (upsH ρ ρ hh' ++ s.H) x = match inv ρ 0 x with | some j => (hh'.getD (j - 0) .gone).upn ρ | none => getH s.H x := fun x => upsH_get ρ ρ hh' s.H hlen 0 x
  have hin : ∀ i q, ρ[i]? = some q → ∃ vh, hh'[i]? = some vh ∧ getH (upsH ρ ρ hh' ++ s.H) q = vh.upn ρ ∧ vh.okn ρ.length k (k && Nat.beq i 0) = true ∧ (g.back g' ρ k).β q = g'.β i ∧ live (numH 0 hh' ++ pinK k u) i := fun i q hi => by
    have hlt := (List.getElem?_eq_some_iff.1 hi).1
    have hv : hh'[i]? = some (hh'[i]'(by omega)) := List.getElem?_eq_getElem _
    refine ⟨_, hv, ?_, ho i _ hv, hnm.β _ _ hi, ?_⟩
    · rw [hget, inv_of h.nd hi]
      simp only [Nat.zero_add, Nat.sub_zero]
      rw [List.getD_eq_getElem?_getD, hv]; rfl
    · unfold live; rw [num_get hv]; exact VH.okn_live (ho i _ hv)
  have hlive : ∀ x, live (upsH ρ ρ hh' ++ s.H) x → (∃ i, ρ[i]? = some x ∧ (g.back g' ρ k).β x = g'.β i ∧ live (numH 0 hh' ++ pinK k u) i) ∨ (x ∉ ρ ∧ live s.H x ∧ (g.back g' ρ k).β x = g.β x) := fun x hx => by
    cases hi : inv ρ 0 x with
    | none =>
      refine .inr ⟨inv_none hi, ?_, by simp [Gh.back, hi]⟩
      unfold live at hx ⊢
      rwa [hget, hi] at hx
    | some i =>
      have hg := (inv_get hi).2
      obtain ⟨vh, _, _, _, e, l⟩ := hin i x hg
      exact .inl ⟨i, hg, e, l⟩
  -- whose a block of the callee is
  have hown : ∀ i b, live (numH 0 hh' ++ pinK k u) i → g'.β i = some b → w.heap.size ≤ b ∨ ∃ q ∈ ρ, g.β q = some b := fun i b h1 h2 => (h7.bd i b h1 h2).1
  have hrd : ∀ b o, g'.Rd b o → g.Rd b o ∨ w.heap.size ≤ b ∨ ∃ q ∈ ρ, g.β q = some b := fun b o hr => h7.org.new0 b o hr
  refine ⟨⟨fun x x' b h1 h2 h3 h4 => ?_, fun x b h1 h2 => ?_, fun b o hr => ?_, ?_, fun tb htb => ?_, ⟨fun b o hr => h7.org.rd0 b o (hs.gi.org.rd0 b o hr), fun b o hr => ?_, hs.gi.org.tp0, hs.gi.org.tpo⟩, hs.gi.exs (fun _ _ h => h) fun c hc => ?_⟩, hs.dn, hs.nt, fun x => ?_, fun x => ?_⟩
  · rcases hlive x h1 with ⟨i, i1, i2, i3⟩ | ⟨i1, i2, i3⟩ <;> rcases hlive x' h2 with ⟨j, j1, j2, j3⟩ | ⟨j1, j2, j3⟩
    · have := h7.inj i j b i3 j3 (i2 ▸ h3) (j2 ▸ h4)
      subst this
      rw [i1] at j1; injection j1
    · have hb : g.β x' = some b := j3 ▸ h4
      rcases hown i b i3 (i2 ▸ h3) with hw | ⟨q, hq, hw⟩
      · have := (hs.gi.bd x' b j2 hb).2.1; omega
      · have := hs.gi.inj q x' b (h.mem hq) j2 hw hb
        subst this; exact absurd hq j1
    · have hb : g.β x = some b := i3 ▸ h3
      rcases hown j b j3 (j2 ▸ h4) with hw | ⟨q, hq, hw⟩
      · have := (hs.gi.bd x b i2 hb).2.1; omega
      · have := hs.gi.inj q x b (h.mem hq) i2 hw hb
        subst this; exact absurd hq i1
    · exact hs.gi.inj x x' b i2 j2 (i3 ▸ h3) (j3 ▸ h4)
  · rcases hlive x h1 with ⟨i, i1, i2, i3⟩ | ⟨i1, i2, i3⟩
    · have hb : g'.β i = some b := i2 ▸ h2
      have h9 := (h7.bd i b i3 hb).2.1
      rcases hown i b i3 hb with hw | ⟨q, hq, hw⟩
      · exact ⟨.inl (Nat.le_trans hsz0 hw), h9, fun e => by have := (hs.gi.tape b e).1; omega⟩
      · obtain ⟨a1, _, a3⟩ := hs.gi.bd q b (h.mem hq) hw
        exact ⟨a1, h9, a3⟩
    · obtain ⟨a1, a2, a3⟩ := hs.gi.bd x b i2 (i3 ▸ h2)
      exact ⟨a1, by omega, a3⟩
  · refine ⟨(h7.rd b o hr).1, fun e => (h7.rd b o hr).2.1 (h7.org.tp0 b e).1, fun x hx e => ?_⟩
    rcases hlive x hx with ⟨i, i1, i2, i3⟩ | ⟨i1, i2, i3⟩
    · exact (h7.rd b o hr).2.2 i i3 (i2 ▸ e)
    · have hb : g.β x = some b := i3 ▸ e
      rcases hrd b o hr with hw | hw | ⟨q, hq, hw⟩
      · exact (hs.gi.rd b o hw).2.2 x i2 hb
      · have := (hs.gi.bd x b i2 hb).2.1; omega
      · have := hs.gi.inj q x b (h.mem hq) i2 hw hb
        subst this; exact i1 hq
  · refine hs.gi.keep.trans (hkeep.mono fun c hc => ?_)
    rcases hc with hc | hc | ⟨q, hq, hc⟩
    · exact hs.gi.org.tpo c hc
    · exact .inr (.inl (Nat.le_trans hsz0 hc))
    · exact .inr (hs.gi.bd q c (h.mem hq) hc).1
  · obtain ⟨q1, q2⟩ := h7.org.tp0 tb htb
    have := h7.tape tb q1
    rw [q2] at this
    exact this
  · rcases hrd b o hr with hw | hw | ⟨q, hq, hw⟩
    · exact hs.gi.org.new0 b o hw
    · exact .inr (.inl (Nat.le_trans hsz0 hw))
    · exact .inr (hs.gi.bd q b (h.mem hq) hw).1
  · obtain ⟨_, c2, c3, c4, c5⟩ := hc
    refine ⟨hkeep.block c (nomut c c2 c3 fun q hq => c5 q (h.mem hq)), c3, fun o ho2 => ?_, fun x hx e => ?_⟩
    · rcases hrd c o ho2 with hw | hw | ⟨q, hq, hw⟩
      · exact c4 o hw
      · omega
      · exact c5 q (h.mem hq) hw
    · rcases hlive x hx with ⟨i, i1, i2, i3⟩ | ⟨i1, i2, i3⟩
      · rcases hown i c i3 (i2 ▸ e) with hw | ⟨q, hq, hw⟩
        · omega
        · exact c5 q (h.mem hq) hw
      · exact c5 x i2 (i3 ▸ e)
  · show RepSV P _ w' _ (getF F' x)
    rcases hF x with e | ⟨e, hno⟩
    · rw [e]; exact .u _
    · rw [e] at hno ⊢
      refine (hs.hF x).move hf (fun _ h => h) fun q hq => hsame q fun i hi hne => ?_
      rw [hno i q hi hne] at hq; cases hq
  · show HeapOK P _ w' x (getH (upsH ρ ρ hh' ++ s.H) x)
    cases hi : inv ρ 0 x with
    | some i =>
      have hg := (inv_get hi).2
      obtain ⟨vh, v1, v2, v3, _, _⟩ := hin i x hg
      rw [v2]
      have := h8 i
      rw [num_get v1] at this
      exact this.upn hnm rfl hg rfl v3
    | none =>
      have hx := inv_none hi
      rw [hget, hi]
      refine (hs.hH x).move hf (fun _ h => h) (fun q hq => hsame q fun i hi2 hne => ?_) (fun b hl hb => ?_) fun _ _ h => h
      · rcases hq with hq | rfl
        · rw [hH x hx i q hi2 hne] at hq; cases hq
        · exact hx (List.mem_of_getElem? hi2)
      · exact hkeep.block b (nomut b (hs.gi.bd x b hl hb).2.1 (hs.gi.bd x b hl hb).2.2 fun q hq e => hx (by rw [← hs.gi.inj q x b (h.mem hq) hl e hb]; exact hq))
def SV.noN (m : Nat) (v : SV) : Bool := (List.range m).all fun i => !v.has i
inductive ArgN (P : Program) (T : TypeId) (s : St) (ρ : List Nat) (z : Bool) : List Operand → List SV → Prop where
  | nil : ArgN P T s ρ z [] []
  | pl {x : Operand} {v : SV} {l : List Operand} {l' : List SV} (h : PsS P T s.H true (s.ev x) v) (hn : v.noN ρ.length = true) (hl : ArgN P T s ρ z l l') : ArgN P T s ρ z (x :: l) (v :: l')
  | nm {x : Operand} {c c' : CV} {l : List Operand} {l' : List SV} (h : s.ev x = .one c') (hc : c.upn ρ = c') (ho : c.okn ρ.length false = true) (hl : ArgN P T s ρ z l l') : ArgN P T s ρ z (x :: l) (.one c :: l')
  | nz {x : Operand} {i sz : Nat} {l : List Operand} {l' : List SV} (hz : z = true) (h : s.ev x = .one .nil) (hi : Nat.blt i ρ.length = true) (hl : ArgN P T s ρ z l l') : ArgN P T s ρ z (x :: l) (.one (.sl i 0 sz) :: l')
theorem psG_lendN {v : Value} {sv : SV} {H : List (Nat × VH)} (h : RepSV P (psG g H w true) w v sv) (h0 : sv.noN ρ.length = true) : RepSV P (g.lendN ρ) w v sv := by
  refine h.move (g' := g.lendN ρ) ⟨fun _ _ h => h, fun _ _ _ => rfl⟩ (fun _ h => h) fun q hq => ?_
  have : ρ[q]? = none := by
    cases hr : ρ[q]? with
    | none => rfl
    | some x =>
      have hlt := (List.getElem?_eq_some_iff.1 hr).1
      unfold SV.noN at h0
      rw [List.all_eq_true] at h0
      have := h0 q (List.mem_range.2 hlt)
      rw [hq] at this; cases this
  simp [Gh.lendN, this, psG]
theorem ArgN.rep {z : Bool} {l : List Operand} {l' : List SV} (h : ArgN P T s ρ z l l') (hs : Sim P T N w0 g s a w) (hz : z = true → ∀ (i q : Nat), ρ[i]? = some q → g.β q = none) : l.length = l'.length ∧ ∀ (j : Nat) (v : Value) (c' : SV), (l.map a.eval)[j]? = some v → l'[j]? = some c' → RepSV P (g.lendN ρ) w v c' := by
  induction h with
  | nil => simp
  | pl h hn hl ih =>
    obtain ⟨ih1, ih2⟩ := ih
    refine ⟨by simp [ih1], fun j v c' h1 h2 => ?_⟩
    cases j with
    | zero => simp at h1 h2; subst h1 h2; exact psG_lendN (h.rep hs (hs.ev _)) hn
    | succ j => exact ih2 j v c' (by simpa using h1) (by simpa using h2)
  | @nm x c c1 l l' h hc ho hl ih =>
    obtain ⟨ih1, ih2⟩ := ih
    refine ⟨by simp [ih1], fun j v c' h1 h2 => ?_⟩
    cases j with
    | zero =>
      simp at h1 h2; subst h1 h2 hc
      have := hs.ev x; rw [h] at this
      exact .one (RepCV.down (names_lend g ρ false) rfl ho this.one_inv)
    | succ j => exact ih2 j v c' (by simpa using h1) (by simpa using h2)
  | @nz x i sz l l' hzt h hi hl ih =>
    obtain ⟨ih1, ih2⟩ := ih
    refine ⟨by simp [ih1], fun j v c' h1 h2 => ?_⟩
    cases j with
    | zero =>
      simp at h1 h2; subst h1 h2
      have := hs.ev x; rw [h] at this
      have e := this.one_inv
      generalize a.eval x = v at e
      cases e
      have hq := getD_some (blt_lt hi)
      exact .one (.slv _ (((names_lend g ρ false).β _ _ hq).symm.trans (hz hzt i _ hq)))
    | succ j => exact ih2 j v c' (by simpa using h1) (by simpa using h2)
theorem callh_at {j : Nat} {z : Bool} {f : FuncId} {xs : Array Operand} {ts : Array TypeId} {args : List SV} {v : SV} {d : Nat} {F' : List (Nat × SV)} (ho : o.op = .call { callee := .value (.func f), args := xs, argTypes := ts }) (hd : o.dst = some d) (hN : d < N) (hic : IChJ j P T f k args hh (fun x y => x = v ∧ y = hh')) (h : Handed s ρ k hh)
    (ha : ArgN P T s ρ z xs.toList args) (hk0 : k = true → (0 < ρ.length ∧ ρ.length ≤ 1000) ∧ args[j]? = some (.one (.ref 0 0))) (hlen : hh'.length = ρ.length) (hok : ∀ (i : Nat) (vh : VH), hh'[i]? = some vh → vh.okn ρ.length k (k && Nat.beq i 0) = true) (hv : v.okn ρ.length k = true)
    (hF : ∀ x, getF F' x = .u ∨ getF F' x = getF s.F x ∧ ∀ i q, ρ[i]? = some q → (k = true → i ≠ 0) → (getF F' x).has q = false) (hH : ∀ x, x ∉ ρ → ∀ i q, ρ[i]? = some q → (k = true → i ≠ 0) → (getH s.H x).has q = false)
    (hs : Sim P T N w0 g s a w) (hz : z = true → ∀ (i q : Nat), ρ[i]? = some q → g.β q = none) (K : Act → World → Prop) (Q : Exit → Act → World → Prop) (hK : ∀ g' s' a' w', s' = (St.mk F' (upsH ρ ρ hh' ++ s.H)).put d (v.upn ρ) → Sim P T N w0 g' s' a' w' → K a' w') : o.wp P a w K Q := by
  obtain ⟨k1, k2⟩ := ha.rep hs hz
  have hrun : (execOp a.eval o).run P w = .ok (.enter f (xs.map a.eval)) w := by
    simp only [execOp, ho, Sem.run_bind, resolve, Act.eval, Deferred.ofValue, Sem.run_pure, Result.andThen_ok, invoke]
    have := hic.1 (#[] ++ xs.map a.eval ++ #[]) w
    simpa using this
  unfold Oper.wp
  rw [hrun, Oper.upon_enter]
  have hszv : (xs.map a.eval).size = args.length := by simpa using k1
  have hu : k = true → RepCV P (g.lendN ρ) w ((xs.map a.eval).getD j undef) (.ref 0 0) := fun hk => by
    have h0 := (hk0 hk).2
    have hlt := (List.getElem?_eq_some_iff.1 h0).1
    have hv0 : (xs.map a.eval)[j]? = some ((xs.map a.eval).getD j undef) := by
      rw [Array.getD_eq_getD_getElem?, Array.getElem?_eq_getElem (by omega)]; rfl
    have hv1 : (xs.toList.map a.eval)[j]? = some ((xs.map a.eval).getD j undef) := by
      rw [← hv0, ← Array.getElem?_toList]; simp
    exact (k2 j _ _ hv1 h0).one_inv
  refine (hic.2 (Org.lendN g w ρ) (g.lendN ρ) w (xs.map a.eval) rfl (lendN_gi hs h _) (lendN_heap hs h hu) hszv fun j v sv hv hsv => k2 j v sv (by simpa using hv) hsv).mono fun e w' ⟨u1, sv, hh1, g', ⟨h1, h2⟩, h3, h4, h5, h6⟩ => ?_
  subst h1; subst h2; subst h3
  obtain ⟨hs2, hn2⟩ := backN hs h hu (fun hk => (hk0 hk).1) h5 h6 hlen hok hF hH
  refine hK (g.back g' ρ k) _ _ _ rfl ?_
  rw [hd]
  exact hs2.put hN (h4.upn hn2 rfl hv)
theorem Sim.virt1 (hs : Sim P T N w0 g s a w) {D : Nat} (hfr : s.fresh D = true) (e sz : Nat) : Sim P T N w0 (g.virt [D]) ⟨s.F, (D, .arr e sz []) :: s.H⟩ a w ∧ (g.virt [D]).β D = none := by
  obtain ⟨f1, f2, f3⟩ := St.fresh_spec hfr
  have hD : (g.virt [D]).β D = none := by simp [Gh.virt]
  have hq : ∀ q, q ≠ D → (g.virt [D]).β q = g.β q := fun q hq => by simp [Gh.virt, hq]
  have key : ∀ r b, live ((D, VH.arr e sz []) :: s.H) r → (g.virt [D]).β r = some b → r ≠ D ∧ live s.H r ∧ g.β r = some b := fun r b hl hb => by
    by_cases er : r = D
    · subst er; rw [hD] at hb; cases hb
    · refine ⟨er, ?_, (hq r er) ▸ hb⟩
      unfold live at hl ⊢
      rwa [hget_put, if_neg (fun e => er e.symm)] at hl
  refine ⟨⟨⟨fun r r' b h1 h2 h3 h4 => hs.gi.inj r r' b (key r b h1 h3).2.1 (key r' b h2 h4).2.1 (key r b h1 h3).2.2 (key r' b h2 h4).2.2, fun r b h1 h2 => hs.gi.bd r b (key r b h1 h2).2.1 (key r b h1 h2).2.2, fun b o hr => ⟨(hs.gi.rd b o hr).1, (hs.gi.rd b o hr).2.1, fun r h1 h2 => (hs.gi.rd b o hr).2.2 r (key r b h1 h2).2.1 (key r b h1 h2).2.2⟩, hs.gi.keep, hs.gi.tape, ⟨hs.gi.org.rd0, hs.gi.org.new0, hs.gi.org.tp0, hs.gi.org.tpo⟩, fun c o hc => ⟨(hs.gi.ex c o hc).1, (hs.gi.ex c o hc).2.1, (hs.gi.ex c o hc).2.2.1, (hs.gi.ex c o hc).2.2.2.1, (hs.gi.ex c o hc).2.2.2.2.1, fun r h1 h2 => (hs.gi.ex c o hc).2.2.2.2.2 r (key r c h1 h2).2.1 (key r c h1 h2).2.2⟩⟩, hs.dn, hs.nt, fun x => ?_, fun r => ?_⟩, hD⟩
  · refine (hs.hF x).move (Fut.refl _ _) (fun _ h => h) fun q hh => ⟨hq q fun e => ?_, rfl⟩
    subst e; rw [f1 x] at hh; cases hh
  · show HeapOK P _ w r (getH ((D, VH.arr e sz []) :: s.H) r)
    rw [hget_put]
    by_cases er : D = r
    · subst er
      rw [if_pos rfl]
      exact ⟨by simp, .inl ⟨hD, rfl⟩⟩
    · rw [if_neg er]
      refine (hs.hH r).move (Fut.refl _ _) (fun _ h => h) (fun q hh => ⟨hq q fun e => ?_, rfl⟩) (fun _ _ _ => rfl) fun _ _ h => h
      subst e
      rcases hh with hh | hh
      · rw [f2 r] at hh; cases hh
      · exact er hh
end
def ICw (pre : Prop) (f : Nat) (args : List SV) (t : Nat) (cs : List CV) (e sz : Nat) (rows : List (List Cell)) (v : SV) (cs' : List CV) (rows' : List (List Cell)) : Prop :=
  pre → ICh Try.prog 25 f true args [.blk t cs, .arr e sz rows] (fun x y => x = v ∧ y = [.blk t cs', .arr e sz rows'])
def othH (l : List Nat) (r : Nat) (H : List (Nat × VH)) : Bool := (H.map (·.1)).all fun x => memB l x || !(getH H x).has r
theorem othH_get {l : List Nat} {r : Nat} {H : List (Nat × VH)} (h : othH l r H = true) {x : Nat} (hx : x ∉ l) : (getH H x).has r = false := by
  unfold othH at h
  rw [List.all_eq_true] at h
  by_cases hm : x ∈ H.map (·.1)
  · have := h x hm
    simp only [Bool.or_eq_true, Bool.not_eq_true'] at this
    rcases this with h1 | h1
    · exact absurd (memB_iff.1 h1) hx
    · exact h1
  · have : getH H x = .gone := by
      clear h
      induction H with
      | nil => rfl
      | cons p H ih =>
        simp only [List.map_cons, List.mem_cons, not_or] at hm
        simp only [getH, beq_eq]
        rw [decide_eq_false fun e => hm.1 e.symm, cond_false]
        exact ih hm.2
    rw [this]; rfl
section
variable {k : Wk} {w0 : Org} {ops : Array Oper} {l : List Oper} {Q : St → Prop} {F F' : List (Nat × SV)} {H : List (Nat × VH)} {d t : Nat} {p : String} {af : Array Edge}
theorem kill1_ok {r : Nat} {s : St} (x : Nat) : getF (killF r s.F) x = .u ∨ getF (killF r s.F) x = getF s.F x ∧ (getF (killF r s.F) x).has r = false := by
  rw [killF_get]
  cases h : (getF s.F x).has r with
  | true => exact .inl (by simp)
  | false => exact .inr (by simp [h])
end
theorem ich_wk (k : Wk) {j : Nat} {f : FuncId} {fn : Func} {cd : Code} {kk : Bool} {args : List SV} {hs : List VH} {post : SV → List VH → Prop} (hf : k.P.funcs[f]? = some fn) (hN : fn.ntmps = k.N) (hname : (fn.name == "runtime.NumGoroutine") = false) (hb : fn.body = some cd) (hn : Nat.ble args.length k.N = true)
    (h : ∀ w0 u, wk k w0 cd (RetQh k.τ fn kk u post) ⟨argF 0 args, numH 0 hs ++ pinK kk u⟩) : IChJ j k.P k.T f kk args hs post :=
  ich_of k.ok hf hname hb (by rw [hN]; exact hn) fun w0 u => by rw [hN]; exact wkO (h w0 u)
theorem CVleL.rfl_ (l : List CV) : CVleL [] l l := by
  induction l with
  | nil => exact .nil
  | cons c l ih => exact .cons (CVle.rfl_ c) ih
section
variable {τ : List TyI} {fn : Func} {F : List (Nat × SV)} {H : List (Nat × VH)} {α : Type} {f : α → List Cell} {xs x0 : List α} {e sz n : Nat} {u : Value} {ex : Exit} {t t1 t2 : Tmp} {c1 c2 d1 d2 : Cell}
theorem r_hw {tt : Nat} {cs cs0 : List CV} (he : ex = .ret ∨ ex = .normal) (hr : fn.results = #[.tmp t]) (hv : getF F t = .one (.d c1)) (hH0 : getH H 0 = .blk tt cs) (hH : getH H 1 = .arr e sz (xs.map f)) (hp : getH H 1000 = .pin u (.ref 0 0)) (hx : c1 = d1 ∧ cs = cs0 ∧ xs = x0) : RetQh τ fn true u (fun x y => x = .one (.d d1) ∧ y = [.blk tt cs0, .arr e sz (x0.map f)]) ex ⟨F, H⟩ := by
  obtain ⟨rfl, rfl, rfl⟩ := hx
  refine ⟨he, [], [(t, .one (.d c1))], [.blk tt cs, .arr e sz (xs.map f)], _, _, ⟨.cons ?_ .nil, .cons ?_ (.cons ?_ (.cons ?_ .nil))⟩, by rw [hr]; exact .cons (.tmp t) .nil, .one _, ?_, rfl⟩
  · rw [hv]; exact .one (.d rfl)
  · show VHle [] 0 (getH H 0) _
    rw [hH0]; exact .blk rfl (CVleL.rfl_ _)
  · show VHle [] 1 (getH H 1) _
    rw [hH]; exact .arr rfl rfl
  · show VHle [] 1000 (getH H 1000) _
    rw [hp]; exact .pin (CVle.rfl_ _)
  · simp [getF, beq_eq]
end
end Go.Proofs.Ytcbppkfnfbdkhaa
/- More operations that may be taken first. -/
set_option linter.all false
set_option maxRecDepth 20000
namespace Go.Proofs.Ytcbppkfnfbdkhaa
open Go.RowKit Go.Shelf
section
variable {k : Wk} {w0 : Org} {s : St} {o : Oper}
end
def CV.unz (D : Nat) : CV → CV
  | .sl q n sz => bif Nat.beq q D && Nat.beq n 0 then .nil else .sl q n sz
  | .d x => .d x
  | .nil => .nil
  | .ref r off => .ref r off
  | .u => .u
  | .el _ _ _ _ => .u
  | .slp _ _ _ _ => .u
  | .rp _ => .u
  | .clo _ _ => .u
  | .fn _ => .u
  | .tape => .u
def CV.unzL (D : Nat) : List CV → List CV
  | [] => []
  | c :: l => c.unz D :: CV.unzL D l
theorem CV.unzL_get (D : Nat) (cs : List CV) (j : Nat) : (CV.unzL D cs)[j]? = (cs[j]?).map (CV.unz D) := by
  induction cs generalizing j with
  | nil => rfl
  | cons x cs ih => cases j with
    | zero => rfl
    | succ j => simpa [CV.unzL] using ih j
theorem CV.unzL_len (D : Nat) (cs : List CV) : (CV.unzL D cs).length = cs.length := by
  induction cs with
  | nil => rfl
  | cons x cs ih => simp [CV.unzL, ih]
section
variable {P : Program} {T : TypeId} {N : Nat} {w0 : Org} {g : Gh} {s : St} {a : Act} {w : World}
theorem RepCV.zip {D : Nat} (hD : g.β D = none) {v : Value} {c : CV} {m : Nat} {k : Bool} {c0 : CV} {ρ : List Nat} (hc : c = c0.upn ρ) (ho : c0.okn m k = true) (h : RepCV P g w v (c.unz D)) : RepCV P g w v c := by
  subst hc
  cases c0 with
  | u => exact h
  | d x => exact h
  | nil => exact h
  | ref r off => exact h
  | sl r n sz =>
    simp only [CV.upn, CV.unz] at h ⊢
    cases hb : (Nat.beq (ρ.getD r 0) D && Nat.beq n 0) with
    | false => rw [hb] at h; exact h
    | true =>
      rw [hb] at h
      simp only [Bool.and_eq_true, beq_eq, decide_eq_true_eq] at hb
      obtain ⟨h1, rfl⟩ := hb
      rw [h1]
      have h2 : RepCV P g w v .nil := h
      cases h2
      exact .slv _ hD
  | el _ _ _ _ => cases ho
  | slp _ _ _ _ => cases ho
  | rp _ => cases ho
  | clo _ _ => cases ho
  | fn _ => cases ho
  | tape => cases ho
theorem opr_callw0 {d : Nat} {o : Oper} {f : FuncId} {xs : Array Operand} {ts : Array TypeId} {args : List SV} {v : SV} {tt e sz : Nat} {cs cs0 cs' : List CV} {rows' : List (List Cell)} (r0 r1 : Nat) (ho : o.op = .call { callee := .value (.func f), args := xs, argTypes := ts }) (hd : o.dst = some d) (hN : d < N)
    (hic : ICh P T f true (.one (.ref 0 0) :: args) [.blk tt cs, .arr e sz []] (fun x y => x = v ∧ y = [.blk tt cs', .arr e sz rows'])) (hne : r0 ≠ r1) (h0 : getH s.H r0 = .blk tt cs0) (hcs : CV.unzL r1 (CV.upnL [r0, r1] cs) = cs0) (hfr : s.fresh r1 = true) (ha : ArgN P T ⟨s.F, (r0, .blk tt (CV.upnL [r0, r1] cs)) :: (r1, .arr e sz []) :: s.H⟩ [r0, r1] false xs.toList (.one (.ref 0 0) :: args)) (hok : CV.oknL 2 true cs = true) (hok' : CV.oknL 2 true cs' = true) (hv : v.okn 2 true = true) :
    OpR P T N w0 s o (fun s' => s' = (St.mk s.F ((r0, .blk tt (CV.upnL [r0, r1] cs')) :: (r1, .arr e sz rows') :: (r0, .blk tt (CV.upnL [r0, r1] cs)) :: (r1, .arr e sz []) :: s.H)).put d (v.upn [r0, r1])) := by
  intro g a w hs K Q hK
  obtain ⟨f1, f2, f3⟩ := St.fresh_spec hfr
  obtain ⟨hs1, hb1⟩ := hs.virt1 hfr e sz
  have hH1 : ∀ x, getH ((r0, VH.blk tt (CV.upnL [r0, r1] cs)) :: (r1, .arr e sz []) :: s.H) x = if r0 = x then .blk tt (CV.upnL [r0, r1] cs) else getH ((r1, VH.arr e sz []) :: s.H) x := fun x => hget_put _ _ _ _
  have hg0 : getH ((r1, VH.arr e sz []) :: s.H) r0 = .blk tt cs0 := by rw [hget_put, if_neg fun e => hne e.symm, h0]
  have lv : ∀ x, live ((r0, VH.blk tt (CV.upnL [r0, r1] cs)) :: (r1, .arr e sz []) :: s.H) x → live ((r1, VH.arr e sz []) :: s.H) x := fun x hx => by
    unfold live at hx ⊢
    rw [hH1] at hx
    by_cases ex : r0 = x
    · subst ex; rw [hg0]; rfl
    · rwa [if_neg ex] at hx
  have hs2 : Sim P T N w0 (g.virt [r1]) ⟨s.F, (r0, .blk tt (CV.upnL [r0, r1] cs)) :: (r1, .arr e sz []) :: s.H⟩ a w := by
    refine ⟨hs1.gi.sub lv, hs1.dn, hs1.nt, hs1.hF, fun x => ?_⟩
    show HeapOK P _ w x (getH ((r0, VH.blk tt (CV.upnL [r0, r1] cs)) :: (r1, .arr e sz []) :: s.H) x)
    rw [hH1]
    by_cases ex : r0 = x
    · subst ex
      rw [if_pos rfl]
      have := hs1.hH r0
      rw [show getH (St.mk s.F ((r1, VH.arr e sz []) :: s.H)).H r0 = .blk tt cs0 from hg0, ← hcs] at this
      obtain ⟨b, vals, q1, q2, q3, q4⟩ := this
      refine ⟨b, vals, q1, q2, by rw [q3, CV.unzL_len], fun j v c hv hc => ?_⟩
      have hc2 := hc
      rw [CV.upnL_get] at hc2
      cases hx : cs[j]? with
      | none => rw [hx] at hc2; cases hc2
      | some c0 =>
        rw [hx] at hc2; simp at hc2
        exact RepCV.zip hb1 hc2.symm (CV.oknL_get hok hx) (q4 j v _ hv (by rw [CV.unzL_get, hc]; rfl))
    · rw [if_neg ex]; exact hs1.hH x
  refine callh_at (s := ⟨s.F, (r0, .blk tt (CV.upnL [r0, r1] cs)) :: (r1, .arr e sz []) :: s.H⟩) (ρ := [r0, r1]) (k := true) (hh' := [.blk tt cs', .arr e sz rows']) (F' := s.F) ho hd hN hic ⟨by simp [hne], rfl, fun i q vh h1 h2 => ?_⟩ ha (fun _ => ⟨⟨by simp, by simp⟩, rfl⟩) rfl (fun i vh h1 => ?_) hv (fun x => .inr ⟨rfl, fun i q hi hk => ?_⟩) (fun x hx i q h1 h2 => ?_) hs2 (fun h => by cases h) K Q hK
  · match i, h1, h2 with
    | 0, h1, h2 => simp at h1 h2; subst h1 h2; exact ⟨by rw [hH1, if_pos rfl]; rfl, hok⟩
    | 1, h1, h2 => simp at h1 h2; subst h1 h2; exact ⟨by rw [hH1, if_neg hne, hget_put, if_pos rfl]; rfl, rfl⟩
    | i + 2, h1, h2 => simp at h1
  · match i, h1 with
    | 0, h1 => simp at h1; subst h1; exact hok'
    | 1, h1 => simp at h1; subst h1; rfl
    | i + 2, h1 => simp at h1
  · match i, hi, hk with
    | 0, hi, hk => exact absurd rfl (hk rfl)
    | 1, hi, hk => simp at hi; subst hi; exact f1 x
    | i + 2, hi, hk => simp at hi
  · match i, h1, h2 with
    | 0, h1, h2 => exact absurd rfl (h2 rfl)
    | 1, h1, h2 =>
      simp at h1; subst h1
      show (getH ((r0, VH.blk tt (CV.upnL [r0, r1] cs)) :: (r1, .arr e sz []) :: s.H) x).has r1 = false
      rw [hH1, if_neg fun e => hx (by simp [e]), hget_put, if_neg fun e => hx (by simp [e])]
      exact f2 x
    | i + 2, h1, h2 => simp at h1
end
section
variable {k : Wk} {w0 : Org} {ops : Array Oper} {l : List Oper} {Q : St → Prop} {F F' : List (Nat × SV)} {H : List (Nat × VH)} {d t : Nat} {p : String} {af : Array Edge}
end
end Go.Proofs.Ytcbppkfnfbdkhaa
/- A difference may be taken first. -/
set_option linter.all false
set_option maxRecDepth 20000
namespace Go.Proofs.Ytcbppkfnfbdkhaa
open Go.RowKit Go.Shelf
section
variable {k : Wk} {w0 : Org} {s : St} {o : Oper}
end
end Go.Proofs.Ytcbppkfnfbdkhaa
/- To bytes whose room is used up, bytes are appended that may be none; what comes is only read from then on. -/
set_option linter.all false
set_option maxRecDepth 20000
namespace Go.Proofs.Ytcbppkfnfbdkhaa
open Go.RowKit Go.Shelf Go.Lib
section
variable {k : Wk} {w0 : Org} {ops : Array Oper} {l rest : List Oper} {Q : St → Prop} {F F' : List (Nat × SV)} {H H' : List (Nat × VH)} {d b n t : Nat} {p p' pa pb pc pd : String} {af af' afa afb afc afd : Array Edge} {s : St}
end
end Go.Proofs.Ytcbppkfnfbdkhaa
/- Parts of texts. -/
set_option linter.all false
set_option maxRecDepth 20000
namespace Go.Proofs.Ytcbppkfnfbdkhaa
open Go.RowKit Go.Shelf
section
variable {P : Program} {T : TypeId} {N : Nat} {w0 : Org} {s : St} {o : Oper}
end
section
variable {k : Wk} {w0 : Org} {ops : Array Oper} {l : List Oper} {Q : St → Prop} {F : List (Nat × SV)} {H : List (Nat × VH)} {d t ty : Nat} {x y : Operand} {p : String} {af : Array Edge} {a : ByteArray} {kk : IntKind} {n : Int}
end
end Go.Proofs.Ytcbppkfnfbdkhaa
/- Function values that are only called: as functions of data. -/
set_option linter.all false
set_option maxRecDepth 20000
namespace Go.Proofs.Ytcbppkfnfbdkhaa
open Go.RowKit Go.Shelf
section
variable {P : Program} {T : TypeId} {N : Nat} {w0 : Org} {s : St} {o : Oper}
end
section
variable {k : Wk} {w0 : Org} {ops : Array Oper} {l : List Oper} {Q : St → Prop} {s : St} {d t : Nat} {p : String} {af : Array Edge}
end
end Go.Proofs.Ytcbppkfnfbdkhaa
/- Texts in order. -/
set_option linter.all false
set_option maxRecDepth 20000
namespace Go.Proofs.Ytcbppkfnfbdkhaa
open Go.RowKit Go.Shelf
section
variable {P : Program} {T : TypeId} {N : Nat} {w0 : Org} {s : St} {o : Oper}
end
section
variable {k : Wk} {w0 : Org} {ops : Array Oper} {l : List Oper} {Q : St → Prop} {F : List (Nat × SV)} {H : List (Nat × VH)} {d t ty tb : Nat} {x y : Operand} {p : String} {af : Array Edge} {a b : ByteArray}
end
end Go.Proofs.Ytcbppkfnfbdkhaa
/- A whole struct out of an own list. -/
set_option linter.all false
set_option maxRecDepth 20000
namespace Go.Proofs.Ytcbppkfnfbdkhaa
open Go.RowKit Go.Shelf
section
variable {k : Wk} {w0 : Org} {ops : Array Oper} {l : List Oper} {Q : St → Prop} {F : List (Nat × SV)} {H : List (Nat × VH)} {d t t' : Nat} {x : Operand} {p : String} {af : Array Edge}
theorem v_ldel {α : Type} {f : α → List Cell} {xs : List α} {e sz r : Nat} {m : Int} {fs zs} (hN : Nat.blt d k.N = true) (hx : (St.mk F H).ev x = .one (.el r m.toNat 0 sz)) (hH : getH H r = .arr e sz (xs.map f)) (ht : tyAt k.τ t' = .st sz fs zs) (inst : Inhabited α) (hf : (f (gt xs m)).length = sz) (hc : 0 ≤ m ∧ m < (xs.length : Int)) (h : rg k w0 ops l Q ⟨(d, .agg ((f (gt xs m)).map .d)) :: F, H⟩) : rg k w0 ops (⟨some d, .load t' x, t, p, af, none⟩ :: l) Q ⟨F, H⟩ := by
  refine j_ld_eln hN hx hH ht (row := f (gt xs m)) ?_ (by omega) ?_
  · rw [List.getElem?_map, List.getElem?_eq_getElem (by omega), gt_eq (by omega)]; rfl
  · rw [List.drop_zero, List.take_of_length_le (by omega)]
    exact h
end
end Go.Proofs.Ytcbppkfnfbdkhaa
/- The length of a list of the function's own, as the slice says it. -/
set_option linter.all false
set_option maxRecDepth 20000
namespace Go.Proofs.Ytcbppkfnfbdkhaa
open Go.RowKit Go.Shelf
theorem v_lnc {k : Wk} {w0 : Org} {ops : Array Oper} {l : List Oper} {Q : St → Prop} {F : List (Nat × SV)} {H : List (Nat × VH)} {o : Oper} (D i j : Nat) {α : Type} {f : α → List Cell} {xs : List α} {r n sz e t : Nat} {cs : List CV} (hd : o.dst = some D) (h1 : getH H i = .blk t cs) (h2 : cs[j]? = some (.sl r n sz)) (h3 : getH H r = .arr e sz (xs.map f)) (hc : xs.length = n) (h : rg k w0 ops (o :: l) Q ⟨F, H⟩) : rg k w0 ops (o :: l) Q ⟨F, H⟩ := h
section
variable {k : Wk} {w0 : Org} {s : St} {o : Oper}
end
end Go.Proofs.Ytcbppkfnfbdkhaa
/- Calls that change a struct with a list of its own: any results, the pointer at any place; blocks that a call has changed. -/
set_option linter.all false
set_option maxRecDepth 20000
namespace Go.Proofs.Ytcbppkfnfbdkhaa
open Go.RowKit Go.Shelf
def ICx (pre : Prop) (f : Nat) (args : List SV) (t : Nat) (cs : List CV) (e sz : Nat) (rows : List (List Cell)) (v : SV) (cs' : List CV) (rows' : List (List Cell)) : Prop :=
  pre → IChJ 1 Try.prog 25 f true args [.blk t cs, .arr e sz rows] (fun x y => x = v ∧ y = [.blk t cs', .arr e sz rows'])
theorem getH_upd (upd H : List (Nat × VH)) (q : Nat) : (∃ vh, (q, vh) ∈ upd ∧ getH (upd ++ H) q = vh) ∨ (q ∉ upd.map (·.1) ∧ getH (upd ++ H) q = getH H q) := by
  induction upd with
  | nil => exact .inr ⟨by simp, rfl⟩
  | cons p l ih =>
    obtain ⟨x, v⟩ := p
    rw [List.cons_append, hget_put]
    by_cases e : x = q
    · subst e; rw [if_pos rfl]; exact .inl ⟨v, by simp, rfl⟩
    · rw [if_neg e]
      rcases ih with ⟨vh, h1, h2⟩ | ⟨h1, h2⟩
      · exact .inl ⟨vh, List.mem_cons_of_mem _ h1, h2⟩
      · refine .inr ⟨?_, h2⟩
        simp only [List.map_cons, List.mem_cons, not_or]
        exact ⟨fun h => e h.symm, h1⟩
section
variable {P : Program} {T : TypeId} {N : Nat} {w0 : Org} {g : Gh} {s : St} {a : Act} {w w' : World}
theorem Sim.changeW (h : Sim P T N w0 g s a w) (upd : List (Nat × VH)) (hk : Keep (fun k => (∃ r, r ∈ upd.map (·.1) ∧ g.β r = some k) ∨ w.heap.size ≤ k) w w') (hl : ∀ r, r ∈ upd.map (·.1) → live s.H r) (hvh : Fut g.Rd g.Rd w w' → ∀ r vh, (r, vh) ∈ upd → HeapOK P g w' r vh) : Sim P T N w0 g ⟨s.F, upd ++ s.H⟩ a w' := by
  have hsz := hk.size
  have blk : ∀ k, k < w.heap.size → (∀ r, r ∈ upd.map (·.1) → g.β r ≠ some k) → w'.heap[k]? = w.heap[k]? := fun k hlt hn => hk.block k fun hh => by
    rcases hh with ⟨r, hr, e⟩ | hh
    · exact hn r hr e
    · omega
  have lv : ∀ q, live (upd ++ s.H) q → live s.H q := fun q hq => by
    unfold live at hq
    rcases getH_upd upd s.H q with ⟨vh, hm, e⟩ | ⟨hn, e⟩
    · exact hl q (List.mem_map.2 ⟨_, hm, rfl⟩)
    · unfold live; rwa [e] at hq
  have hf : Fut g.Rd g.Rd w w' := ⟨fun _ _ h => h, fun b o hr => World.cell?_of_block (w := w) (a := ⟨b, o, none⟩) (blk b (h.gi.rd b o hr).1 fun r hr' e => (h.gi.rd b o hr).2.2 r (hl r hr') e)⟩
  refine ⟨⟨fun r r' b h1 h2 h3 h4 => h.gi.inj r r' b (lv _ h1) (lv _ h2) h3 h4, fun q b h1 h2 => ?_, fun b o hr => ?_, ?_, fun tb htb => ?_, h.gi.org, h.gi.exs (fun _ _ h => h) fun c hc => ?_⟩, h.dn, h.nt, fun x => (h.hF x).move hf (fun _ h => h) fun _ _ => ⟨rfl, rfl⟩, fun q => ?_⟩
  · obtain ⟨a1, a2, a3⟩ := h.gi.bd q b (lv _ h1) h2
    exact ⟨a1, by omega, a3⟩
  · obtain ⟨a1, a2, a3⟩ := h.gi.rd b o hr
    exact ⟨by omega, a2, fun q hq => a3 q (lv _ hq)⟩
  · refine h.gi.keep.trans (hk.mono fun c hc => ?_)
    rcases hc with ⟨r, hr, e⟩ | hc
    · exact .inr (h.gi.bd r c (hl r hr) e).1
    · exact .inr (.inl (Nat.le_trans h.gi.sz hc))
  · obtain ⟨a1, a2⟩ := h.gi.tape tb htb
    exact ⟨by omega, a2.keep hf (blk tb a1 fun r hr e => (h.gi.bd r tb (hl r hr) e).2.2 htb)⟩
  · obtain ⟨c1, c2, c3, c4, c5⟩ := hc
    exact ⟨blk c c2 fun r hr e => c5 r (hl r hr) e, c3, c4, fun q hq => c5 q (lv _ hq)⟩
  · show HeapOK P g w' q (getH (upd ++ s.H) q)
    rcases getH_upd upd s.H q with ⟨vh, hm, e⟩ | ⟨hn, e⟩
    · rw [e]; exact hvh hf q vh hm
    · rw [e]
      refine (h.hH q).move hf (fun _ h => h) (fun _ _ => ⟨rfl, rfl⟩) (fun b hl' hb => blk b (h.gi.bd q b hl' hb).2.1 fun r hr e' => hn ?_) fun _ _ h => h
      rw [← h.gi.inj r q b (hl r hr) hl' e' hb]; exact hr
end
theorem p_nc {k : Wk} {w0 : Org} {s : St} {o : Oper} {x : Operand} {c : CV} (ho : o.op = .nilCheck x) (hx : s.ev x = .one c) (hc : c.ptr = true) : OpP k w0 s o (.one c) := fun g a w hs => by
  have h := hs.ev x; rw [hx] at h
  rcases nilCheck_ok h.one_inv hc with ⟨v, e⟩ | ⟨f, vs, e⟩
  · exact ⟨a.eval x, fun w' => by simp [execOp, ho, e], h⟩
  · exact ⟨a.eval x, fun w' => by simp [execOp, ho, e], h⟩
section
variable {P : Program} {T : TypeId} {N : Nat} {w0 : Org} {s : St} {o : Oper} {d : Nat}
theorem opr_callwJ {j : Nat} {f : FuncId} {xs : Array Operand} {ts : Array TypeId} {args : List SV} {v : SV} {tt e sz : Nat} {cs cs0 cs' : List CV} {rows rows' : List (List Cell)} (r0 r1 : Nat) (ho : o.op = .call { callee := .value (.func f), args := xs, argTypes := ts }) (hd : o.dst = some d) (hN : d < N)
    (hic : IChJ j P T f true args [.blk tt cs, .arr e sz rows] (fun x y => x = v ∧ y = [.blk tt cs', .arr e sz rows'])) (hj : args[j]? = some (.one (.ref 0 0))) (hne : r0 ≠ r1) (h0 : getH s.H r0 = .blk tt cs0) (hcs : CV.upnL [r0, r1] cs = cs0) (hr : getH s.H r1 = .arr e sz rows) (ha : ArgN P T s [r0, r1] false xs.toList args) (hok : CV.oknL 2 true cs = true) (hok' : CV.oknL 2 true cs' = true) (hv : v.okn 2 true = true) (hfr : othH [r0, r1] r1 s.H = true) :
    OpR P T N w0 s o (fun s' => s' = (St.mk (killF r1 s.F) ((r0, .blk tt (CV.upnL [r0, r1] cs')) :: (r1, .arr e sz rows') :: s.H)).put d (v.upn [r0, r1])) := by
  intro g a w hs K Q hK
  refine callh_at (ρ := [r0, r1]) (k := true) (hh' := [.blk tt cs', .arr e sz rows']) (F' := killF r1 s.F) ho hd hN hic ⟨by simp [hne], rfl, fun i q vh h1 h2 => ?_⟩ ha (fun _ => ⟨⟨by simp, by simp⟩, hj⟩) rfl (fun i vh h1 => ?_) hv (fun x => ?_) (fun x hx i q h1 h2 => ?_) hs (fun h => by cases h) K Q hK
  · match i, h1, h2 with
    | 0, h1, h2 => simp at h1 h2; subst h1 h2; exact ⟨by rw [h0, ← hcs]; rfl, hok⟩
    | 1, h1, h2 => simp at h1 h2; subst h1 h2; exact ⟨hr, rfl⟩
    | i + 2, h1, h2 => simp at h1
  · match i, h1 with
    | 0, h1 => simp at h1; subst h1; exact hok'
    | 1, h1 => simp at h1; subst h1; rfl
    | i + 2, h1 => simp at h1
  · rcases kill1_ok (r := r1) (s := s) x with h | ⟨h1, h2⟩
    · exact .inl h
    · refine .inr ⟨h1, fun i q hi hk => ?_⟩
      match i, hi, hk with
      | 0, hi, hk => exact absurd rfl (hk rfl)
      | 1, hi, hk => simp at hi; subst hi; exact h2
      | i + 2, hi, hk => simp at hi
  · match i, h1, h2 with
    | 0, h1, h2 => exact absurd rfl (h2 rfl)
    | 1, h1, h2 => simp at h1; subst h1; exact othH_get hfr hx
    | i + 2, h1, h2 => simp at h1
end
section
variable {k : Wk} {w0 : Org} {ops : Array Oper} {l : List Oper} {Q : St → Prop} {F F' : List (Nat × SV)} {H : List (Nat × VH)} {d t : Nat} {p : String} {af : Array Edge}
theorem v_callwG {pre : Prop} {f : FuncId} {xs : Array Operand} {ts : Array TypeId} {args : List SV} {v v1 : SV} {tt e sz : Nat} {cs cs0 cs' cs1 : List CV} {rows rows' : List (List Cell)} (r0 r1 : Nat) (hN : Nat.blt d k.N = true) (hk : k.P = Try.prog ∧ k.T = 25) (hne : Nat.beq r0 r1 = false) (h0 : getH H r0 = .blk tt cs0) (hr : getH H r1 = .arr e sz rows) (hic : ICw pre f (.one (.ref 0 0) :: args) tt cs e sz rows v cs' rows') (hcs : CV.upnL [r0, r1] cs = cs0)
    (ha : ArgN k.P k.T ⟨F, H⟩ [r0, r1] false xs.toList (.one (.ref 0 0) :: args)) (hok : CV.oknL 2 true cs = true) (hok' : CV.oknL 2 true cs' = true) (hkl : killK r1 F (fun a => some a) = some F') (hfr : othH [r0, r1] r1 H = true) (hc1 : CV.upnL [r0, r1] cs' = cs1) (hv : v.okn 2 true = true) (hv1 : v.upn [r0, r1] = v1) (hp : pre) (h : rg k w0 ops l Q ⟨(d, v1) :: F', (r0, .blk tt cs1) :: (r1, .arr e sz rows') :: H⟩) :
    rg k w0 ops (⟨some d, .call { callee := .value (.func f), args := xs, argTypes := ts }, t, p, af, none⟩ :: l) Q ⟨F, H⟩ := by
  rw [killK_eq] at hkl
  injection hkl with hkl
  subst hkl hc1 hv1
  exact rgI (irg_h rfl (opr_callwJ (j := 0) (rows' := rows') r0 r1 rfl rfl (nlt hN) (by rw [hk.1, hk.2]; exact hic hp) rfl (fun e => by rw [beq_eq, decide_eq_true e] at hne; cases hne) h0 hcs hr ha hok hok' hv hfr) (rgO h))
theorem v_callx {pre : Prop} {f : FuncId} {xs : Array Operand} {ts : Array TypeId} {args : List SV} {a0 v v1 : SV} {tt e sz : Nat} {cs cs0 cs' cs1 : List CV} {rows rows' : List (List Cell)} (r0 r1 : Nat) (hN : Nat.blt d k.N = true) (hk : k.P = Try.prog ∧ k.T = 25) (hne : Nat.beq r0 r1 = false) (h0 : getH H r0 = .blk tt cs0) (hr : getH H r1 = .arr e sz rows) (hic : ICx pre f (a0 :: .one (.ref 0 0) :: args) tt cs e sz rows v cs' rows') (hcs : CV.upnL [r0, r1] cs = cs0)
    (ha : ArgN k.P k.T ⟨F, H⟩ [r0, r1] false xs.toList (a0 :: .one (.ref 0 0) :: args)) (hok : CV.oknL 2 true cs = true) (hok' : CV.oknL 2 true cs' = true) (hkl : killK r1 F (fun a => some a) = some F') (hfr : othH [r0, r1] r1 H = true) (hc1 : CV.upnL [r0, r1] cs' = cs1) (hv : v.okn 2 true = true) (hv1 : v.upn [r0, r1] = v1) (hp : pre) (h : rg k w0 ops l Q ⟨(d, v1) :: F', (r0, .blk tt cs1) :: (r1, .arr e sz rows') :: H⟩) :
    rg k w0 ops (⟨some d, .call { callee := .value (.func f), args := xs, argTypes := ts }, t, p, af, none⟩ :: l) Q ⟨F, H⟩ := by
  rw [killK_eq] at hkl
  injection hkl with hkl
  subst hkl hc1 hv1
  exact rgI (irg_h rfl (opr_callwJ (j := 1) (rows' := rows') r0 r1 rfl rfl (nlt hN) (by rw [hk.1, hk.2]; exact hic hp) rfl (fun e => by rw [beq_eq, decide_eq_true e] at hne; cases hne) h0 hcs hr ha hok hok' hv hfr) (rgO h))
theorem v_callw0G {pre : Prop} {f : FuncId} {xs : Array Operand} {ts : Array TypeId} {args : List SV} {v v1 : SV} {tt e sz : Nat} {cs cs0 cs' cs1 cs2 : List CV} {rows' : List (List Cell)} (r0 : Nat) (hN : Nat.blt d k.N = true) (hk : k.P = Try.prog ∧ k.T = 25) (hne : Nat.beq r0 d = false) (h0 : getH H r0 = .blk tt cs0) (hic : ICw pre f (.one (.ref 0 0) :: args) tt cs e sz [] v cs' rows') (hcs : CV.unzL d (CV.upnL [r0, d] cs) = cs0) (hc2 : CV.upnL [r0, d] cs = cs2) (hfr : (St.mk F H).fresh d = true)
    (ha : ArgN k.P k.T ⟨F, (r0, .blk tt cs2) :: (d, .arr e sz []) :: H⟩ [r0, d] false xs.toList (.one (.ref 0 0) :: args)) (hok : CV.oknL 2 true cs = true) (hok' : CV.oknL 2 true cs' = true) (hc1 : CV.upnL [r0, d] cs' = cs1) (hv : v.okn 2 true = true) (hv1 : v.upn [r0, d] = v1) (hp : pre) (h : rg k w0 ops l Q ⟨(d, v1) :: F, (r0, .blk tt cs1) :: (d, .arr e sz rows') :: (r0, .blk tt cs2) :: (d, .arr e sz []) :: H⟩) :
    rg k w0 ops (⟨some d, .call { callee := .value (.func f), args := xs, argTypes := ts }, t, p, af, none⟩ :: l) Q ⟨F, H⟩ := by
  subst hc1 hc2 hv1
  exact rgI (irg_h rfl (opr_callw0 (rows' := rows') r0 d rfl rfl (nlt hN) (by rw [hk.1, hk.2]; exact hic hp) (fun e => by rw [beq_eq, decide_eq_true e] at hne; cases hne) h0 hcs hfr ha hok hok' hv) (rgO h))
theorem v_callw_0 {pre : Prop} {f : FuncId} {xs : Array Operand} {ts : Array TypeId} {args : List SV} {tt e sz : Nat} {cs cs0 cs' cs1 : List CV} {rows rows' : List (List Cell)} (r0 r1 : Nat) (hN : Nat.blt d k.N = true) (hk : k.P = Try.prog ∧ k.T = 25) (hne : Nat.beq r0 r1 = false) (h0 : getH H r0 = .blk tt cs0) (hr : getH H r1 = .arr e sz rows) (hic : ICw pre f (.one (.ref 0 0) :: args) tt cs e sz rows (.tup []) cs' rows') (hcs : CV.upnL [r0, r1] cs = cs0)
    (ha : ArgN k.P k.T ⟨F, H⟩ [r0, r1] false xs.toList (.one (.ref 0 0) :: args)) (hok : CV.oknL 2 true cs = true) (hok' : CV.oknL 2 true cs' = true) (hkl : killK r1 F (fun a => some a) = some F') (hfr : othH [r0, r1] r1 H = true) (hc1 : CV.upnL [r0, r1] cs' = cs1) (hp : pre) (h : rg k w0 ops l Q ⟨(d, .tup []) :: F', (r0, .blk tt cs1) :: (r1, .arr e sz rows') :: H⟩) :
    rg k w0 ops (⟨some d, .call { callee := .value (.func f), args := xs, argTypes := ts }, t, p, af, none⟩ :: l) Q ⟨F, H⟩ :=
  v_callwG r0 r1 hN hk hne h0 hr hic hcs ha hok hok' hkl hfr hc1 rfl rfl hp h
theorem v_callw_2 {pre : Prop} {f : FuncId} {xs : Array Operand} {ts : Array TypeId} {args : List SV} {c1 c2 : Cell} {tt e sz : Nat} {cs cs0 cs' cs1 : List CV} {rows rows' : List (List Cell)} (r0 r1 : Nat) (hN : Nat.blt d k.N = true) (hk : k.P = Try.prog ∧ k.T = 25) (hne : Nat.beq r0 r1 = false) (h0 : getH H r0 = .blk tt cs0) (hr : getH H r1 = .arr e sz rows) (hic : ICw pre f (.one (.ref 0 0) :: args) tt cs e sz rows (.tup [.one (.d c1), .one (.d c2)]) cs' rows') (hcs : CV.upnL [r0, r1] cs = cs0)
    (ha : ArgN k.P k.T ⟨F, H⟩ [r0, r1] false xs.toList (.one (.ref 0 0) :: args)) (hok : CV.oknL 2 true cs = true) (hok' : CV.oknL 2 true cs' = true) (hkl : killK r1 F (fun a => some a) = some F') (hfr : othH [r0, r1] r1 H = true) (hc1 : CV.upnL [r0, r1] cs' = cs1) (hp : pre) (h : rg k w0 ops l Q ⟨(d, .tup [.one (.d c1), .one (.d c2)]) :: F', (r0, .blk tt cs1) :: (r1, .arr e sz rows') :: H⟩) :
    rg k w0 ops (⟨some d, .call { callee := .value (.func f), args := xs, argTypes := ts }, t, p, af, none⟩ :: l) Q ⟨F, H⟩ :=
  v_callwG r0 r1 hN hk hne h0 hr hic hcs ha hok hok' hkl hfr hc1 rfl rfl hp h
theorem v_callx_1 {pre : Prop} {f : FuncId} {xs : Array Operand} {ts : Array TypeId} {args : List SV} {a0 : SV} {c : Cell} {tt e sz : Nat} {cs cs0 cs' cs1 : List CV} {rows rows' : List (List Cell)} (r0 r1 : Nat) (hN : Nat.blt d k.N = true) (hk : k.P = Try.prog ∧ k.T = 25) (hne : Nat.beq r0 r1 = false) (h0 : getH H r0 = .blk tt cs0) (hr : getH H r1 = .arr e sz rows) (hic : ICx pre f (a0 :: .one (.ref 0 0) :: args) tt cs e sz rows (.one (.d c)) cs' rows') (hcs : CV.upnL [r0, r1] cs = cs0)
    (ha : ArgN k.P k.T ⟨F, H⟩ [r0, r1] false xs.toList (a0 :: .one (.ref 0 0) :: args)) (hok : CV.oknL 2 true cs = true) (hok' : CV.oknL 2 true cs' = true) (hkl : killK r1 F (fun a => some a) = some F') (hfr : othH [r0, r1] r1 H = true) (hc1 : CV.upnL [r0, r1] cs' = cs1) (hp : pre) (h : rg k w0 ops l Q ⟨(d, .one (.d c)) :: F', (r0, .blk tt cs1) :: (r1, .arr e sz rows') :: H⟩) :
    rg k w0 ops (⟨some d, .call { callee := .value (.func f), args := xs, argTypes := ts }, t, p, af, none⟩ :: l) Q ⟨F, H⟩ :=
  v_callx r0 r1 hN hk hne h0 hr hic hcs ha hok hok' hkl hfr hc1 rfl rfl hp h
theorem v_callw0_0 {pre : Prop} {f : FuncId} {xs : Array Operand} {ts : Array TypeId} {args : List SV} {tt e sz : Nat} {cs cs0 cs' cs1 cs2 : List CV} {rows' : List (List Cell)} (r0 : Nat) (hN : Nat.blt d k.N = true) (hk : k.P = Try.prog ∧ k.T = 25) (hne : Nat.beq r0 d = false) (h0 : getH H r0 = .blk tt cs0) (hic : ICw pre f (.one (.ref 0 0) :: args) tt cs e sz [] (.tup []) cs' rows') (hcs : CV.unzL d (CV.upnL [r0, d] cs) = cs0) (hc2 : CV.upnL [r0, d] cs = cs2) (hfr : (St.mk F H).fresh d = true)
    (ha : ArgN k.P k.T ⟨F, (r0, .blk tt cs2) :: (d, .arr e sz []) :: H⟩ [r0, d] false xs.toList (.one (.ref 0 0) :: args)) (hok : CV.oknL 2 true cs = true) (hok' : CV.oknL 2 true cs' = true) (hc1 : CV.upnL [r0, d] cs' = cs1) (hp : pre) (h : rg k w0 ops l Q ⟨(d, .tup []) :: F, (r0, .blk tt cs1) :: (d, .arr e sz rows') :: (r0, .blk tt cs2) :: (d, .arr e sz []) :: H⟩) :
    rg k w0 ops (⟨some d, .call { callee := .value (.func f), args := xs, argTypes := ts }, t, p, af, none⟩ :: l) Q ⟨F, H⟩ :=
  v_callw0G r0 hN hk hne h0 hic hcs hc2 hfr ha hok hok' hc1 rfl rfl hp h
end
section
variable {τ : List TyI} {fn : Func} {F : List (Nat × SV)} {H : List (Nat × VH)} {α : Type} {f : α → List Cell} {xs x0 : List α} {e sz n : Nat} {u : Value} {ex : Exit} {t t1 : Tmp} {c1 c2 d1 d2 : Cell}
theorem r_hw0 {tt : Nat} {cs cs0 : List CV} (he : ex = .ret ∨ ex = .normal) (hr : fn.results = #[]) (hH0 : getH H 0 = .blk tt cs) (hH : getH H 1 = .arr e sz (xs.map f)) (hp : getH H 1000 = .pin u (.ref 0 0)) (hx : cs = cs0 ∧ xs = x0) : RetQh τ fn true u (fun x y => x = .tup [] ∧ y = [.blk tt cs0, .arr e sz (x0.map f)]) ex ⟨F, H⟩ := by
  obtain ⟨rfl, rfl⟩ := hx
  refine ⟨he, [], [], [.blk tt cs, .arr e sz (xs.map f)], [], _, ⟨.nil, .cons ?_ (.cons ?_ (.cons ?_ .nil))⟩, by rw [hr]; exact .nil, .none, rfl, rfl⟩
  · show VHle [] 0 (getH H 0) _
    rw [hH0]; exact .blk rfl (CVleL.rfl_ _)
  · show VHle [] 1 (getH H 1) _
    rw [hH]; exact .arr rfl rfl
  · show VHle [] 1000 (getH H 1000) _
    rw [hp]; exact .pin (CVle.rfl_ _)
theorem r_hw2 {tt : Nat} {cs cs0 : List CV} (he : ex = .ret ∨ ex = .normal) (hr : fn.results = #[.tmp t, .tmp t1]) (hv : getF F t = .one (.d c1)) (hv1 : getF F t1 = .one (.d c2)) (h01 : Nat.beq t t1 = false) (hH0 : getH H 0 = .blk tt cs) (hH : getH H 1 = .arr e sz (xs.map f)) (hp : getH H 1000 = .pin u (.ref 0 0)) (hx : (c1 = d1 ∧ c2 = d2) ∧ cs = cs0 ∧ xs = x0) : RetQh τ fn true u (fun x y => x = .tup [.one (.d d1), .one (.d d2)] ∧ y = [.blk tt cs0, .arr e sz (x0.map f)]) ex ⟨F, H⟩ := by
  obtain ⟨⟨rfl, rfl⟩, rfl, rfl⟩ := hx
  refine ⟨he, [], [(t, .one (.d c1)), (t1, .one (.d c2))], [.blk tt cs, .arr e sz (xs.map f)], _, _, ⟨.cons ?_ (.cons ?_ .nil), .cons ?_ (.cons ?_ (.cons ?_ .nil))⟩, by rw [hr]; exact .cons (.tmp t) (.cons (.tmp t1) .nil), .two _ _ _, ?_, rfl⟩
  · rw [hv]; exact .one (.d rfl)
  · rw [hv1]; exact .one (.d rfl)
  · show VHle [] 0 (getH H 0) _
    rw [hH0]; exact .blk rfl (CVleL.rfl_ _)
  · show VHle [] 1 (getH H 1) _
    rw [hH]; exact .arr rfl rfl
  · show VHle [] 1000 (getH H 1000) _
    rw [hp]; exact .pin (CVle.rfl_ _)
  · rw [beq_eq] at h01
    simp only [getF, beq_eq, h01, decide_true, cond_true, cond_false]
end
def OwnS {α : Type} (φ : α → Prop) (vv : α → SV) (hh : α → List (Nat × VH)) (x : SV) (y : List (Nat × VH)) : Prop := ∃ a, φ a ∧ x = vv a ∧ y = hh a
def ICsn {α : Type} (pre : Prop) (f : Nat) (args : List SV) (φ : α → Prop) (vv : α → SV) (hh : α → List (Nat × VH)) : Prop := pre → ICo Try.prog 25 f args (OwnS φ vv hh)
section
variable {P : Program} {T : TypeId} {N : Nat} {w0 : Org} {s : St} {o : Oper}
theorem opr_callos {α : Type} {φ : α → Prop} {vv : α → SV} {hh : α → List (Nat × VH)} {f : FuncId} {xs : Array Operand} {ts : Array TypeId} {args : List SV} {d : Nat} (B : Nat) (ho : o.op = .call { callee := .value (.func f), args := xs, argTypes := ts }) (hd : o.dst = some d) (hN : d < N) (hic : ICo P T f args (OwnS φ vv hh))
    (ha : PsSL P T s true xs.toList args) (hF : undF B s.F = true) (hH : undH B s.H = true) : OpR P T N w0 s o (fun s' => ∃ a, φ a ∧ s' = (St.mk s.F (renH B (hh a) ++ s.H)).put d ((vv a).ren B)) := by
  intro g a w hs K Q hK
  obtain ⟨k1, k2⟩ := ha.rep hs
  have hrun : (execOp a.eval o).run P w = .ok (.enter f (xs.map a.eval)) w := by
    simp only [execOp, ho, Sem.run_bind, resolve, Act.eval, Deferred.ofValue, Sem.run_pure, Result.andThen_ok, invoke]
    have := hic.1 (#[] ++ xs.map a.eval ++ #[]) w
    simpa using this
  unfold Oper.wp
  rw [hrun, Oper.upon_enter]
  refine (hic.2 (psG g s.H w true) w (xs.map a.eval) (fun _ => rfl) (ps_gi hs true) (by simpa using k1) fun j v sv hv hsv => k2 j v sv (by simpa using hv) hsv).mono fun e w' ⟨u, sv, H', g', ⟨x, hx, h1, h2⟩, h3, h4, h5, h6⟩ => ?_
  subst h1; subst h2; subst h3
  have hj := hs.join hF hH h5 h6
  refine hK (g.join g' B) _ _ _ ⟨x, hx, rfl⟩ ?_
  rw [hd]
  exact hj.put hN h4.ren
end
section
variable {k : Wk} {w0 : Org} {ops : Array Oper} {l : List Oper} {Q : St → Prop} {F : List (Nat × SV)} {H : List (Nat × VH)} {d t : Nat} {p : String} {af : Array Edge}
theorem v_callos (B : Nat) {α : Type} {φ : α → Prop} {vv : α → SV} {hh : α → List (Nat × VH)} {pre : Prop} {R : α → Prop} {f : FuncId} {xs : Array Operand} {ts : Array TypeId} {args : List SV} {v2 : α → SV} {H2 : α → List (Nat × VH)} (hN : Nat.blt d k.N = true) (hk : k.P = Try.prog ∧ k.T = 25) (hic : ICsn pre f args φ vv hh) (ha : PsSL k.P k.T ⟨F, H⟩ true xs.toList args) (hF : undF B F = true) (hH : undH B H = true) (hv : ∀ a, (vv a).ren B = v2 a) (hH2 : ∀ a, renH B (hh a) ++ H = H2 a) (hP : Hld (Chk pre (∀ x, φ x → R x)))
    (h : ∀ a, φ a → Hld (R a) → rg k w0 ops l Q ⟨(d, v2 a) :: F, H2 a⟩) : rg k w0 ops (⟨some d, .call { callee := .value (.func f), args := xs, argTypes := ts }, t, p, af, none⟩ :: l) Q ⟨F, H⟩ := by
  have hic2 : ICo k.P k.T f args (OwnS φ vv hh) := by
    rw [hk.1, hk.2]; exact hic (chk_c hP)
  refine rgI (irg_op rfl (opr_callos B rfl rfl (nlt hN) hic2 ha hF hH) fun s' ⟨a, h1, h2⟩ => ?_)
  subst h2
  have h3 := h a h1 ⟨(chk_p hP).out a h1⟩
  rw [← hv, ← hH2] at h3
  exact rgO h3
end
section
variable {τ : List TyI} {fn : Func} {F : List (Nat × SV)} {H : List (Nat × VH)} {α : Type} {φ : α → Prop}
theorem o_as {β : Type} {mk : Int → List β → α} {vv : α → SV} {hh : α → List (Nat × VH)} {row : β → List Cell} {s : St} {t : Tmp} {ty r off n tt r1 e sz m : Nat} {cs : List CV} {fs zs} {z : Int} {xs : List β} (hr : fn.results = #[.cell t ty]) (hv : getF s.F t = .one (.ref r off)) (hH : getH s.H r = .blk tt cs) (ht : tyAt τ ty = .st n fs zs) (hle : off + n ≤ cs.length)
    (hcs : (cs.drop off).take n = [.d (.int .i64 z), .sl r1 m sz]) (hH1 : getH s.H r1 = .arr e sz (xs.map row)) (hm : m = xs.length) (hvv : vv (mk z xs) = .agg [.d (.int .i64 z), .sl r1 xs.length sz]) (hhh : hh (mk z xs) = [(r1, .arr e sz (xs.map row))]) (hp : φ (mk z xs)) : RetQo τ fn (OwnS φ vv hh) .ret s := by
  refine o_c hr hv hH ht hle (H := [(r1, .arr e sz (xs.map row))]) (.cons (by show VHle [] r1 (getH s.H r1) _; rw [hH1]; exact .arr rfl rfl) .nil) ⟨mk z xs, hp, ?_, hhh.symm⟩
  rw [hcs, hvv, hm]
end
section
variable {P : Program} {T : TypeId} {N : Nat} {w0 : Org} {s : St} {o : Oper}
theorem opr_colf {f : FuncId} {xs : Array Operand} {ts : Array TypeId} {args : List SV} {et d : Nat} {zs : List Int} (ho : o.op = .call { callee := .value (.func f), args := xs, argTypes := ts }) (hd : o.dst = some d) (hN : d < N) (hic : ICo P T f args (OwnL et 1 (zs.map irow)))
    (ha : PsSL P T s false xs.toList args) : OpR P T N w0 s o (fun s' => s' = s.put d (.one (.d (.list (zs.map irow))))) := by
  intro g a w hs K Q hK
  obtain ⟨k1, k2⟩ := ha.rep hs
  have hrun : (execOp a.eval o).run P w = .ok (.enter f (xs.map a.eval)) w := by
    simp only [execOp, ho, Sem.run_bind, resolve, Act.eval, Deferred.ofValue, Sem.run_pure, Result.andThen_ok, invoke]
    have := hic.1 (#[] ++ xs.map a.eval ++ #[]) w
    simpa using this
  unfold Oper.wp
  rw [hrun, Oper.upon_enter]
  refine (hic.2 (psG g s.H w false) w (xs.map a.eval) (fun _ => rfl) (ps_gi hs false) (by simpa using k1) fun j v sv hv hsv => k2 j v sv (by simpa using hv) hsv).mono fun e w' ⟨u, sv, H', g', h12, h3, h4, h5, he⟩ => ?_
  subst h3
  have hkc : ∀ b o, g.Rd b o → w'.cell? ⟨b, o, none⟩ = w.cell? ⟨b, o, none⟩ := fun b o hb => he.keep.cell (p := ⟨b, o, none⟩) fun hm => by
    obtain ⟨h1, h2, _⟩ := hs.gi.rd b o hb
    rcases hm with hm | hm
    · exact h2 hm
    · simp at hm; omega
  obtain ⟨g2, hg2⟩ : ∃ g2 : Gh, g2 = ⟨g.β, g.κ, fun b o => g.Rd b o ∨ (w.heap.size ≤ b ∧ b < w'.heap.size), g.tp, g.tl, g.ex⟩ := ⟨_, rfl⟩
  have hext : Ext T g g2 w w' := by
    subst hg2
    refine ⟨rfl, rfl, rfl, rfl, fun _ _ h => .inl h, fun b o h => h, he.keep, fun tb htb => ?_, rfl⟩
    obtain ⟨⟨k, h1, h2⟩, h3, _⟩ := he.tape tb htb
    obtain ⟨_, _, h4⟩ := (hs.gi.tape tb htb).2
    refine ⟨⟨k, h1, h2⟩, h3, fun i hi => ?_⟩
    obtain ⟨b, o, e, q1, q2⟩ := h4 i hi
    exact ⟨b, o, e, .inl q1, (hkc b _ q1).trans q2⟩
  have hnil : RepSV P g2 w' (.slice none 0 0) (.one (.d (.list (([] : List Int).map irow)))) := .one (.d (.list none 0 [] 1 (fun _ _ => undef) (fun _ => rfl) (by simp) (by simp [maxLen]) (fun row hr => by cases hr) (fun i j hi => by simp at hi) (fun i j row x hi => by simp at hi)))
  have hrep : RepSV P g2 w' u (.one (.d (.list (zs.map irow)))) := by
    rcases h12 with ⟨h1, h2, h0⟩ | ⟨r, h1, h2⟩
    · subst h1 h2
      have : zs = [] := by simpa using h0
      subst this
      cases h4 with
      | one h4 => cases h4; exact hnil
    · subst h1 h2
      have hh := h5.hH r
      have hg : getH [(r, VH.arr et 1 (zs.map irow))] r = .arr et 1 (zs.map irow) := by simp [getH]
      have hl : live [(r, VH.arr et 1 (zs.map irow))] r := by unfold live; rw [hg]; rfl
      rw [hg] at hh
      obtain ⟨q0, q⟩ := hh
      have hz : ∀ b' vals, w'.heap[b']? = some (.cells vals et (0, 0)) → g'.β r = some b' → vals.size = g'.κ r * 1 → (zs.map irow).length ≤ g'.κ r → g'.κ r ≤ maxLen → (∀ (i j : Nat) (row : List Cell) (x : Cell), (zs.map irow)[i]? = some row → row[j]? = some x → ∃ u, vals[i * 1 + j]? = some u ∧ RepCell g'.Rd w' u x) → RepSV P g2 w' (.slice (some ⟨b', 0, none⟩) (zs.map irow).length (g'.κ r)) (.one (.d (.list (zs.map irow)))) := fun b' vals hb hβ q2 q3 q4 q5 => by
        have hbd := h5.bd r b' hl hβ
        refine .one (.d (.list (some ⟨b', 0, none⟩) (g'.κ r) (zs.map irow) 1 (fun i j => (vals[i * 1 + j]?).getD undef) (fun h => by cases h) q3 q4 q0 (fun i j hi hj => ?_) (fun i j row x hi hj => ?_)))
        · have hj0 : j = 0 := by omega
          subst hj0
          obtain ⟨z, hz⟩ : ∃ z, zs[i]? = some z := ⟨_, List.getElem?_eq_getElem (by simpa using hi)⟩
          obtain ⟨v, hv, _⟩ := q5 i 0 (irow z) _ (by rw [List.getElem?_map, hz]; rfl) rfl
          refine ⟨b', 0, rfl, ?_, ?_⟩
          · subst hg2; exact .inr hbd
          · rw [Blk.cell (show Blk w' b' et vals from hb), show 0 + (i * 1 + 0) = i * 1 + 0 by omega, hv]; rfl
        · obtain ⟨v, hv, hr⟩ := q5 i j row x hi hj
          rw [hv]
          rw [List.getElem?_map] at hi
          cases hzi : zs[i]? with
          | none => rw [hzi] at hi; cases hi
          | some z =>
            rw [hzi] at hi
            injection hi with hi
            subst hi
            match j, hj with
            | 0, hj =>
              cases hj
              cases hr with
              | int k n h => exact .int _ _ h
            | j + 1, hj => simp [irow] at hj
      cases h4 with
      | one h4 =>
        rcases q with ⟨q1, q2⟩ | ⟨b, vals, q1, q2, q3, q4, q5, q6⟩
        · have : zs = [] := by simpa using q2
          subst this
          rcases h4.sl_inv with hq | ⟨b, hb, ha, hb2, hv⟩
          · obtain ⟨a1, a2, a3⟩ := hq
            first
              | (rw [a1]; exact hnil)
              | (rw [a2]; exact hnil)
          · rw [q1] at hb; cases hb
        · rcases h4.sl_inv with hq | ⟨b2, hb, ha, hb2, hv⟩
          · obtain ⟨a1, a2, a3⟩ := hq
            rw [q1] at a3; cases a3
          · rw [q1] at hb
            injection hb with hb
            subst hb
            rw [hv]
            exact hz _ vals q2 q1 q3 q4 q5 q6
  refine hK g2 _ _ _ rfl ?_
  rw [hd]
  exact (hs.ext hext).put hN hrep
end
section
variable {k : Wk} {w0 : Org} {ops : Array Oper} {l : List Oper} {Q : St → Prop} {F : List (Nat × SV)} {H : List (Nat × VH)} {d t : Nat} {p : String} {af : Array Edge}
theorem v_colf {pre : Prop} {f : FuncId} {xs : Array Operand} {ts : Array TypeId} {args : List SV} {et : Nat} {zs : List Int} (hN : Nat.blt d k.N = true) (hk : k.P = Try.prog ∧ k.T = 25) (hic : ICq pre f args et 1 (zs.map irow)) (ha : PsSL k.P k.T ⟨F, H⟩ false xs.toList args) (hp : pre) (h : rg k w0 ops l Q ⟨(d, .one (.d (.list (zs.map irow)))) :: F, H⟩) :
    rg k w0 ops (⟨some d, .call { callee := .value (.func f), args := xs, argTypes := ts }, t, p, af, none⟩ :: l) Q ⟨F, H⟩ := by
  have hic2 : ICo k.P k.T f args (OwnL et 1 (zs.map irow)) := by
    rw [hk.1, hk.2]; exact hic hp
  exact rgI (irg_h rfl (opr_colf rfl rfl (nlt hN) hic2 ha) (rgO h))
end
end Go.Proofs.Ytcbppkfnfbdkhaa
