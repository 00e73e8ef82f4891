/- Regions that draw their order, on ideal states. -/
import Derived.Test.YtbnmcdnkeipdhaaIvl
import Derived.Still
set_option linter.all false
namespace Go.Proofs.Ytbnmcdnkeipdhaa
open Go.RowKit Go.Shelf

/-- Whatever order is picked from here on. -/
def irn (P : Program) (T : TypeId) (N : Nat) (w0 : Org) (ops : Array Oper) (n : Nat) (listed : Array Bool) (Q : St → Prop) (s : St) : Prop :=
  ∀ g a w, Sim P T N w0 g s a w → ∀ Q' : Exit → Act → World → Prop, (∀ g' s' a' w', Q s' → Sim P T N w0 g' s' a' w' → Q' .normal a' w') → (∀ a w c, ¬ Q' (.panic c) a w) → wpAny P .any ops Q' n listed a w
abbrev Ff := Nat → SV
abbrev Hf := Nat → VH
def putf (f : Ff) (d : Nat) (v : SV) : Ff := fun x => if d = x then v else f x
def puth (h : Hf) (d : Nat) (v : VH) : Hf := fun x => if d = x then v else h x
theorem putf_comm (f : Ff) {d e : Nat} (v u : SV) (h : d ≠ e) : putf (putf f d v) e u = putf (putf f e u) d v := by
  funext x
  simp only [putf]
  by_cases h1 : d = x <;> by_cases h2 : e = x <;> simp [h1, h2]
  omega
section
variable {P : Program} {T : TypeId} {N : Nat} {w0 : Org} {ops : Array Oper} {τ : List TyI}
def wantI (ops : Array Oper) (f : Ff) (o : Oper) : Option Bool :=
  match o.guard with
  | none => some true
  | some (j, w) => match (ops[j]?).bind (·.dst) with
    | some t => match f t with
      | .one (.d (.bool c)) => some (c == w)
      | .tup [] => some false
      | _ => none
    | none => none
/-- The names that may be stored into. -/
def memB : List Nat → Nat → Bool
  | [], _ => false
  | x :: l, r => bif Nat.beq x r then true else memB l r
def inW : Option (List Nat) → Nat → Bool
  | none, _ => true
  | some l, r => memB l r
def QF (P : Program) (T : TypeId) (N : Nat) (w0 : Org) (W : Option (List Nat)) (f : Ff) (h : Hf) (o : Oper) (post : SV → Prop) : Prop :=
  ∀ s : St, (∀ t, Operand.tmp t ∈ o.op.operands.toList → getF s.F t = f t) → (∀ r, inW W r = false → (h r).live = true → getH s.H r = h r) → OpQ P T N w0 s o post
def okQ (P : Program) (T : TypeId) (N : Nat) (w0 : Org) (ops : Array Oper) (W : Option (List Nat)) (f : Ff) (h : Hf) (o : Oper) (post : SV → Prop) : Prop :=
  (wantI ops f o = some true ∧ QF P T N w0 W f h o post) ∨ (wantI ops f o = some false ∧ post = fun v => v = .tup [])
structure FreshF (f : Ff) (h : Hf) (d : Nat) : Prop where
  ff : ∀ x, (f x).has d = false
  hh : ∀ r, (h r).has d = false
  ll : (h d).live = false
/-- An operation that only adds the name d to the heap. -/
def QA (P : Program) (T : TypeId) (N : Nat) (w0 : Org) (f : Ff) (h : Hf) (o : Oper) (d : Nat) (vh : VH) (sv : SV) : Prop :=
  ∀ s : St, (∀ t, Operand.tmp t ∈ o.op.operands.toList → getF s.F t = f t) → (∀ r, getH s.H r = h r) → FreshF (getF s.F) (getH s.H) d → OpR P T N w0 s o (fun s' => s' = (s.hput d vh).put d sv)
/-- An operation that only stores into what r holds. -/
def QS (P : Program) (T : TypeId) (N : Nat) (w0 : Org) (f : Ff) (h : Hf) (o : Oper) (r : Nat) (vh : VH) : Prop :=
  ∀ s : St, (∀ t, Operand.tmp t ∈ o.op.operands.toList → getF s.F t = f t) → (∀ r, getH s.H r = h r) → OpR P T N w0 s o (fun s' => s' = s.hput r vh)
def qI (P : Program) (T : TypeId) (N : Nat) (w0 : Org) (ops : Array Oper) (τ : List TyI) (W : Option (List Nat)) (j : Nat) (K : Ff → Hf → Prop) (f : Ff) (h : Hf) : Prop :=
  ∃ o, ops[j]? = some o ∧ ((∃ d, o.dst = some d ∧ d < N ∧ ((∃ wf post, okQ P T N w0 ops wf f h o post ∧ ∀ v, post v → K (putf f d v) h) ∨
    (∃ t zs, o.op = .alloc t ∧ o.guard = none ∧ (tyAt τ t).zs = some zs ∧ FreshF f h d ∧ K (putf f d (.one (.ref d 0))) (puth h d (.blk t (zs.map Z.cv)))) ∨
    (∃ vh sv, wantI ops f o = some true ∧ QA P T N w0 f h o d vh sv ∧ FreshF f h d ∧ K (putf f d sv) (puth h d vh)))) ∨
    (o.dst = none ∧ o.guard = none ∧ ∃ r vh, inW W r = true ∧ QS P T N w0 f h o r vh ∧ K f (puth h r vh)))
def AI (P : Program) (T : TypeId) (N : Nat) (w0 : Org) (ops : Array Oper) (τ : List TyI) (W : Option (List Nat)) (S : Array Bool) (Lf : Array Bool → Ff → Hf → Prop) : Nat → Array Bool → Ff → Hf → Prop
  | 0, listed, f, h => (∀ j, S.getD j false = true → listed.getD j true = true) ∧ Lf listed f h
  | n + 1, listed, f, h => Region.ready .any ops listed ≠ [] ∧ ∀ i ∈ Region.ready .any ops listed, qI P T N w0 ops τ W i (AI P T N w0 ops τ W S Lf n (listed.setIfInBounds i true)) f h
theorem wantI_put {f : Ff} {o : Oper} {d : Nat} {v : SV} (h : d ∉ o.looksAt ops) : wantI ops (putf f d v) o = wantI ops f o := by
  unfold wantI
  cases hg : o.guard with
  | none => rfl
  | some gw =>
    obtain ⟨j, w⟩ := gw
    simp only
    cases ht : (ops[j]?).bind (·.dst) with
    | none => rfl
    | some t =>
      have hne : d ≠ t := fun e => h (by subst e; simp [Oper.looksAt, hg, ht])
      simp only [putf, hne, if_false]
theorem tmp_looks {o : Oper} {t : Nat} (h : Operand.tmp t ∈ o.op.operands.toList) : t ∈ o.looksAt ops := by
  unfold Oper.looksAt
  exact List.mem_append_left _ (List.mem_filterMap.2 ⟨.tmp t, h, rfl⟩)
theorem QF_put {W : Option (List Nat)} {f : Ff} {h : Hf} {o : Oper} {d : Nat} {v : SV} {post : SV → Prop} (hd : d ∉ o.looksAt ops) : QF P T N w0 W (putf f d v) h o post ↔ QF P T N w0 W f h o post := by
  have key : ∀ t, Operand.tmp t ∈ o.op.operands.toList → putf f d v t = f t := fun t ht => by
    have hne : d ≠ t := fun e => hd (by subst e; exact tmp_looks ht)
    simp [putf, hne]
  constructor
  · intro hq s h1 h2
    exact hq s (fun t ht => (h1 t ht).trans (key t ht).symm) h2
  · intro hq s h1 h2
    exact hq s (fun t ht => (h1 t ht).trans (key t ht)) h2
theorem QA_put {f : Ff} {h : Hf} {o : Oper} {d e : Nat} {v sv : SV} {vh : VH} (hd : d ∉ o.looksAt ops) (hq : QA P T N w0 (putf f d v) h o e vh sv) : QA P T N w0 f h o e vh sv := fun s h1 h2 h3 =>
  hq s (fun t ht => (h1 t ht).trans (by
    have hne : d ≠ t := fun e => hd (by subst e; exact tmp_looks ht)
    simp [putf, hne])) h2 h3
theorem QS_put {f : Ff} {h : Hf} {o : Oper} {d r : Nat} {v : SV} {vh : VH} (hd : d ∉ o.looksAt ops) (hq : QS P T N w0 (putf f d v) h o r vh) : QS P T N w0 f h o r vh := fun s h1 h2 =>
  hq s (fun t ht => (h1 t ht).trans (by
    have hne : d ≠ t := fun e => hd (by subst e; exact tmp_looks ht)
    simp [putf, hne])) h2
theorem okQ_put {W : Option (List Nat)} {f : Ff} {h : Hf} {o : Oper} {d : Nat} {v : SV} {post : SV → Prop} (hd : d ∉ o.looksAt ops) : okQ P T N w0 ops W (putf f d v) h o post ↔ okQ P T N w0 ops W f h o post := by
  unfold okQ
  rw [wantI_put hd, QF_put (ops := ops) hd]
theorem okQ_mono {W : Option (List Nat)} {f : Ff} {h h' : Hf} {o : Oper} {post : SV → Prop} (hm : ∀ r, inW W r = false → (h r).live = true → h' r = h r) (hq : okQ P T N w0 ops W f h o post) : okQ P T N w0 ops W f h' o post := by
  rcases hq with ⟨h1, h2⟩ | hq
  · exact .inl ⟨h1, fun s q1 q2 => h2 s q1 fun r hr hl => by
      have e := hm r hr hl
      rw [q2 r hr (by rw [e]; exact hl), e]⟩
  · exact .inr hq
theorem okQ_new {W : Option (List Nat)} {f : Ff} {h : Hf} {o : Oper} {d : Nat} {vh : VH} {post : SV → Prop} (hl : (h d).live = false) (hq : okQ P T N w0 ops W f h o post) : okQ P T N w0 ops W f (puth h d vh) o post :=
  okQ_mono (fun r _ hr => by
    have : d ≠ r := fun e => by subst e; rw [hl] at hr; cases hr
    simp [puth, this]) hq
theorem okQ_st {W : Option (List Nat)} {f : Ff} {h : Hf} {o : Oper} {d : Nat} {vh : VH} {post : SV → Prop} (hl : inW W d = true) (hq : okQ P T N w0 ops W f h o post) : okQ P T N w0 ops W f (puth h d vh) o post :=
  okQ_mono (fun r hr _ => by
    have : d ≠ r := fun e => by subst e; rw [hl] at hr; cases hr
    simp [puth, this]) hq
/-- The operations that wait for i, or for one that does. -/
def addD (ops : Array Oper) (listed : Array Bool) (D : List Nat) (j : Nat) : List Nat :=
  match ops[j]? with
  | none => D
  | some oj => bif !listed.getD j true && oj.after.any (fun e => Region.binds .any e && memB D e.on) then j :: D else D
def waitD (ops : Array Oper) (listed : Array Bool) (i : Nat) : List Nat := (List.range ops.size).foldl (addD ops listed) [i]
theorem memB_iff {l : List Nat} {r : Nat} : memB l r = true ↔ r ∈ l := by
  induction l with
  | nil => simp [memB]
  | cons x l ih =>
    simp only [memB, beq_eq]
    by_cases e : x = r
    · simp [e]
    · have : ¬ r = x := fun h => e h.symm
      simp [e, ih, this]
theorem waitD_spec {listed : Array Bool} {i : Nat} : ∀ j ∈ waitD ops listed i, j ≠ i → listed.getD j true = false ∧ ∃ oj, ops[j]? = some oj ∧ ∃ e ∈ oj.after, Region.binds .any e = true ∧ e.on ∈ waitD ops listed i := by
  have key : ∀ (l : List Nat) (D : List Nat), (∀ j ∈ D, j ≠ i → listed.getD j true = false ∧ ∃ oj, ops[j]? = some oj ∧ ∃ e ∈ oj.after, Region.binds .any e = true ∧ e.on ∈ D) →
      ∀ j ∈ l.foldl (addD ops listed) D, j ≠ i → listed.getD j true = false ∧ ∃ oj, ops[j]? = some oj ∧ ∃ e ∈ oj.after, Region.binds .any e = true ∧ e.on ∈ l.foldl (addD ops listed) D := by
    intro l
    induction l with
    | nil => intro D h; exact h
    | cons k l ih =>
      intro D h
      refine ih _ fun j hj hne => ?_
      unfold addD at hj ⊢
      cases hk : ops[k]? with
      | none => rw [hk] at hj; exact h j hj hne
      | some ok =>
        rw [hk] at hj
        simp only at hj ⊢
        cases hc : (!listed.getD k true && ok.after.any (fun e => Region.binds .any e && memB D e.on)) with
        | false => rw [hc] at hj; exact h j hj hne
        | true =>
          rw [hc] at hj
          simp only [cond_true] at hj ⊢
          rw [Bool.and_eq_true] at hc
          rcases List.mem_cons.1 hj with rfl | hj
          · obtain ⟨e, he, hb⟩ := Array.any_eq_true'.1 hc.2
            rw [Bool.and_eq_true] at hb
            exact ⟨by simpa using hc.1, ok, hk, e, he, hb.1, List.mem_cons_of_mem _ (memB_iff.1 hb.2)⟩
          · obtain ⟨q1, oj, q2, e, q3, q4, q5⟩ := h j hj hne
            exact ⟨q1, oj, q2, e, q3, q4, List.mem_cons_of_mem _ q5⟩
  exact key _ _ fun j hj hne => by simp at hj; exact absurd hj hne
/-- The operations that have not come up wait for i, or are of S and apart from it. -/
def freeS (ops : Array Oper) (S listed : Array Bool) (i : Nat) : Bool :=
  match ops[i]? with
  | none => false
  | some oi => (List.range ops.size).all fun j => Nat.beq j i || listed.getD j true || memB (waitD ops listed i) j || match ops[j]? with
      | some oj => S.getD j false && oi.apart ops oj
      | none => true
theorem freeS_spec {i : Nat} {oi : Oper} {S listed : Array Bool} (hi : ops[i]? = some oi) (h : freeS ops S listed i = true) (j : Nat) (oj : Oper)
    (hj : ops[j]? = some oj) (hne : j ≠ i) (hun : listed.getD j true = false) (hno : j ∉ waitD ops listed i) :
    S.getD j false = true ∧ oi.apart ops oj = true := by
  simp only [freeS, hi, List.all_eq_true, List.mem_range] at h
  have h1 := h j (Array.getElem?_eq_some_iff.1 hj).1
  have hm : memB (waitD ops listed i) j = false := by
    rw [Bool.eq_false_iff]; exact fun h => hno (memB_iff.1 h)
  simp only [hj, Bool.or_eq_true, beq_eq, decide_eq_true_eq, hne, false_or, hun, hm, Bool.false_eq_true] at h1
  simpa using h1
/-- The stores that have not come up wait for i. -/
def stW (ops : Array Oper) (listed : Array Bool) (i : Nat) : Bool :=
  (List.range ops.size).all fun j => Nat.beq j i || listed.getD j true || memB (waitD ops listed i) j || match ops[j]? with
      | some oj => oj.dst.isSome
      | none => true
theorem stW_spec {i : Nat} {listed : Array Bool} (h : stW ops listed i = true) (j : Nat) (oj : Oper)
    (hj : ops[j]? = some oj) (hne : j ≠ i) (hun : listed.getD j true = false) (hno : j ∉ waitD ops listed i) : oj.dst ≠ none := by
  simp only [stW, List.all_eq_true, List.mem_range] at h
  have h1 := h j (Array.getElem?_eq_some_iff.1 hj).1
  have hm : memB (waitD ops listed i) j = false := by
    rw [Bool.eq_false_iff]; exact fun h => hno (memB_iff.1 h)
  simp only [hj, Bool.or_eq_true, beq_eq, decide_eq_true_eq, hne, false_or, hun, hm, Bool.false_eq_true] at h1
  intro e; rw [e] at h1; cases h1
/-- An operation that may come up, and whose value is known, may be taken first. -/
theorem AI_first {W wf : Option (List Nat)} {D : List Nat} {S : Array Bool} {Lf : Array Bool → Ff → Hf → Prop} {i d : Nat} {oi : Oper} {v : SV} (hi : ops[i]? = some oi) (hd : oi.dst = some d) (hN : d < N) (hnal : ∀ t, oi.op ≠ .alloc t) : ∀ (n : Nat) (listed : Array Bool) (f : Ff) (h : Hf),
    (∀ j ∈ D, j ≠ i → listed.getD j true = false ∧ ∃ oj, ops[j]? = some oj ∧ ∃ e ∈ oj.after, Region.binds .any e = true ∧ e.on ∈ D) → (∀ j oj, ops[j]? = some oj → j ≠ i → listed.getD j true = false → j ∉ D → S.getD j false = true ∧ oi.apart ops oj = true ∧ (oj.dst = none → wf = W)) →
    i ∈ Region.ready .any ops listed → (∀ e, (f d).has e = false) → okQ P T N w0 ops wf f h oi (fun x => x = v) → AI P T N w0 ops τ W S Lf n (listed.setIfInBounds i true) (putf f d v) h → AI P T N w0 ops τ W S Lf (n + 1) listed f h := by
  intro n
  induction n with
  | zero =>
    intro listed f h hwait hfree hr hu hok H
    refine ⟨fun e => (by rw [e] at hr; cases hr), fun j hj => ?_⟩
    by_cases hji : j = i
    · subst hji
      exact ⟨oi, hi, .inl ⟨d, hd, hN, .inl ⟨wf, _, hok, fun x hx => hx ▸ H⟩⟩⟩
    · obtain ⟨hjun, oj, hoj, hall⟩ := mem_ready.1 hj
      have hnot : j ∉ D := fun hjD => by
        obtain ⟨_, oj', q1, e, he, hb, heD⟩ := hwait j hjD hji
        obtain rfl : oj = oj' := by rw [hoj] at q1; injection q1
        have h1 := hall e he hb
        have h0 : listed.getD e.on true = false := by
          by_cases hei : e.on = i
          · rw [hei]; exact (mem_ready.1 hr).1
          · exact (hwait e.on heD hei).1
        rcases Nat.lt_or_ge e.on listed.size with h' | h'
        · simp [h'] at h0 h1; rw [h0] at h1; cases h1
        · simp [Array.getElem?_eq_none h'] at h1
      have h2 := H.1 j (hfree j oj hoj hji hjun hnot).1
      rw [getD_set_ne true (Ne.symm hji), hjun] at h2
      cases h2
  | succ n ih =>
    intro listed f h hwait hfree hr hu hok H
    refine ⟨fun e => (by rw [e] at hr; cases hr), fun j hj => ?_⟩
    by_cases hji : j = i
    · subst hji
      exact ⟨oi, hi, .inl ⟨d, hd, hN, .inl ⟨wf, _, hok, fun x hx => hx ▸ H⟩⟩⟩
    · obtain ⟨hjun, oj, hoj, hall⟩ := mem_ready.1 hj
      have hnot : j ∉ D := fun hjD => by
        obtain ⟨_, oj', q1, e, he, hb, heD⟩ := hwait j hjD hji
        obtain rfl : oj = oj' := by rw [hoj] at q1; injection q1
        have h1 := hall e he hb
        have h0 : listed.getD e.on true = false := by
          by_cases hei : e.on = i
          · rw [hei]; exact (mem_ready.1 hr).1
          · exact (hwait e.on heD hei).1
        rcases Nat.lt_or_ge e.on listed.size with h' | h'
        · simp [h'] at h0 h1; rw [h0] at h1; cases h1
        · simp [Array.getElem?_eq_none h'] at h1
      have hfr := hfree j oj hoj hji hjun hnot
      obtain ⟨p1, p2, p3⟩ := Oper.apart_spec hfr.2.1
      obtain ⟨o', q1, q4⟩ := H.2 j (ready_mono hj hji)
      obtain rfl : oj = o' := by rw [hoj] at q1; injection q1
      have hfree' : ∀ k ok, ops[k]? = some ok → k ≠ i → (listed.setIfInBounds j true).getD k true = false →
          k ∉ D → S.getD k false = true ∧ oi.apart ops ok = true ∧ (ok.dst = none → wf = W) := fun k ok hk hki hun hno => by
        refine hfree k ok hk hki ?_ hno
        by_cases hjk : j = k
        · subst hjk; exact hjun
        · rw [getD_set_ne true hjk] at hun; exact hun
      have hwait' : ∀ k ∈ D, k ≠ i → (listed.setIfInBounds j true).getD k true = false ∧ ∃ ok, ops[k]? = some ok ∧ ∃ e ∈ ok.after, Region.binds .any e = true ∧ e.on ∈ D := fun k hk hki => by
        obtain ⟨q1, q2⟩ := hwait k hk hki
        refine ⟨?_, q2⟩
        rw [getD_set_ne true (fun e => hnot (by rw [e]; exact hk))]
        exact q1
      refine ⟨oj, hoj, ?_⟩
      rcases q4 with ⟨e, q2, q3, q4⟩ | ⟨q2, q3, r, vh, k1, k2, k3⟩
      · have hde : d ≠ e := fun he => p2 d hd (by rw [q2, he])
        refine .inl ⟨e, q2, q3, ?_⟩
        rcases q4 with ⟨wj, post, k1, k2⟩ | ⟨t, zs, k1, k2, k3, k4, k5⟩ | ⟨vh, sv, k2, k3, k4, k5⟩
        · refine .inl ⟨wj, post, (okQ_put (p1 d hd)).1 k1, fun u hpu => ?_⟩
          refine ih (listed.setIfInBounds j true) _ _ hwait' hfree' (ready_mono hr (Ne.symm hji)) (fun q => ?_) ((okQ_put (p3 e q2)).2 hok) ?_
          · simp only [putf, Ne.symm hde, if_false]; exact hu q
          · rw [Array.setIfInBounds_comm _ _ hji, putf_comm _ _ _ (Ne.symm hde)]
            exact k2 u hpu
        · refine .inr (.inl ⟨t, zs, k1, k2, k3, ⟨fun x => ?_, k4.hh, k4.ll⟩, ?_⟩)
          · have := k4.ff x
            simp only [putf] at this
            by_cases hx : d = x
            · subst hx; exact hu e
            · rwa [if_neg hx] at this
          · refine ih (listed.setIfInBounds j true) _ _ hwait' hfree' (ready_mono hr (Ne.symm hji)) (fun q => ?_) (okQ_new k4.ll ((okQ_put (p3 e q2)).2 hok)) ?_
            · simp only [putf, Ne.symm hde, if_false]; exact hu q
            · rw [Array.setIfInBounds_comm _ _ hji, putf_comm _ _ _ (Ne.symm hde)]
              exact k5
        · refine .inr (.inr ⟨vh, sv, by rw [← wantI_put (p1 d hd)]; exact k2, QA_put (p1 d hd) k3, ⟨fun x => ?_, k4.hh, k4.ll⟩, ?_⟩)
          · have := k4.ff x
            simp only [putf] at this
            by_cases hx : d = x
            · subst hx; exact hu e
            · rwa [if_neg hx] at this
          · refine ih (listed.setIfInBounds j true) _ _ hwait' hfree' (ready_mono hr (Ne.symm hji)) (fun q => ?_) (okQ_new k4.ll ((okQ_put (p3 e q2)).2 hok)) ?_
            · simp only [putf, Ne.symm hde, if_false]; exact hu q
            · rw [Array.setIfInBounds_comm _ _ hji, putf_comm _ _ _ (Ne.symm hde)]
              exact k5
      · refine .inr ⟨q2, q3, r, vh, k1, QS_put (p1 d hd) k2, ?_⟩
        refine ih (listed.setIfInBounds j true) _ _ hwait' hfree' (ready_mono hr (Ne.symm hji)) hu (okQ_st (by rw [hfr.2.2 q2]; exact k1) hok) ?_
        rw [Array.setIfInBounds_comm _ _ hji]
        exact k3
theorem wanted_of {f : Ff} {s : St} {a : Act} {w : World} {g : Gh} {o : Oper} (hs : Sim P T N w0 g s a w) (h1 : ∀ x, getF s.F x = f x) (w1 : wantI ops f o = some true) : Region.wanted o (yielded ops a.tmps) = true := by
  unfold wantI at w1
  cases hg : o.guard with
  | none => simp [Region.wanted, hg]
  | some gw =>
    obtain ⟨j, w'⟩ := gw
    rw [hg] at w1
    simp only at w1
    cases ht : (ops[j]?).bind (·.dst) with
    | none => rw [ht] at w1; cases w1
    | some t =>
      rw [ht] at w1
      simp only at w1
      split at w1
      · rename_i c hc
        have hy := yielded_of hs ht (by rw [h1]; exact hc)
        simp [Region.wanted, hg, hy]
        simpa using w1
      · cases w1
      · cases w1
/-- It is a wpAny. -/
theorem AI_sound (hτ : tabB P 0 τ = true) {W : Option (List Nat)} {S : Array Bool} {Lf : Array Bool → Ff → Hf → Prop} {m : Nat} {Q : St → Prop} (hL : ∀ listed f h s, Lf listed f h → (∀ x, getF s.F x = f x) → (∀ r, getH s.H r = h r) → irn P T N w0 ops m listed Q s) : ∀ (n : Nat) (listed : Array Bool) (f : Ff) (h : Hf) (s : St),
    AI P T N w0 ops τ W S Lf n listed f h → (∀ x, getF s.F x = f x) → (∀ r, getH s.H r = h r) → irn P T N w0 ops (n + m) listed Q s := by
  intro n
  induction n with
  | zero => intro listed f h s H h1 h2; rw [Nat.zero_add]; exact hL listed f h s H.2 h1 h2
  | succ n ih =>
    intro listed f h s H h1 h2 g a w hs Q' hQ hnp
    rw [show n + 1 + m = (n + m) + 1 by omega]
    refine ⟨fun e => absurd e H.1, fun i hi => ?_⟩
    obtain ⟨o, q1, q4⟩ := H.2 i hi
    unfold wpOp
    rw [q1]
    simp only
    rcases q4 with ⟨d, q2, q3, q4⟩ | ⟨q2, q3, r, vh, k1, k2, k3⟩
    · have hput : ∀ (v : SV) (x : Nat), getF (s.put d v).F x = putf f d v x := fun v x => by
        rw [get_put]; simp only [putf]; by_cases e : d = x <;> simp [e, h1]
      rcases q4 with ⟨wj, post, k1, k2⟩ | ⟨t, zs, k1, k2, k3, k4, k5⟩ | ⟨vh, sv, k2, k3, k4, k5⟩
      · rcases k1 with ⟨w1, w2⟩ | ⟨w1, w2⟩
        · have hw : Region.wanted o (yielded ops a.tmps) = true := by
            unfold wantI at w1
            cases hg : o.guard with
            | none => simp [Region.wanted, hg]
            | some gw =>
              obtain ⟨j, w'⟩ := gw
              rw [hg] at w1
              simp only at w1
              cases ht : (ops[j]?).bind (·.dst) with
              | none => rw [ht] at w1; cases w1
              | some t =>
                rw [ht] at w1
                simp only at w1
                split at w1
                · rename_i c hc
                  have hy := yielded_of hs ht (by rw [h1]; exact hc)
                  simp [Region.wanted, hg, hy]
                  simpa using w1
                · cases w1
                · cases w1
          rw [if_pos hw]
          refine .inl (w2 s (fun t _ => h1 t) (fun r _ _ => h2 r) g a w hs _ _ fun v w' ⟨g', sv, e1, e2, e3⟩ => ?_)
          rw [q2]
          exact ih _ _ _ (s.put d sv) (k2 sv e1) (hput sv) h2 g' _ _ ((hs.ext e2).put q3 e3) Q' hQ hnp
        · have hw : Region.wanted o (yielded ops a.tmps) = false := by
            unfold wantI at w1
            cases hg : o.guard with
            | none => rw [hg] at w1; simp at w1
            | some gw =>
              obtain ⟨j, w'⟩ := gw
              rw [hg] at w1
              simp only at w1
              cases ht : (ops[j]?).bind (·.dst) with
              | none => rw [ht] at w1; cases w1
              | some t =>
                rw [ht] at w1
                simp only at w1
                split at w1
                · rename_i c hc
                  have hy := yielded_of hs ht (by rw [h1]; exact hc)
                  simp [Region.wanted, hg, hy]
                  simpa using w1
                · rename_i hc
                  have hy := yielded_z hs ht (by rw [h1]; exact hc)
                  simp [Region.wanted, hg, hy]
                · cases w1
          rw [if_neg (by simp [hw]), q2]
          exact ih _ _ _ (s.put d (.tup [])) (k2 (.tup []) (by rw [w2])) (hput (.tup [])) h2 g _ _ (hs.putZ q3) Q' hQ hnp
      · rw [if_pos (by simp [Region.wanted, k2])]
        have hR : OpR P T N w0 s o (fun s' => s' = (s.hput d (.blk t (zs.map Z.cv))).put d (.one (.ref d 0))) := by
          intro g a w hs K Q hK
          obtain ⟨i, z, hi, hz1, hz2, hz3⟩ := zeroB_spec (tab_zs hτ k3)
          have hrun : (execOp a.eval o).run P w = .ok (.value (.pointer (some ⟨w.heap.size, 0, none⟩))) (w.alloc (.cells z.cells t)) := by
            simp [execOp, k1, Instr.alloc, zeroValue, typeInfo, hi, hz1, newVar, newRow]
          have h3 := hs.newG (d := d) (fun x => by rw [h1]; exact k4.ff x) (fun r => by rw [h2]; exact k4.hh r) (r0 := none) (ob := none) (nb := some w.heap.size) (k := 0) (w' := w.alloc (.cells z.cells t)) (vh := .blk t (zs.map Z.cv)) (fun b hb => by cases hb) (World.grownBy_alloc w _ none) (fun b hb => by simp at hb; subst hb; exact ⟨.inr (Nat.le_refl _), by simp⟩) rfl
            (fun hf => ⟨w.heap.size, z.cells, by simp [Gh.new, updO], Blk.new _ _ _, hz2, fun j u c hu hc => hz3 _ _ j u c hu hc⟩)
          unfold Oper.wp
          rw [hrun]
          refine hK (g.new d (some w.heap.size) 0) _ _ _ rfl ?_
          rw [q2]
          exact Sim.put h3 q3 (.one (.ref 0 (by simp [Gh.new, updO])))
        refine .inl (hR g a w hs _ _ fun g' s' a' w' e hs' => ?_)
        subst e
        exact ih _ _ _ _ k5 (fun x => by
          show getF (St.put _ d _).F x = _
          rw [get_put]; simp only [putf]; by_cases e : d = x <;> simp [e, h1, St.hput]) (fun r => by
          show getH ((d, _) :: s.H) r = _
          rw [hget_put]; simp only [puth]; by_cases e : d = r <;> simp [e, h2]) g' _ _ hs' Q' hQ hnp
      · rw [if_pos (wanted_of hs h1 k2)]
        have hR : OpR P T N w0 s o (fun s' => s' = (s.hput d vh).put d sv) := k3 s (fun t _ => h1 t) h2 ⟨fun x => by rw [h1]; exact k4.ff x, fun r => by rw [h2]; exact k4.hh r, by rw [h2]; exact k4.ll⟩
        refine .inl (hR g a w hs _ _ fun g' s' a' w' e hs' => ?_)
        subst e
        exact ih _ _ _ _ k5 (fun x => by
          show getF (St.put _ d _).F x = _
          rw [get_put]; simp only [putf]; by_cases e : d = x <;> simp [e, h1, St.hput]) (fun r => by
          show getH ((d, _) :: s.H) r = _
          rw [hget_put]; simp only [puth]; by_cases e : d = r <;> simp [e, h2]) g' _ _ hs' Q' hQ hnp
    · rw [if_pos (by simp [Region.wanted, q3])]
      refine .inl (k2 s (fun t _ => h1 t) h2 g a w hs _ _ fun g' s' a' w' e hs' => ?_)
      subst e
      exact ih _ _ _ (s.hput r vh) k3 h1 (fun q => by
        show getH ((r, _) :: s.H) q = _
        rw [hget_put]; simp only [puth]; by_cases e : r = q <;> simp [e, h2]) g' _ _ hs' Q' hQ hnp
end
end Go.Proofs.Ytbnmcdnkeipdhaa
