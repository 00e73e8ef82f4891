/- Ways that meet; bytes and their texts. -/
import Derived.Test.YtbnmcdnkeipdhaaIvzb
import Derived.Laws.IdiomStrings
import Derived.Laws.BytesArg
import Derived.Laws.Cover1
set_option linter.all false
set_option maxRecDepth 20000
namespace Go.Proofs.Ytbnmcdnkeipdhaa
open Go.RowKit Go.Shelf
theorem v_meet1 {k : Wk} {w0 : Org} {Q : Exit → St → Prop} {x y : Code} {s : St} {F' : List (Nat × SV)} {H' : List (Nat × VH)} {α1 : Type} {R1 : (α1 → Prop) → Prop} {R2 : α1 → Prop} (live lh : List Nat) (FA : α1 → List (Nat × SV)) (HA : α1 → List (Nat × VH)) (hF : lvK s.F live some = some F') (hH : lvHK s.H lh some = some H') (hP : Hld (∃ J : α1 → Prop, R1 J ∧ ∀ (x1 : α1), J x1 → R2 x1))
    (h : ∀ J : α1 → Prop, Hld (R1 J) → wk k w0 x (kRound Q (fun s' => ∃ (y1 : α1), J y1 ∧ ∃ vs', Fits vs' s' ⟨FA y1 ++ F', HA y1 ++ H'⟩)) s) (hy : ∀ (x1 : α1), Hld (R2 x1) → wk k w0 y Q ⟨FA x1 ++ F', HA x1 ++ H'⟩) : wk k w0 x (kThen k w0 y Q) s := by
  obtain ⟨J, h1, h2⟩ := hP.out
  exact c_mt2 (ι := α1) live lh (fun q => J q) (fun q => FA q) (fun q => HA q) hF hH (v_rmono (h J ⟨h1⟩) fun s' ⟨y1, h3, h4⟩ => ⟨y1, h3, h4⟩) fun q hq => hy q ⟨h2 q hq⟩
theorem v_mnx1 {F' : List (Nat × SV)} {H' : List (Nat × VH)} {α1 : Type} {J : α1 → Prop} {FA : α1 → List (Nat × SV)} {HA : α1 → List (Nat × VH)} {s' : St} {a1 : α1} (hF : FitF [] s' (FA a1 ++ F')) (hH : FitH [] s' (HA a1 ++ H')) (hP : Hld (J a1)) : ∃ (y1 : α1), J y1 ∧ ∃ vs', Fits vs' s' ⟨FA y1 ++ F', HA y1 ++ H'⟩ := ⟨a1, hP.out, [], hF, hH⟩
theorem v_meet2 {k : Wk} {w0 : Org} {Q : Exit → St → Prop} {x y : Code} {s : St} {F' : List (Nat × SV)} {H' : List (Nat × VH)} {α1 α2 : Type} {R1 : (α1 → α2 → Prop) → Prop} {R2 : α1 → α2 → Prop} (live lh : List Nat) (FA : α1 → α2 → List (Nat × SV)) (HA : α1 → α2 → List (Nat × VH)) (hF : lvK s.F live some = some F') (hH : lvHK s.H lh some = some H') (hP : Hld (∃ J : α1 → α2 → Prop, R1 J ∧ ∀ (x1 : α1) (x2 : α2), J x1 x2 → R2 x1 x2))
    (h : ∀ J : α1 → α2 → Prop, Hld (R1 J) → wk k w0 x (kRound Q (fun s' => ∃ (y1 : α1) (y2 : α2), J y1 y2 ∧ ∃ vs', Fits vs' s' ⟨FA y1 y2 ++ F', HA y1 y2 ++ H'⟩)) s) (hy : ∀ (x1 : α1) (x2 : α2), Hld (R2 x1 x2) → wk k w0 y Q ⟨FA x1 x2 ++ F', HA x1 x2 ++ H'⟩) : wk k w0 x (kThen k w0 y Q) s := by
  obtain ⟨J, h1, h2⟩ := hP.out
  exact c_mt2 (ι := α1 × α2) live lh (fun q => J q.1 q.2) (fun q => FA q.1 q.2) (fun q => HA q.1 q.2) hF hH (v_rmono (h J ⟨h1⟩) fun s' ⟨y1, y2, h3, h4⟩ => ⟨(y1, y2), h3, h4⟩) fun q hq => hy q.1 q.2 ⟨h2 q.1 q.2 hq⟩
theorem v_mnx2 {F' : List (Nat × SV)} {H' : List (Nat × VH)} {α1 α2 : Type} {J : α1 → α2 → Prop} {FA : α1 → α2 → List (Nat × SV)} {HA : α1 → α2 → List (Nat × VH)} {s' : St} {a1 : α1} {a2 : α2} (hF : FitF [] s' (FA a1 a2 ++ F')) (hH : FitH [] s' (HA a1 a2 ++ H')) (hP : Hld (J a1 a2)) : ∃ (y1 : α1) (y2 : α2), J y1 y2 ∧ ∃ vs', Fits vs' s' ⟨FA y1 y2 ++ F', HA y1 y2 ++ H'⟩ := ⟨a1, a2, hP.out, [], hF, hH⟩
theorem v_meet3 {k : Wk} {w0 : Org} {Q : Exit → St → Prop} {x y : Code} {s : St} {F' : List (Nat × SV)} {H' : List (Nat × VH)} {α1 α2 α3 : Type} {R1 : (α1 → α2 → α3 → Prop) → Prop} {R2 : α1 → α2 → α3 → Prop} (live lh : List Nat) (FA : α1 → α2 → α3 → List (Nat × SV)) (HA : α1 → α2 → α3 → List (Nat × VH)) (hF : lvK s.F live some = some F') (hH : lvHK s.H lh some = some H') (hP : Hld (∃ J : α1 → α2 → α3 → Prop, R1 J ∧ ∀ (x1 : α1) (x2 : α2) (x3 : α3), J x1 x2 x3 → R2 x1 x2 x3))
    (h : ∀ J : α1 → α2 → α3 → Prop, Hld (R1 J) → wk k w0 x (kRound Q (fun s' => ∃ (y1 : α1) (y2 : α2) (y3 : α3), J y1 y2 y3 ∧ ∃ vs', Fits vs' s' ⟨FA y1 y2 y3 ++ F', HA y1 y2 y3 ++ H'⟩)) s) (hy : ∀ (x1 : α1) (x2 : α2) (x3 : α3), Hld (R2 x1 x2 x3) → wk k w0 y Q ⟨FA x1 x2 x3 ++ F', HA x1 x2 x3 ++ H'⟩) : wk k w0 x (kThen k w0 y Q) s := by
  obtain ⟨J, h1, h2⟩ := hP.out
  exact c_mt2 (ι := α1 × α2 × α3) live lh (fun q => J q.1 q.2.1 q.2.2) (fun q => FA q.1 q.2.1 q.2.2) (fun q => HA q.1 q.2.1 q.2.2) hF hH (v_rmono (h J ⟨h1⟩) fun s' ⟨y1, y2, y3, h3, h4⟩ => ⟨(y1, (y2, y3)), h3, h4⟩) fun q hq => hy q.1 q.2.1 q.2.2 ⟨h2 q.1 q.2.1 q.2.2 hq⟩
theorem v_mnx3 {F' : List (Nat × SV)} {H' : List (Nat × VH)} {α1 α2 α3 : Type} {J : α1 → α2 → α3 → Prop} {FA : α1 → α2 → α3 → List (Nat × SV)} {HA : α1 → α2 → α3 → List (Nat × VH)} {s' : St} {a1 : α1} {a2 : α2} {a3 : α3} (hF : FitF [] s' (FA a1 a2 a3 ++ F')) (hH : FitH [] s' (HA a1 a2 a3 ++ H')) (hP : Hld (J a1 a2 a3)) : ∃ (y1 : α1) (y2 : α2) (y3 : α3), J y1 y2 y3 ∧ ∃ vs', Fits vs' s' ⟨FA y1 y2 y3 ++ F', HA y1 y2 y3 ++ H'⟩ := ⟨a1, a2, a3, hP.out, [], hF, hH⟩
theorem v_meet4 {k : Wk} {w0 : Org} {Q : Exit → St → Prop} {x y : Code} {s : St} {F' : List (Nat × SV)} {H' : List (Nat × VH)} {α1 α2 α3 α4 : Type} {R1 : (α1 → α2 → α3 → α4 → Prop) → Prop} {R2 : α1 → α2 → α3 → α4 → Prop} (live lh : List Nat) (FA : α1 → α2 → α3 → α4 → List (Nat × SV)) (HA : α1 → α2 → α3 → α4 → List (Nat × VH)) (hF : lvK s.F live some = some F') (hH : lvHK s.H lh some = some H') (hP : Hld (∃ J : α1 → α2 → α3 → α4 → Prop, R1 J ∧ ∀ (x1 : α1) (x2 : α2) (x3 : α3) (x4 : α4), J x1 x2 x3 x4 → R2 x1 x2 x3 x4))
    (h : ∀ J : α1 → α2 → α3 → α4 → Prop, Hld (R1 J) → wk k w0 x (kRound Q (fun s' => ∃ (y1 : α1) (y2 : α2) (y3 : α3) (y4 : α4), J y1 y2 y3 y4 ∧ ∃ vs', Fits vs' s' ⟨FA y1 y2 y3 y4 ++ F', HA y1 y2 y3 y4 ++ H'⟩)) s) (hy : ∀ (x1 : α1) (x2 : α2) (x3 : α3) (x4 : α4), Hld (R2 x1 x2 x3 x4) → wk k w0 y Q ⟨FA x1 x2 x3 x4 ++ F', HA x1 x2 x3 x4 ++ H'⟩) : wk k w0 x (kThen k w0 y Q) s := by
  obtain ⟨J, h1, h2⟩ := hP.out
  exact c_mt2 (ι := α1 × α2 × α3 × α4) live lh (fun q => J q.1 q.2.1 q.2.2.1 q.2.2.2) (fun q => FA q.1 q.2.1 q.2.2.1 q.2.2.2) (fun q => HA q.1 q.2.1 q.2.2.1 q.2.2.2) hF hH (v_rmono (h J ⟨h1⟩) fun s' ⟨y1, y2, y3, y4, h3, h4⟩ => ⟨(y1, (y2, (y3, y4))), h3, h4⟩) fun q hq => hy q.1 q.2.1 q.2.2.1 q.2.2.2 ⟨h2 q.1 q.2.1 q.2.2.1 q.2.2.2 hq⟩
theorem v_mnx4 {F' : List (Nat × SV)} {H' : List (Nat × VH)} {α1 α2 α3 α4 : Type} {J : α1 → α2 → α3 → α4 → Prop} {FA : α1 → α2 → α3 → α4 → List (Nat × SV)} {HA : α1 → α2 → α3 → α4 → List (Nat × VH)} {s' : St} {a1 : α1} {a2 : α2} {a3 : α3} {a4 : α4} (hF : FitF [] s' (FA a1 a2 a3 a4 ++ F')) (hH : FitH [] s' (HA a1 a2 a3 a4 ++ H')) (hP : Hld (J a1 a2 a3 a4)) : ∃ (y1 : α1) (y2 : α2) (y3 : α3) (y4 : α4), J y1 y2 y3 y4 ∧ ∃ vs', Fits vs' s' ⟨FA y1 y2 y3 y4 ++ F', HA y1 y2 y3 y4 ++ H'⟩ := ⟨a1, a2, a3, a4, hP.out, [], hF, hH⟩
theorem v_meet5 {k : Wk} {w0 : Org} {Q : Exit → St → Prop} {x y : Code} {s : St} {F' : List (Nat × SV)} {H' : List (Nat × VH)} {α1 α2 α3 α4 α5 : Type} {R1 : (α1 → α2 → α3 → α4 → α5 → Prop) → Prop} {R2 : α1 → α2 → α3 → α4 → α5 → Prop} (live lh : List Nat) (FA : α1 → α2 → α3 → α4 → α5 → List (Nat × SV)) (HA : α1 → α2 → α3 → α4 → α5 → List (Nat × VH)) (hF : lvK s.F live some = some F') (hH : lvHK s.H lh some = some H') (hP : Hld (∃ J : α1 → α2 → α3 → α4 → α5 → Prop, R1 J ∧ ∀ (x1 : α1) (x2 : α2) (x3 : α3) (x4 : α4) (x5 : α5), J x1 x2 x3 x4 x5 → R2 x1 x2 x3 x4 x5))
    (h : ∀ J : α1 → α2 → α3 → α4 → α5 → Prop, Hld (R1 J) → wk k w0 x (kRound Q (fun s' => ∃ (y1 : α1) (y2 : α2) (y3 : α3) (y4 : α4) (y5 : α5), J y1 y2 y3 y4 y5 ∧ ∃ vs', Fits vs' s' ⟨FA y1 y2 y3 y4 y5 ++ F', HA y1 y2 y3 y4 y5 ++ H'⟩)) s) (hy : ∀ (x1 : α1) (x2 : α2) (x3 : α3) (x4 : α4) (x5 : α5), Hld (R2 x1 x2 x3 x4 x5) → wk k w0 y Q ⟨FA x1 x2 x3 x4 x5 ++ F', HA x1 x2 x3 x4 x5 ++ H'⟩) : wk k w0 x (kThen k w0 y Q) s := by
  obtain ⟨J, h1, h2⟩ := hP.out
  exact c_mt2 (ι := α1 × α2 × α3 × α4 × α5) live lh (fun q => J q.1 q.2.1 q.2.2.1 q.2.2.2.1 q.2.2.2.2) (fun q => FA q.1 q.2.1 q.2.2.1 q.2.2.2.1 q.2.2.2.2) (fun q => HA q.1 q.2.1 q.2.2.1 q.2.2.2.1 q.2.2.2.2) hF hH (v_rmono (h J ⟨h1⟩) fun s' ⟨y1, y2, y3, y4, y5, h3, h4⟩ => ⟨(y1, (y2, (y3, (y4, y5)))), h3, h4⟩) fun q hq => hy q.1 q.2.1 q.2.2.1 q.2.2.2.1 q.2.2.2.2 ⟨h2 q.1 q.2.1 q.2.2.1 q.2.2.2.1 q.2.2.2.2 hq⟩
theorem v_mnx5 {F' : List (Nat × SV)} {H' : List (Nat × VH)} {α1 α2 α3 α4 α5 : Type} {J : α1 → α2 → α3 → α4 → α5 → Prop} {FA : α1 → α2 → α3 → α4 → α5 → List (Nat × SV)} {HA : α1 → α2 → α3 → α4 → α5 → List (Nat × VH)} {s' : St} {a1 : α1} {a2 : α2} {a3 : α3} {a4 : α4} {a5 : α5} (hF : FitF [] s' (FA a1 a2 a3 a4 a5 ++ F')) (hH : FitH [] s' (HA a1 a2 a3 a4 a5 ++ H')) (hP : Hld (J a1 a2 a3 a4 a5)) : ∃ (y1 : α1) (y2 : α2) (y3 : α3) (y4 : α4) (y5 : α5), J y1 y2 y3 y4 y5 ∧ ∃ vs', Fits vs' s' ⟨FA y1 y2 y3 y4 y5 ++ F', HA y1 y2 y3 y4 y5 ++ H'⟩ := ⟨a1, a2, a3, a4, a5, hP.out, [], hF, hH⟩
theorem v_condat {k : Wk} {w0 : Org} {s : St} {Q : Exit → St → Prop} {c : Operand} {x y : Code} (h : wk k w0 (.cond c x y) Q s) : wk k w0 (.cond c x y) Q s := h
def irow_u8 (z : Int) : List Cell := [.int .u8 z]
def irow_u64 (z : Int) : List Cell := [.int .u64 z]
theorem irow_u8_mk (a : Int) : [Cell.int .u8 a] = irow_u8 a := rfl
theorem irow_u64_mk (a : Int) : [Cell.int .u64 a] = irow_u64 a := rfl
/-- A pair of lists. -/
def plrow {α : Type} (f : α → List Cell) (p : List α × List α) : List Cell := [.list (p.1.map f), .list (p.2.map f)]
theorem plrow_mk {α : Type} (f : α → List Cell) (a b : List α) : [Cell.list (a.map f), Cell.list (b.map f)] = plrow f (a, b) := rfl
/-- The text of bytes. -/
def bsI (xs : List Int) : ByteArray := ⟨(xs.map fun z => UInt8.ofNat z.toNat).toArray⟩
theorem bsI_inj {a b : List Int} (ha : ∀ z ∈ a, 0 ≤ z ∧ z ≤ 255) (hb : ∀ z ∈ b, 0 ≤ z ∧ z ≤ 255) (h : bsI a = bsI b) : a = b := by
  have h1 : (a.map fun z => UInt8.ofNat z.toNat) = b.map fun z => UInt8.ofNat z.toNat := by
    have := congrArg (fun x : ByteArray => x.data.toList) h
    simpa [bsI] using this
  refine List.ext_getElem (by simpa using congrArg List.length h1) fun i h2 h3 => ?_
  have h4 : (a.map fun z => UInt8.ofNat z.toNat)[i]? = (b.map fun z => UInt8.ofNat z.toNat)[i]? := by rw [h1]
  simp [h2, h3] at h4
  have := congrArg UInt8.toNat h4
  simp at this
  have e1 := ha _ (List.getElem_mem h2)
  have e2 := hb _ (List.getElem_mem h3)
  omega
def bytB (P : Program) (t t' : TypeId) : Bool := match P.underlying t, P.underlying t' with
  | some (.slice e), some .string => match P.underlying e with | some (.int .u8) => true | _ => false
  | _, _ => false
theorem bytB_spec {P : Program} {t t' : TypeId} (h : bytB P t t' = true) : ∃ e, P.underlying t = some (.slice e) ∧ P.underlying e = some (.int .u8) ∧ P.underlying t' = some .string := by
  unfold bytB at h
  split at h
  · rename_i e h1 h2
    split at h
    · rename_i h3; exact ⟨e, h1, h3, h2⟩
    · cases h
  · cases h
section
variable {P : Program} {T : TypeId} {N : Nat} {w0 : Org} {g : Gh} {a : Act} {w : World} {s : St} {o : Oper} {τ : List TyI}
theorem ope_bstr {t t' : TypeId} {x : Operand} {xs : List Int} (ho : o.op = .convert t t' x) (hk : bytB P t t' = true) (hx : Srp s 1 (s.ev x) (xs.map irow_u8)) : OpE P T N w0 s o (.one (.d (.str (bsI xs)))) :=
  ope_val fun g a w hs => by
    obtain ⟨e, k1, k2, k3⟩ := bytB_spec hk
    obtain ⟨A, c, news, e1, hC, hl, _, hr, hm, _⟩ := hx.vals (by omega) hs (hs.ev x)
    have key : ∀ (i : Nat) (z : Int), xs[i]? = some z → news[i]? = some (Value.int .u8 z) ∧ 0 ≤ z ∧ z ≤ 255 := fun i z hz => by
      obtain ⟨_, u, hu, hrep⟩ := hr i 0 (irow_u8 z) (.int .u8 z) (by simp [hz]) rfl
      cases hrep with
      | int k n h =>
        refine ⟨by simpa using hu, ?_⟩
        simp [Lit.wf, IntKind.min, IntKind.max, IntKind.bits, IntKind.signed] at h
        omega
    have hsz : (xs.map fun z => UInt8.ofNat z.toNat).length = xs.length := by simp
    have hlen : (xs.map irow_u8).length = xs.length := by simp
    rw [hlen] at e1 hm
    refine ⟨.string (bsI xs), ?_, .one (.d (.str _ (by show (xs.map fun z => UInt8.ofNat z.toNat).toArray.size ≤ _; simpa using hm)))⟩
    have hrun : (convert t t' (.slice A xs.length c)).run P w = .ok (.string (bsI xs)) w := by
      cases A with
      | none =>
        have hx0 : xs = [] := by
          cases xs with
          | nil => rfl
          | cons z xs =>
            obtain ⟨ad, h, _⟩ := hC 0 _ (key 0 z rfl).1
            cases h
        subst hx0
        exact run_convert_bytes_nil (P := P) (w := w) t e k1 k2 _ c t' k3
      | some ad =>
        have := run_convert_bytes_back w t t' e ad c (xs.map fun z => UInt8.ofNat z.toNat) k1 k2 k3 fun j hj => by
          have hjx : j < xs.length := by simpa using hj
          obtain ⟨q1, q2, q3⟩ := key j xs[j] (List.getElem?_eq_getElem hjx)
          obtain ⟨ad', h1, _, h2⟩ := hC j _ q1
          injection h1 with h1
          subst h1
          rw [h2]
          simp only [List.getElem_map, UInt8.toNat_ofNat']
          congr 2
          omega
        rw [hsz] at this
        exact this
    simp [execOp, ho, e1, hrun]
theorem ba_list (a b : ByteArray) : (a.toList == b.toList) = decide (a = b) := by
  by_cases h : a = b
  · subst h; simp
  · have : ¬ a.toList = b.toList := fun e => h (by
      rw [ByteArray.toList_eq, ByteArray.toList_eq] at e
      obtain ⟨⟨x⟩⟩ := a
      obtain ⟨⟨y⟩⟩ := b
      simp at e; subst e; rfl)
    simp [h, this]
theorem ope_streq {t t' : TypeId} {x y : Operand} {a b : ByteArray} (hu : strB P t = true) (ho : o.op = .binOp .eql t x y t') (hx : s.ev x = .one (.d (.str a))) (hy : s.ev y = .one (.d (.str b))) : OpE P T N w0 s o (.one (.d (.bool (decide (a = b))))) :=
  ope_scalar (v := .bool (decide (a = b))) (fun g ac w hs => by
    have h1 := hs.ev x; rw [hx] at h1
    have h2 := hs.ev y; rw [hy] at h2
    have e : (eqGuard .eql t x y (.string a) (.string b)).run P w = .ok () w := by unfold eqGuard; rfl
    have e1 : (Op.equal t (.string a) (.string b)).run P w = .ok (a.toList == b.toList) w := run_equalIn_string w 9999 t a b (strB_spec hu)
    have e2 : (binOp .eql t (.string a) (.string b)).run P w = .ok (.bool (decide (a = b))) w := by simp [binOp, Op.stringOp, ba_list]
    simp only [execOp, ho, h1.str_inv.1, h2.str_inv.1, Sem.run_bind, e, e2, Result.andThen_ok, Sem.run_pure]) rfl (by simp) (by simp)
theorem ope_strne {t t' : TypeId} {x y : Operand} {a b : ByteArray} (hu : strB P t = true) (ho : o.op = .binOp .neq t x y t') (hx : s.ev x = .one (.d (.str a))) (hy : s.ev y = .one (.d (.str b))) : OpE P T N w0 s o (.one (.d (.bool (!decide (a = b))))) :=
  ope_scalar (v := .bool (!decide (a = b))) (fun g ac w hs => by
    have h1 := hs.ev x; rw [hx] at h1
    have h2 := hs.ev y; rw [hy] at h2
    have e : (eqGuard .neq t x y (.string a) (.string b)).run P w = .ok () w := by unfold eqGuard; rfl
    have e1 : (Op.equal t (.string a) (.string b)).run P w = .ok (a.toList == b.toList) w := run_equalIn_string w 9999 t a b (strB_spec hu)
    have e2 : (binOp .neq t (.string a) (.string b)).run P w = .ok (.bool (!decide (a = b))) w := by simp [binOp, Op.stringOp, ba_list]
    simp only [execOp, ho, h1.str_inv.1, h2.str_inv.1, Sem.run_bind, e, e2, Result.andThen_ok, Sem.run_pure]) rfl (by simp) (by simp)
theorem FrF.refl (H : List (Nat × VH)) (rs : List Nat) (F : List (Nat × SV)) : FrF H rs F F := by
  induction F with
  | nil => exact .nil
  | cons x F ih => exact .cons (.same _) ih
def dropB (d : Nat) (H : List (Nat × VH)) : List (Nat × VH) := H.map fun p => if p.1 = d then (p.1, .gone) else p
theorem dropB_fr (H0 : List (Nat × VH)) (d : Nat) (H : List (Nat × VH)) : FrH H0 [d] H (dropB d H) := by
  induction H with
  | nil => exact .nil
  | cons p H ih =>
    obtain ⟨x, v⟩ := p
    unfold dropB
    rw [List.map_cons]
    by_cases e : x = d
    · subst e; simp only [if_true]; exact .cons (.gone v (by simp)) ih
    · rw [if_neg e]; exact .cons (.same v (by simp; exact e)) ih
theorem dropB_get (d : Nat) (H : List (Nat × VH)) {r : Nat} (h : r ≠ d) : getH (dropB d H) r = getH H r := by
  induction H with
  | nil => rfl
  | cons p H ih =>
    obtain ⟨x, v⟩ := p
    unfold dropB at ih ⊢
    rw [List.map_cons]
    by_cases e : x = d
    · subst e
      rw [if_pos rfl]
      simp only [getH, beq_eq]
      rw [decide_eq_false (Ne.symm h)]
      exact ih
    · rw [if_neg e]
      simp only [getH, beq_eq]
      by_cases e2 : x = r
      · subst e2; simp
      · simp [e2, ih]
/-- What is made is given away at once, to be read. -/
theorem opr_gone {d n sz e : Nat} {rows : List (List Cell)} (h : OpR P T N w0 s o (fun s' => s' = (s.hput d (.arr e sz rows)).put d (.one (.sl d n sz)))) (hn : n = rows.length) : OpR P T N w0 s o (fun s' => s' = (s.hput d .gone).put d (.one (.d (.list rows)))) := by
  intro g a w hs K Q hK
  refine h g a w hs K Q fun g' s' a' w' e1 hs' => ?_
  subst e1
  have hH : getH ((d, VH.arr e sz rows) :: s.H) d = .arr e sz rows := by simp [getH]
  have h2 := hs'.fr (rs := [d]) (F' := (d, .one (.d (.list rows))) :: s.F) (dropB_fr _ d _) (.cons (.one (.fz (by simp) hH hn)) (FrF.refl _ _ _))
  refine hK _ _ a' w' rfl (h2.less (fun x => .inl rfl) fun r => ?_)
  by_cases e2 : r = d
  · subst e2
    right
    show getH ((r, VH.gone) :: s.H) r = _
    simp [getH]
  · left
    show getH ((d, VH.gone) :: s.H) r = getH (dropB d ((d, VH.arr e sz rows) :: s.H)) r
    rw [dropB_get d _ e2]
    simp only [getH, beq_eq]
    rw [decide_eq_false (Ne.symm e2)]
    rfl
theorem ope_max3 {ts : Array TypeId} {x y z : Operand} {k : IntKind} {m n q : Int} (ho : o.op = .call { callee := .builtin .max, args := #[x, y, z], argTypes := ts }) (hx : s.ev x = .one (.d (.int k m))) (hy : s.ev y = .one (.d (.int k n))) (hz : s.ev z = .one (.d (.int k q))) : OpE P T N w0 s o (.one (.d (.int k (max (max m n) q)))) :=
  ope_val fun g a w hs => by
    have h1 := hs.ev x; rw [hx] at h1
    have h2 := hs.ev y; rw [hy] at h2
    have h3 := hs.ev z; rw [hz] at h3
    have e : (if q > (if n > m then n else m) then q else (if n > m then n else m)) = max (max m n) q := by split <;> split <;> omega
    refine ⟨.int k (max (max m n) q), ?_, .one (.d (.int _ _ ?_))⟩
    · simp only [execOp, ho, resolve, invoke, builtin]
      simp [h1.int_inv.1, h2.int_inv.1, h3.int_inv.1, run_max_int3, e, Result.andThen]
    · have : max (max m n) q = m ∨ max (max m n) q = n ∨ max (max m n) q = q := by omega
      rcases this with e | e | e <;> rw [e]
      · exact h1.int_inv.2
      · exact h2.int_inv.2
      · exact h3.int_inv.2
/-- A mark behind a block that is nobody's changes nothing. -/
theorem Sim.mark {b : Nat} {w' : World} (h : Sim P T N w0 g s a w) (hb0 : w0.heap.size ≤ b) (hl : ∀ r, live s.H r → g.β r ≠ some b) (ht : g.tp ≠ some b) (hk : Keep (fun k => k = b) w w') (hsz : w'.heap.size = w.heap.size) (hc : ∀ p : Addr, w'.cell? p = w.cell? p) : Sim P T N w0 g s a w' := by
  have hf : Fut g.Rd g.Rd w w' := ⟨fun _ _ h => h, fun b o _ => hc _⟩
  refine ⟨⟨h.gi.inj, fun r b' h1 h2 => ?_, fun b' o h1 => ?_, h.gi.keep.trans (hk.mono fun k hk => .inr (by omega)), fun tb htb => ?_, h.gi.org⟩, h.dn, h.nt, fun x => (h.hF x).move hf (fun _ h => h) fun _ _ => ⟨rfl, rfl⟩, fun r => (h.hH r).move hf (fun _ h => h) (fun _ _ => ⟨rfl, rfl⟩) fun b' h1 h2 => hk.block b' fun e => hl r h1 (e ▸ h2)⟩
  · rw [hsz]; exact h.gi.bd r b' h1 h2
  · rw [hsz]; exact h.gi.rd b' o h1
  · obtain ⟨a1, a2⟩ := h.gi.tape tb htb
    exact ⟨by omega, a2.keep hf (hk.block tb fun e => ht (e ▸ htb))⟩
def u8B (P : Program) (e : TypeId) : Bool := match P.underlying e with | some (.int .u8) => true | _ => false
theorem u8B_spec {e : TypeId} (h : u8B P e = true) : P.underlying e = some (.int .u8) := by
  unfold u8B at h; split at h
  · assumption
  · cases h
theorem freeze_spec {b k : Nat} {vals : Array Value} {t : TypeId} (h : Blk w b t vals) : Keep (fun k => k = b) w (w.freeze ⟨b, k, none⟩ 1) ∧ (w.freeze ⟨b, k, none⟩ 1).heap.size = w.heap.size ∧ ∀ p : Addr, (w.freeze ⟨b, k, none⟩ 1).cell? p = w.cell? p := by
  have hs : (w.freeze ⟨b, k, none⟩ 1).heap.size = w.heap.size := by simp [World.freeze]
  have hb : ∀ i, i ≠ b → (w.freeze ⟨b, k, none⟩ 1).heap[i]? = w.heap[i]? := fun i hi => by
    simp only [World.freeze, if_neg (show ¬ (1 : Nat) = 0 by decide)]
    rw [Array.getElem?_modify, if_neg (fun e => hi e.symm)]
  refine ⟨⟨rfl, rfl, rfl, by omega, hb⟩, hs, fun p => ?_⟩
  by_cases hp : p.block = b
  · have h1 : w.heap[p.block]? = some (.cells vals t (0, 0)) := by rw [hp]; exact h
    have h2 : (w.freeze ⟨b, k, none⟩ 1).heap[p.block]? = some (.cells vals t (k, k + 1)) := by
      simp only [World.freeze, if_neg (show ¬ (1 : Nat) = 0 by decide)]
      rw [Array.getElem?_modify, if_pos hp.symm, h1]
      rfl
    unfold World.cell?
    rw [h1, h2]
  · unfold World.cell?
    rw [hb _ hp]
/-- The bytes of a constant text. -/
theorem opr_cby (hτ : tabB P 0 τ = true) {t d e by_ r n : Nat} {x : Operand} {rows : List (List Cell)} {F' : List (Nat × SV)} {H' : List (Nat × VH)} (ho : o.op = .convert t t x) (hd : o.dst = some d) (hN : d < N) (ht : tyAt τ t = .sl e 1 by_) (he : u8B P e = true) (hx : s.ev x = .one (.sl r n 1)) (hr : getH s.H r = .arr e 1 rows) (hn : n = rows.length) (hn0 : 0 < n) (hH : FrH s.H [r] s.H H') (hF : FrF s.H [r] s.F F') :
    OpR P T N w0 s o (fun s' => s' = ⟨(d, .one (.d (.list rows))) :: F', H'⟩) := by
  intro g a w hs K Q hK
  obtain ⟨hu, inf, hi, hsz⟩ := sliceT_spec (tab_sl hτ ht)
  have h1 := hs.ev x; rw [hx] at h1
  have hh := hs.hH r; rw [hr] at hh
  have hlr : live s.H r := by unfold live; rw [hr]; rfl
  obtain ⟨v, hv⟩ : ∃ v, a.eval x = v := ⟨_, rfl⟩
  rw [hv] at h1
  have h1' := h1.one_inv
  cases h1' with
  | slv => omega
  | @sl r b n sz hb q1 q2 =>
    obtain ⟨g0, hh⟩ := hh
    rcases hh with ⟨h2, _⟩ | ⟨b2, vals, hb2, hbl, g2, g3, g4, g5⟩
    · rw [hb] at h2; cases h2
    obtain rfl : b = b2 := by rw [hb] at hb2; injection hb2
    have hshape : w.shape? b = some (e, vals.size) := by unfold World.shape?; rw [show w.heap[b]? = some (.cells vals e (0, 0)) from hbl]
    obtain ⟨f1, f2, f3⟩ := freeze_spec (k := vals.size) hbl
    have hrun : (execOp a.eval o).run P w = .ok (.value (.slice (some ⟨b, 0, none⟩) n (g.κ r))) (w.freeze ⟨b, vals.size, none⟩ 1) := by
      simp [execOp, ho, hv, convert, run_underlying hu, run_underlying (u8B_spec he), markStringish, hshape]
    obtain ⟨b1, b2, b3⟩ := hs.gi.bd r b hlr hb
    have hs2 := hs.fr hH hF
    have hrep : RepCV P (g.fr s.H [r] w) w (.slice (some ⟨b, 0, none⟩) n (g.κ r)) (.d (.list rows)) := CVz.rep hs (.fz (by simp) hr hn) h1.one_inv
    have hs3 := hs2.mark b1 (fun r' hl' hb' => by
      have hk := (hH.get r').live hl'
      have := hs.gi.inj r' r b hk.2 hlr hb' hb
      subst this
      simp at hk) b3 f1 f2 f3
    unfold Oper.wp
    rw [hrun]
    refine hK (g.fr s.H [r] w) _ _ _ rfl ?_
    rw [hd]
    exact hs3.put hN (.one (hrep.move ⟨fun _ _ h => h, fun b o _ => f3 _⟩ (fun _ h => h) fun _ _ => ⟨rfl, rfl⟩))
end
section
variable {k : Wk} {w0 : Org} {ops : Array Oper} {l : List Oper} {Q : St → Prop} {F F' : List (Nat × SV)} {H H' : List (Nat × VH)} {d t t' ty : Nat} {p : String} {af : Array Edge} {x y : Operand} {s : St} {gd : Option (Nat × Bool)} {xs : List Int}
theorem v_bstr (hN : Nat.blt d k.N = true) (hk : bytB k.P t t' = true) (hx : SrpT H 1 irow_u8 ((St.mk F H).ev x) xs) (h : rg k w0 ops l Q ⟨(d, .one (.d (.str (bsI xs)))) :: F, H⟩) : rg k w0 ops (⟨some d, .convert t t' x, ty, p, af, none⟩ :: l) Q ⟨F, H⟩ :=
  rgI (irg_e rfl rfl (nlt hN) (ope_bstr rfl hk (hx.srp fun _ => rfl)) (rgO h))
theorem v_bstr0 (hN : Nat.blt d k.N = true) (hk : bytB k.P t t' = true) (hx : (St.mk F H).ev x = .one .nil) (h : rg k w0 ops l Q ⟨(d, .one (.d (.str (bsI [])))) :: F, H⟩) : rg k w0 ops (⟨some d, .convert t t' x, ty, p, af, none⟩ :: l) Q ⟨F, H⟩ :=
  rgI (irg_e rfl rfl (nlt hN) (ope_bstr (xs := []) rfl hk (by rw [hx]; exact .nil)) (rgO h))
theorem f_bstr (hk : bytB k.P t t' = true) (hx : SrpT s.H 1 irow_u8 (s.ev x) xs) : OpE k.P k.T k.N w0 s ⟨some d, .convert t t' x, ty, p, af, gd⟩ (.one (.d (.str (bsI xs)))) := ope_bstr rfl hk (hx.srp (F := s.F) fun _ => rfl)
theorem f_bstr0 (hk : bytB k.P t t' = true) (hx : s.ev x = .one .nil) : OpE k.P k.T k.N w0 s ⟨some d, .convert t t' x, ty, p, af, gd⟩ (.one (.d (.str (bsI [])))) := ope_bstr (xs := []) rfl hk (by rw [hx]; exact .nil)
theorem v_cby {r n e by_ : Nat} {rows : List (List Cell)} {p1 p2 : Prop} (hN : Nat.blt d k.N = true) (hx : (St.mk F H).ev x = .one (.sl r n 1)) (ht : tyAt k.τ t = .sl e 1 by_) (he : u8B k.P e = true) (hr : getH H r = .arr e 1 rows) (hn : n = rows.length) (h0 : 0 < n) (hF : fzK r 1 rows F (fun a p => some (a, p)) = some (F', p1)) (hH : fzHK r 1 rows H (fun a p => some (a, p)) = some (H', p2)) (hp : p1 ∧ p2)
    (h : rg k w0 ops l Q ⟨(d, .one (.d (.list rows))) :: F', H'⟩) : rg k w0 ops (⟨some d, .convert t t x, ty, p, af, none⟩ :: l) Q ⟨F, H⟩ := by
  obtain ⟨l1, q1, h1, h2⟩ := fzK_ok hr F fun a p => some (a, p)
  obtain ⟨l2, q2, h3, h4⟩ := fzHK_ok hr H fun a p => some (a, p)
  rw [h1] at hF
  rw [h3] at hH
  injection hF with hF
  injection hF with e1 e2
  injection hH with hH
  injection hH with e3 e4
  subst e1
  subst e2
  subst e3
  subst e4
  exact rgI (irg_h rfl (opr_cby k.ok rfl rfl (nlt hN) ht he hx hr hn h0 (h4 hp.2) (h2 hp.1)) (rgO h))
theorem f_streq {tb : Nat} {a b : ByteArray} (hu : strB k.P t = true) (hx : s.ev x = .one (.d (.str a))) (hy : s.ev y = .one (.d (.str b))) : OpE k.P k.T k.N w0 s ⟨some d, .binOp .eql t x y tb, ty, p, af, gd⟩ (.one (.d (.bool (decide (a = b))))) := ope_streq hu rfl hx hy
theorem f_strne {tb : Nat} {a b : ByteArray} (hu : strB k.P t = true) (hx : s.ev x = .one (.d (.str a))) (hy : s.ev y = .one (.d (.str b))) : OpE k.P k.T k.N w0 s ⟨some d, .binOp .neq t x y tb, ty, p, af, gd⟩ (.one (.d (.bool (!decide (a = b))))) := ope_strne hu rfl hx hy
theorem v_streq {tb : Nat} {a b : ByteArray} (hN : Nat.blt d k.N = true) (hu : strB k.P t = true) (hx : (St.mk F H).ev x = .one (.d (.str a))) (hy : (St.mk F H).ev y = .one (.d (.str b))) (h : rg k w0 ops l Q ⟨(d, .one (.d (.bool (decide (a = b))))) :: F, H⟩) : rg k w0 ops (⟨some d, .binOp .eql t x y tb, ty, p, af, none⟩ :: l) Q ⟨F, H⟩ :=
  rgI (irg_e rfl rfl (nlt hN) (f_streq hu hx hy) (rgO h))
theorem v_strne {tb : Nat} {a b : ByteArray} (hN : Nat.blt d k.N = true) (hu : strB k.P t = true) (hx : (St.mk F H).ev x = .one (.d (.str a))) (hy : (St.mk F H).ev y = .one (.d (.str b))) (h : rg k w0 ops l Q ⟨(d, .one (.d (.bool (!decide (a = b))))) :: F, H⟩) : rg k w0 ops (⟨some d, .binOp .neq t x y tb, ty, p, af, none⟩ :: l) Q ⟨F, H⟩ :=
  rgI (irg_e rfl rfl (nlt hN) (f_strne hu hx hy) (rgO h))
theorem v_max3 {ts : Array TypeId} {z : Operand} {kk : IntKind} {m n q : Int} (hN : Nat.blt d k.N = true) (hx : (St.mk F H).ev x = .one (.d (.int kk m))) (hy : (St.mk F H).ev y = .one (.d (.int kk n))) (hz : (St.mk F H).ev z = .one (.d (.int kk q))) (h : rg k w0 ops l Q ⟨(d, .one (.d (.int kk (max (max m n) q)))) :: F, H⟩) : rg k w0 ops (⟨some d, .call { callee := .builtin .max, args := #[x, y, z], argTypes := ts }, ty, p, af, none⟩ :: l) Q ⟨F, H⟩ :=
  rgI (irg_e rfl rfl (nlt hN) (ope_max3 rfl hx hy hz) (rgO h))
theorem v_ld_rpa {cs : List CV} {n len e sz : Nat} {zs} (hN : Nat.blt d k.N = true) (hx : (St.mk F H).ev x = .one (.rp cs)) (ht : tyAt k.τ t' = .ar n len e sz zs) (hc : Nat.ble n cs.length = true) (h : rg k w0 ops l Q ⟨(d, .agg (cs.take n)) :: F, H⟩) : rg k w0 ops (⟨some d, .load t' x, t, p, af, none⟩ :: l) Q ⟨F, H⟩ :=
  rgI (irg_e rfl rfl (nlt hN) (ope_load_rpn rfl hx (tab_agga k.ok ht) (Nat.le_of_ble_eq_true hc)) (rgO h))
/-- A cell of an array of numbers. -/
def icv (z : Int) : CV := .d (.int .i64 z)
theorem cvl_icv {vs : List Nat} {xs : List Int} : CVleL vs (xs.map icv) (xs.map icv) := by
  induction xs with
  | nil => exact .nil
  | cons x xs ih => exact .cons (.d rfl) ih
theorem setSeg_icv {xs : List Int} {m : Nat} {v : Int} (h : m < xs.length) : setSeg (xs.map icv) m [icv v] = (xs.set m v).map icv := by
  unfold setSeg
  rw [List.map_set]
  refine List.ext_getElem? fun i => ?_
  rw [List.getElem?_set]
  by_cases h1 : i < m
  · rw [List.append_assoc, List.getElem?_append_left (by simp; omega), List.getElem?_take_of_lt h1, if_neg (by omega)]
  · by_cases h2 : i = m
    · subst h2
      have hl : ((xs.map icv).take i).length = i := by simp; omega
      rw [List.append_assoc, List.getElem?_append_right (by omega), hl]
      simp [h]
    · rw [List.getElem?_append_right (by simp; omega), if_neg (by omega), List.getElem?_drop]
      congr 1
      simp
      omega
theorem v_ala {len : Nat} {zs : List Z} {n e sz : Nat} {zs2} (hN : Nat.blt d k.N = true) (ht : tyAt k.τ t = .ar n len e sz zs2) (hz : (tyAt k.τ t).zs = some zs) (hv : zs.map Z.cv = (List.replicate len 0).map icv) (hfr : (St.mk F H).fresh d = true) (h : rg k w0 ops l Q ⟨(d, .one (.ref d 0)) :: F, (d, .blk t ((List.replicate len 0).map icv)) :: H⟩) : rg k w0 ops (⟨some d, .alloc t, ty, p, af, none⟩ :: l) Q ⟨F, H⟩ :=
  rgI (irg_h rfl (opr_alloc k.ok rfl rfl (nlt hN) hz hfr) (rgO (by rw [hv]; exact h)))
theorem v_ldx {r tt : Nat} {m : Int} (hN : Nat.blt d k.N = true) (hx : (St.mk F H).ev x = .one (.ref r (0 + m.toNat * 1))) (hH : getH H r = .blk tt (xs.map icv)) (ht : (tyAt k.τ t').isOne = true) (hc : 0 ≤ m ∧ m < (xs.length : Int)) (h : rg k w0 ops l Q ⟨(d, .one (.d (.int .i64 (gt xs m)))) :: F, H⟩) : rg k w0 ops (⟨some d, .load t' x, t, p, af, none⟩ :: l) Q ⟨F, H⟩ :=
  rgI (irg_e rfl rfl (nlt hN) (ope_load_ref1 rfl hx hH (tab_one k.ok ht) (by
    rw [List.getElem?_map, show 0 + m.toNat * 1 = m.toNat by omega, List.getElem?_eq_getElem (by omega), gt_eq (by omega)]; rfl)) (rgO h))
theorem v_stx {r tt : Nat} {m v : Int} (hx : (St.mk F H).ev x = .one (.ref r (0 + m.toNat * 1))) (hH : getH H r = .blk tt (xs.map icv)) (hn : (tyAt k.τ t).size = some 1) (hy : (St.mk F H).ev y = .one (.d (.int .i64 v))) (hc : 0 ≤ m ∧ m < (xs.length : Int)) (h : rg k w0 ops l Q ⟨F, (r, .blk tt ((xs.set m.toNat v).map icv)) :: H⟩) : rg k w0 ops (⟨none, .store t x y, ty, p, af, none⟩ :: l) Q ⟨F, H⟩ :=
  rgI (irg_h rfl (opr_store (n := 1) (vs := [icv v]) k.ok rfl rfl hx hH hn (by rw [hy]; rfl) rfl (by rw [List.length_map]; omega)) (rgO (by
    rw [show 0 + m.toNat * 1 = m.toNat by omega, setSeg_icv (by omega)]; exact h)))
theorem p_cv {k2 : IntKind} {kk : IntKind} {m r : Int} {o : Oper} (ho : o.op = .convert t t' x) (hk : convB k.P t t' k2 = true) (hx : s.ev x = .one (.d (.int kk m))) (hr : k2.wrap m = r) : OpP k w0 s o (.one (.d (.int k2 r))) := by
  intro g a w hs
  have q := hs.ev x; rw [hx] at q
  refine ⟨.int k2 r, fun w' => ?_, .one (.d (.int _ _ (by rw [← hr]; exact wrap_wf _ _)))⟩
  unfold convB at hk
  split at hk
  · rename_i k3 k4 h1 h2
    have e : k4 = k2 := by simpa using hk
    subst e
    simp [execOp, ho, q.int_inv.1, convert, run_underlying h1, run_underlying h2, Conv.intToInt, hr]
  · cases hk
theorem p_shr {kk k1 : IntKind} {m n r : Int} {tb : Nat} {o : Oper} (ho : o.op = .binOp .shr t x y tb) (hx : s.ev x = .one (.d (.int kk m))) (hy : s.ev y = .one (.d (.int k1 n))) (hn : 0 ≤ n) (hr : m.fdiv (2 ^ (min n.toNat kk.bits)) = r) : OpP k w0 s o (.one (.d (.int kk r))) := by
  intro g a w hs
  have h1 := hs.ev x; rw [hx] at h1
  have h2 := hs.ev y; rw [hy] at h2
  refine ⟨.int kk r, fun w' => ?_, .one (.d (.int _ _ (by rw [← hr]; exact shr_wf _ _ _ h1.int_inv.2)))⟩
  have e : (eqGuard .shr t x y (.int kk m) (.int k1 n)).run k.P w' = .ok () w' := by unfold eqGuard; rfl
  simp [execOp, ho, h1.int_inv.1, h2.int_inv.1, e, binOp, Op.shift, show ¬ n < 0 by omega, hr]
end
section
variable {k : Wk} {w0 : Org} {ops : Array Oper} {W : Option (List Nat)} {S listed : Array Bool} {m i nq d : Nat} {l : List Nat} {Q : St → Prop} {s : St} {ty : Nat} {pp : String} {af : Array Edge}
theorem v_sbsf {α : Type} (f : α → List Cell) {xs : List α} {t len e sz by_ : Nat} {zs : List Z} {parts : Array (Nat × Operand)} {cp : List (Nat × List CV)} {r : List CV} {fl : List Cell} (hi : ops[i]? = some ⟨some d, .buildSlice t len parts, ty, pp, af, none⟩) (hN : Nat.blt d k.N = true)
    (ht : tyAt k.τ t = .sl e sz by_) (hz : (tyAt k.τ e).zs = some zs) (hp : partsOf s parts.toList = some cp) (hcf : cfill ((List.range len).map fun i => (i * sz, sz)) (List.replicate (len * sz) .u) cp = some r) (hfl : unDL r = some fl)
    (h0 : Nat.blt 0 (len * sz) = true) (hm : Nat.ble (len * sz) 16777216 = true) (hfr : s.fresh d = true) (hzl : zs.length = sz) (hrow : chunks sz len fl = xs.map f) (hn : len = xs.length)
    (hl : l.length = nq) (h : qn k w0 ops W S m Q l (listed.setIfInBounds i true) ((s.hput d .gone).put d (.one (.d (.list (xs.map f)))))) : qst k w0 ops W S m Q nq i listed s := by
  obtain ⟨f1, f2, f3⟩ := St.fresh_spec hfr
  unfold qn at h
  unfold qst
  subst hl
  refine ⟨_, hi, .inl ⟨d, rfl, nlt hN, .inr (.inr ⟨.gone, .one (.d (.list (xs.map f))), rfl, fun s' h1 h2 h3 => ?_, ⟨f1, f2, f3⟩, ?_⟩)⟩⟩
  · have ep : partsOf s' parts.toList = partsOf s parts.toList := partsOf_cg _ fun p hp => ev_cg fun q hq => h1 q (by
      simp only [Op.operands]
      rw [List.mem_map]
      exact ⟨p, hp, hq⟩)
    have := opr_gone (opr_buildSliceG (P := k.P) (T := k.T) (N := k.N) (w0 := w0) (s := s') (o := ⟨some d, .buildSlice t len parts, ty, pp, af, none⟩) k.ok rfl rfl (nlt hN) ht hz (by rw [ep]; exact hp) hcf hfl (nlt h0) (Nat.le_of_ble_eq_true hm) h3.ff h3.hh hzl) (by rw [hrow, List.length_map]; exact hn)
    rw [hrow] at this
    exact this
  · rw [put_f] at h
    have e2 : getH ((s.hput d VH.gone).put d (.one (.d (.list (xs.map f))))).H = puth (getH s.H) d .gone := by
      funext q
      show getH ((d, _) :: s.H) q = _
      rw [hget_put]; rfl
    rw [e2] at h
    exact h
theorem v_dbsf {α : Type} (f : α → List Cell) {xs : List α} {t len e sz by_ : Nat} {zs : List Z} {parts : Array (Nat × Operand)} {cp : List (Nat × List CV)} {r : List CV} {fl : List Cell} (hi : ops[i]? = some ⟨some d, .buildSlice t len parts, ty, pp, af, none⟩) (hN : Nat.blt d k.N = true) (hr : Region.ready .any ops listed = [i])
    (ht : tyAt k.τ t = .sl e sz by_) (hz : (tyAt k.τ e).zs = some zs) (hp : partsOf s parts.toList = some cp) (hcf : cfill ((List.range len).map fun i => (i * sz, sz)) (List.replicate (len * sz) .u) cp = some r) (hfl : unDL r = some fl)
    (h0 : Nat.blt 0 (len * sz) = true) (hm : Nat.ble (len * sz) 16777216 = true) (hfr : s.fresh d = true) (hzl : zs.length = sz) (hrow : chunks sz len fl = xs.map f) (hn : len = xs.length)
    (h : qn k w0 ops W S m Q l (listed.setIfInBounds i true) ((s.hput d .gone).put d (.one (.d (.list (xs.map f)))))) : qn k w0 ops W S m Q (i :: l) listed s :=
  d_one hr (v_sbsf f hi hN ht hz hp hcf hfl h0 hm hfr hzl hrow hn rfl h)
theorem wr_u8t {z : Int} : IntKind.u8.wrap z = z % 256 := by simp [IntKind.wrap, IntKind.bits, IntKind.signed]
theorem byteAt_in (s : ByteArray) (i : Int) : 0 ≤ byteAt s i ∧ byteAt s i ≤ 255 := by
  unfold byteAt
  split
  · rename_i h
    have := (s[i.toNat]'h).toNat_lt
    omega
  · omega
end
end Go.Proofs.Ytbnmcdnkeipdhaa
