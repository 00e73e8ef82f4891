/- Operations: types; which are right. -/
import Derived.Test.YtbnmcdnkeipdhaaLb3
import Derived.Test.YtbnmcdnkeipdhaaTq
set_option linter.all false
set_option maxRecDepth 20000
set_option maxHeartbeats 4000000
namespace Go.Proofs.Ytbnmcdnkeipdhaa
open Go.RowKit Go.Shelf
structure Opn where
  frm : Int
  sz : Int
  dat : List Int
def Opn.row (x : Opn) : List Cell := [.int .i64 x.frm, .int .i64 x.sz, .list (x.dat.map irow_u8)]
abbrev Opn.v (x : Opn) : SV := .agg (x.row.map .d)
abbrev Opn.p (x : Opn) : CV := .rp (x.row.map .d)
instance : Inhabited Opn := ⟨⟨0, 0, []⟩⟩
deriving instance DecidableEq for Opn
theorem Opn.row_mk (a0 : Int) (a1 : Int) (a2 : List Int) : [(.int .i64 a0 : Cell), (.int .i64 a1 : Cell), (.list (List.map irow_u8 a2) : Cell)] = Opn.row ⟨a0, a1, a2⟩ := rfl
theorem Opn.v_mk (a0 : Int) (a1 : Int) (a2 : List Int) : Opn.v ⟨a0, a1, a2⟩ = .agg [.d (.int .i64 a0), .d (.int .i64 a1), .d (.list (List.map irow_u8 a2))] := rfl
theorem Opn.ar {a0 : Int} {a1 : Int} {a2 : List Int} {xs : List Opn} {cs : List CV} (h : CvD cs (xs.flatMap Opn.row)) : CvD (.d (.int .i64 a0) :: .d (.int .i64 a1) :: .d (.list (List.map irow_u8 a2)) :: cs) ((⟨a0, a1, a2⟩ :: xs).flatMap Opn.row) := by rw [List.flatMap_cons]; exact (.d (.d (.d h)))
theorem bl {a b : Bool} (h : a = b) : SV.one (.d (.bool a)) = bv b := by rw [h]
abbrev by_ (l : List Int) : SV := .one (.d (.list (l.map irow_u8)))
abbrev ov (l : List Opn) : SV := .one (.d (.list (l.map Opn.row)))
def rightB (a b : Int) (n : Nat) : Bool := if b = 0 then decide (a = 0) && decide (0 < n) else decide (0 < b) && (decide (0 ≤ a) && decide (n = 0))
def fitsB (a b : Int) (n : Nat) (base : Int) : Bool := rightB a b n && (decide (b = 0) || (decide (a ≤ base) && decide (b ≤ base - a)))
theorem fitsB_iff {a b : Int} {n : Nat} {base : Int} : fitsB a b n base = true ↔ (b = 0 ∧ a = 0 ∧ 0 < n) ∨ (0 < b ∧ 0 ≤ a ∧ n = 0 ∧ a ≤ base ∧ b ≤ base - a) := by
  unfold fitsB rightB
  by_cases h : b = 0
  · simp [h]
  · rw [if_neg h]; simp [h]; omega
theorem fct1 {α : Type} {a : α} {A : Prop} {R : (α → Prop) → (α → Nat) → α → Prop} (h : ∃ (I : α → Prop) (μ : α → Nat), I a ∧ ∀ x, I x → R I μ x) : ∃ (I : α → Prop) (μ : α → Nat), I a ∧ ∀ x, I x → Fct A (R I μ x) := by
  obtain ⟨I, μ, h1, h2⟩ := h
  exact ⟨I, μ, h1, fun x hx => ⟨fun _ => h2 x hx⟩⟩
theorem fct2 {α β : Type} {a : α} {b : β} {A : Prop} {R : (α → β → Prop) → (α → β → Nat) → α → β → Prop} (h : ∃ (I : α → β → Prop) (μ : α → β → Nat), I a b ∧ ∀ x y, I x y → R I μ x y) : ∃ (I : α → β → Prop) (μ : α → β → Nat), I a b ∧ ∀ x y, I x y → Fct A (R I μ x y) := by
  obtain ⟨I, μ, h1, h2⟩ := h
  exact ⟨I, μ, h1, fun x y hx => ⟨fun _ => h2 x y hx⟩⟩
end Go.Proofs.Ytbnmcdnkeipdhaa
