/- Common: short forms. -/
import Derived.Test.YtbnmcdnkeipdhaaTypes
import Derived.Test.YtbnmcdnkeipdhaaIvv
set_option linter.all false
set_option maxRecDepth 20000
set_option maxHeartbeats 2000000
namespace Go.Proofs.Ytbnmcdnkeipdhaa
open Go.RowKit Go.Shelf
abbrev iv (n : Int) : SV := .one (.d (.int .i64 n))
abbrev bv (b : Bool) : SV := .one (.d (.bool b))
noncomputable abbrev K (N : Nat) : Wk := ⟨Try.prog, 26, N, tab, tab_ok⟩
abbrev ICt (f : Nat) (args : List SV) (post : SV → Prop) : Prop := IC Try.prog 26 f args post
abbrev ILt (f : Nat) (args : List SV) : Prop := IL Try.prog 26 f args (fun v => v = bv true)
def irow (z : Int) : List Cell := [.int .i64 z]
abbrev ints (l : List Int) : Cell := .list (l.map irow)
abbrev lv (l : List Int) : SV := .one (.d (ints l))
theorem src_sl {s : St} {v : SV} {r n sz : Nat} {e : TypeId} {rows : List (List Cell)} (hv : v = .one (.sl r n sz)) (h : getH s.H r = .arr e sz rows) (hn : rows.length = n) : Src s sz v rows := by
  subst hn; subst hv; exact .sl h
theorem src_nil {s : St} {v : SV} {sz : Nat} (hv : v = .one .nil) : Src s sz v [] := by subst hv; exact .nil
theorem src_d {s : St} {v : SV} {sz : Nat} {rows : List (List Cell)} (hv : v = .one (.d (.list rows))) (h : ∀ row ∈ rows, row.length = sz) : Src s sz v rows := by subst hv; exact .d _ h
theorem not_t {b : Bool} (h : b = true) : (!b) = false := by rw [h]; rfl
theorem not_f {b : Bool} (h : b = false) : (!b) = true := by rw [h]; rfl
theorem ints_ty {c : Cell} (h : HasTy tab 22 [c]) : ∃ l : List Int, c = ints l := by
  obtain ⟨l, e⟩ := h.map_ (f := irow) rfl fun row hr => by
    obtain ⟨n, rfl⟩ := hr.int_ rfl
    exact ⟨n, rfl⟩
  injection e with e
  exact ⟨l, e⟩
theorem int_ty {c : Cell} (h : HasTy tab 3 [c]) : ∃ n : Int, c = .int .i64 n := by
  obtain ⟨n, e⟩ := h.int_ rfl
  injection e with e
  exact ⟨n, e⟩
end Go.Proofs.Ytbnmcdnkeipdhaa
