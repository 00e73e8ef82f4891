/- Archives: the entries within, walked. -/
import Derived.Test.YtbnmcdnkeipdhaaId
set_option linter.all false
set_option maxRecDepth 20000
set_option maxHeartbeats 8000000
namespace Go.Proofs.Ytbnmcdnkeipdhaa
open Go.RowKit Go.Shelf
def bang : ByteArray := ⟨#[33]⟩
noncomputable def wkS (d : Nat) (l : List Ent) (front : ByteArray) (out : List Ent) (size : Int) : List Ent × Int × Bool :=
  match l with
  | [] => (out, size, true)
  | e :: l =>
    if 65536 < size + e.dat.length ∨ 2000 < out.length + 1 then ([], size + e.dat.length, false)
    else if h : 1 < d ∧ (parS e.dat).2 = true then
      if (wkS (d - 1) (parS e.dat).1 (front ++ e.nm ++ bang) (out ++ [⟨front ++ e.nm, e.dat⟩]) (size + e.dat.length)).2.2 = true then
        wkS d l front (wkS (d - 1) (parS e.dat).1 (front ++ e.nm ++ bang) (out ++ [⟨front ++ e.nm, e.dat⟩]) (size + e.dat.length)).1 (wkS (d - 1) (parS e.dat).1 (front ++ e.nm ++ bang) (out ++ [⟨front ++ e.nm, e.dat⟩]) (size + e.dat.length)).2.1
      else ([], (wkS (d - 1) (parS e.dat).1 (front ++ e.nm ++ bang) (out ++ [⟨front ++ e.nm, e.dat⟩]) (size + e.dat.length)).2.1, false)
    else wkS d l front (out ++ [⟨front ++ e.nm, e.dat⟩]) (size + e.dat.length)
termination_by (d, l.length)
decreasing_by all_goals first | exact Prod.Lex.left _ _ (by omega) | exact Prod.Lex.right _ (by simp)
end Go.Proofs.Ytbnmcdnkeipdhaa
