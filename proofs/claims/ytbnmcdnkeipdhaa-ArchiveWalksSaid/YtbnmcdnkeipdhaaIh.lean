/- strings.Join of this program; slices.Clone of texts. -/
import Derived.Test.YtbnmcdnkeipdhaaIg
import Derived.Shelf.Strings.OnBuilder
set_option linter.all false
set_option maxRecDepth 100000
set_option maxHeartbeats 4000000
namespace Go.Proofs.Ytbnmcdnkeipdhaa
open Go.RowKit Go.Shelf
def rhoJ : Ren := ⟨fun x => bif Nat.beq x 156 then 86 else bif Nat.beq x 165 then 91 else bif Nat.beq x 166 then 92 else bif Nat.beq x 169 then 93 else bif Nat.beq x 240 then 96 else bif Nat.beq x 241 then 97 else bif Nat.beq x 276 then 99 else bif Nat.beq x 277 then 100 else x, fun x => bif Nat.beq x 0 then 0 else bif Nat.beq x 3 then 3 else bif Nat.beq x 4 then 4 else bif Nat.beq x 9 then 9 else bif Nat.beq x 20 then 20 else bif Nat.beq x 31 then 84 else bif Nat.beq x 37 then 23 else bif Nat.beq x 70 then 115 else bif Nat.beq x 72 then 117 else bif Nat.beq x 75 then 120 else bif Nat.beq x 76 then 121 else bif Nat.beq x 80 then 123 else bif Nat.beq x 127 then 124 else bif Nat.beq x 164 then 127 else bif Nat.beq x 5 then 5 else x, fun x => x⟩
theorem laysJ : Lays.n156 Try.prog rhoJ where
  mixed := by kernel_rfl
  f156 := by kernel_rfl
  f165 := by kernel_rfl
  f166 := by kernel_rfl
  f169 := by kernel_rfl
  f240 := by kernel_rfl
  f241 := by kernel_rfl
  f276 := by kernel_rfl
  f277 := by kernel_rfl
  t0 := by kernel_rfl
  a0 := fun w => by rfl
  z0 := fun w => by rfl
  v0 := fun w => by rfl
  t3 := by kernel_rfl
  a3 := fun w => by rfl
  z3 := fun w => by rfl
  v3 := fun w => by rfl
  t4 := by kernel_rfl
  a4 := fun w => by rfl
  z4 := fun w => by rfl
  v4 := fun w => by rfl
  t9 := by kernel_rfl
  a9 := fun w => by rfl
  z9 := fun w => by rfl
  v9 := fun w => by rfl
  t20 := by kernel_rfl
  a20 := fun w => by rfl
  z20 := fun w => by rfl
  v20 := fun w => by rfl
  t31 := by kernel_rfl
  a31 := fun w => by rfl
  z31 := fun w => by rfl
  v31 := fun w => by rfl
  t37 := by kernel_rfl
  a37 := fun w => by rfl
  z37 := fun w => by rfl
  v37 := fun w => by rfl
  t70 := by kernel_rfl
  a70 := fun w => by rfl
  z70 := fun w => by rfl
  v70 := fun w => by rfl
  t72 := by kernel_rfl
  a72 := fun w => by rfl
  z72 := fun w => by rfl
  v72 := fun w => by rfl
  t75 := by kernel_rfl
  a75 := fun w => by rfl
  z75 := fun w => by rfl
  v75 := fun w => by rfl
  t76 := by kernel_rfl
  a76 := fun w => by rfl
  z76 := fun w => by rfl
  v76 := fun w => by rfl
  t127 := by kernel_rfl
  a127 := fun w => by rfl
  z127 := fun w => by rfl
  v127 := fun w => by rfl
  t164 := by kernel_rfl
  a164 := fun w => by rfl
  z164 := fun w => by rfl
  v164 := fun w => by rfl
theorem extraJ : Builder.Extra Try.prog rhoJ where
  sizeBuilder := by kernel_rfl
  liesBuilder := by kernel_rfl
  t5 := by kernel_rfl
  a5 := fun w => by rfl
  z5 := fun w => by rfl
  v5 := fun w => by rfl
  infoByte := by kernel_rfl
  cellsByte := by kernel_rfl
  sizeByte := by kernel_rfl
  neB5 := by decide
end Go.Proofs.Ytbnmcdnkeipdhaa
