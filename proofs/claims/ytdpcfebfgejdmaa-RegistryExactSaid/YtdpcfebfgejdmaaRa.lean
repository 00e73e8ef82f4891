/- Registries: types. -/
import Derived.Test.YtdpcfebfgejdmaaRn
import Derived.Test.YtdpcfebfgejdmaaIvzb
import Derived.Test.YtdpcfebfgejdmaaTp
set_option linter.all false
set_option maxRecDepth 20000
namespace Go.Proofs.Ytdpcfebfgejdmaa
open Go.RowKit Go.Shelf
structure Iss where
  name : ByteArray
  slots : Int
def Iss.row (x : Iss) : List Cell := [.str x.name, .int .i64 x.slots]
abbrev Iss.v (x : Iss) : SV := .agg (x.row.map .d)
abbrev Iss.p (x : Iss) : CV := .rp (x.row.map .d)
instance : Inhabited Iss := ⟨⟨ByteArray.empty, 0⟩⟩
structure Crd where
  iss : Int
  fp : Int
  hold : Int
  frm : Int
  til : Int
def Crd.row (x : Crd) : List Cell := [.int .i64 x.iss, .int .u64 x.fp, .int .i64 x.hold, .int .i64 x.frm, .int .i64 x.til]
abbrev Crd.v (x : Crd) : SV := .agg (x.row.map .d)
abbrev Crd.p (x : Crd) : CV := .rp (x.row.map .d)
instance : Inhabited Crd := ⟨⟨0, 0, 0, 0, 0⟩⟩
structure Reg where
  isss : List Iss
  crds : List Crd
def Reg.row (x : Reg) : List Cell := [.list (x.isss.map Iss.row), .list (x.crds.map Crd.row)]
abbrev Reg.v (x : Reg) : SV := .agg (x.row.map .d)
abbrev Reg.p (x : Reg) : CV := .rp (x.row.map .d)
instance : Inhabited Reg := ⟨⟨[], []⟩⟩
deriving instance DecidableEq for Iss
deriving instance DecidableEq for Crd
deriving instance DecidableEq for Reg
theorem Iss.row_mk (a0 : ByteArray) (a1 : Int) : [(.str a0 : Cell), (.int .i64 a1 : Cell)] = Iss.row ⟨a0, a1⟩ := rfl
theorem Iss.v_mk (a0 : ByteArray) (a1 : Int) : Iss.v ⟨a0, a1⟩ = .agg [.d (.str a0), .d (.int .i64 a1)] := rfl
theorem Iss.ar {a0 : ByteArray} {a1 : Int} {xs : List Iss} {cs : List CV} (h : CvD cs (xs.flatMap Iss.row)) : CvD (.d (.str a0) :: .d (.int .i64 a1) :: cs) ((⟨a0, a1⟩ :: xs).flatMap Iss.row) := by rw [List.flatMap_cons]; exact (.d (.d h))
theorem Iss_eqT : eqT Try.prog 50 = some [.s, .i] := by decide +kernel
theorem Iss_cells (a0 : ByteArray) (a1 : Int) (b0 : ByteArray) (b1 : Int) : cellsEq [.s, .i] [.d (.str a0), .d (.int .i64 a1)] [.d (.str b0), .d (.int .i64 b1)] = some (decide ((⟨a0, a1⟩ : Iss) = ⟨b0, b1⟩)) := by
  simp [cellsEq, cellEq, Bool.decide_and, ba_beq, Bool.beq_eq_decide_eq]
theorem Crd.row_mk (a0 : Int) (a1 : Int) (a2 : Int) (a3 : Int) (a4 : Int) : [(.int .i64 a0 : Cell), (.int .u64 a1 : Cell), (.int .i64 a2 : Cell), (.int .i64 a3 : Cell), (.int .i64 a4 : Cell)] = Crd.row ⟨a0, a1, a2, a3, a4⟩ := rfl
theorem Crd.v_mk (a0 : Int) (a1 : Int) (a2 : Int) (a3 : Int) (a4 : Int) : Crd.v ⟨a0, a1, a2, a3, a4⟩ = .agg [.d (.int .i64 a0), .d (.int .u64 a1), .d (.int .i64 a2), .d (.int .i64 a3), .d (.int .i64 a4)] := rfl
theorem Crd.ar {a0 : Int} {a1 : Int} {a2 : Int} {a3 : Int} {a4 : Int} {xs : List Crd} {cs : List CV} (h : CvD cs (xs.flatMap Crd.row)) : CvD (.d (.int .i64 a0) :: .d (.int .u64 a1) :: .d (.int .i64 a2) :: .d (.int .i64 a3) :: .d (.int .i64 a4) :: cs) ((⟨a0, a1, a2, a3, a4⟩ :: xs).flatMap Crd.row) := by rw [List.flatMap_cons]; exact (.d (.d (.d (.d (.d h)))))
theorem Crd_eqT : eqT Try.prog 40 = some [.i, .i, .i, .i, .i] := by decide +kernel
theorem Crd_cells (a0 : Int) (a1 : Int) (a2 : Int) (a3 : Int) (a4 : Int) (b0 : Int) (b1 : Int) (b2 : Int) (b3 : Int) (b4 : Int) : cellsEq [.i, .i, .i, .i, .i] [.d (.int .i64 a0), .d (.int .u64 a1), .d (.int .i64 a2), .d (.int .i64 a3), .d (.int .i64 a4)] [.d (.int .i64 b0), .d (.int .u64 b1), .d (.int .i64 b2), .d (.int .i64 b3), .d (.int .i64 b4)] = some (decide ((⟨a0, a1, a2, a3, a4⟩ : Crd) = ⟨b0, b1, b2, b3, b4⟩)) := by
  simp [cellsEq, cellEq, Bool.decide_and, Bool.beq_eq_decide_eq]
theorem Reg.row_mk (a0 : List Iss) (a1 : List Crd) : [(.list (List.map Iss.row a0) : Cell), (.list (List.map Crd.row a1) : Cell)] = Reg.row ⟨a0, a1⟩ := rfl
theorem Reg.v_mk (a0 : List Iss) (a1 : List Crd) : Reg.v ⟨a0, a1⟩ = .agg [.d (.list (List.map Iss.row a0)), .d (.list (List.map Crd.row a1))] := rfl
theorem Reg.ar {a0 : List Iss} {a1 : List Crd} {xs : List Reg} {cs : List CV} (h : CvD cs (xs.flatMap Reg.row)) : CvD (.d (.list (List.map Iss.row a0)) :: .d (.list (List.map Crd.row a1)) :: cs) ((⟨a0, a1⟩ :: xs).flatMap Reg.row) := by rw [List.flatMap_cons]; exact (.d (.d h))
end Go.Proofs.Ytdpcfebfgejdmaa
