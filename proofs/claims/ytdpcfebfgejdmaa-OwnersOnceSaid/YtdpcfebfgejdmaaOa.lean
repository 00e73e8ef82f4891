/- Types: directories, stewards. -/
import Derived.Test.YtdpcfebfgejdmaaTp
set_option linter.all false
set_option maxRecDepth 20000
namespace Go.Proofs.Ytdpcfebfgejdmaa
open Go.RowKit Go.Shelf
structure Mb where
  time : Int
  kind : Int
  prin : Int
  grp : Int
def Mb.row (x : Mb) : List Cell := [.int .i64 x.time, .int .i64 x.kind, .int .i64 x.prin, .int .i64 x.grp]
abbrev Mb.v (x : Mb) : SV := .agg (x.row.map .d)
abbrev Mb.p (x : Mb) : CV := .rp (x.row.map .d)
instance : Inhabited Mb := ⟨⟨0, 0, 0, 0⟩⟩
structure Dir where
  kinds : List Int
  evs : List Mb
def Dir.row (x : Dir) : List Cell := [.list (x.kinds.map irow), .list (x.evs.map Mb.row)]
abbrev Dir.v (x : Dir) : SV := .agg (x.row.map .d)
abbrev Dir.p (x : Dir) : CV := .rp (x.row.map .d)
instance : Inhabited Dir := ⟨⟨[], []⟩⟩
structure Stw where
  time : Int
  sub : Int
  stw : Int
def Stw.row (x : Stw) : List Cell := [.int .i64 x.time, .int .i64 x.sub, .int .i64 x.stw]
abbrev Stw.v (x : Stw) : SV := .agg (x.row.map .d)
abbrev Stw.p (x : Stw) : CV := .rp (x.row.map .d)
instance : Inhabited Stw := ⟨⟨0, 0, 0⟩⟩
deriving instance DecidableEq for Mb
deriving instance DecidableEq for Stw
theorem Mb.row_mk (a0 : Int) (a1 : Int) (a2 : Int) (a3 : Int) : [(.int .i64 a0 : Cell), (.int .i64 a1 : Cell), (.int .i64 a2 : Cell), (.int .i64 a3 : Cell)] = Mb.row ⟨a0, a1, a2, a3⟩ := rfl
theorem Mb.v_mk (a0 : Int) (a1 : Int) (a2 : Int) (a3 : Int) : Mb.v ⟨a0, a1, a2, a3⟩ = .agg [.d (.int .i64 a0), .d (.int .i64 a1), .d (.int .i64 a2), .d (.int .i64 a3)] := rfl
theorem Mb.ar {a0 : Int} {a1 : Int} {a2 : Int} {a3 : Int} {xs : List Mb} {cs : List CV} (h : CvD cs (xs.flatMap Mb.row)) : CvD (.d (.int .i64 a0) :: .d (.int .i64 a1) :: .d (.int .i64 a2) :: .d (.int .i64 a3) :: cs) ((⟨a0, a1, a2, a3⟩ :: xs).flatMap Mb.row) := by rw [List.flatMap_cons]; exact (.d (.d (.d (.d h))))
theorem Mb_eqT : eqT Try.prog 97 = some [.i, .i, .i, .i] := by decide +kernel
theorem Mb_cells (a0 : Int) (a1 : Int) (a2 : Int) (a3 : Int) (b0 : Int) (b1 : Int) (b2 : Int) (b3 : Int) : cellsEq [.i, .i, .i, .i] [.d (.int .i64 a0), .d (.int .i64 a1), .d (.int .i64 a2), .d (.int .i64 a3)] [.d (.int .i64 b0), .d (.int .i64 b1), .d (.int .i64 b2), .d (.int .i64 b3)] = some (decide ((⟨a0, a1, a2, a3⟩ : Mb) = ⟨b0, b1, b2, b3⟩)) := by
  simp [cellsEq, cellEq, Bool.decide_and, Bool.beq_eq_decide_eq]
theorem Dir.row_mk (a0 : List Int) (a1 : List Mb) : [(.list (List.map irow a0) : Cell), (.list (List.map Mb.row a1) : Cell)] = Dir.row ⟨a0, a1⟩ := rfl
theorem Dir.v_mk (a0 : List Int) (a1 : List Mb) : Dir.v ⟨a0, a1⟩ = .agg [.d (.list (List.map irow a0)), .d (.list (List.map Mb.row a1))] := rfl
theorem Dir.ar {a0 : List Int} {a1 : List Mb} {xs : List Dir} {cs : List CV} (h : CvD cs (xs.flatMap Dir.row)) : CvD (.d (.list (List.map irow a0)) :: .d (.list (List.map Mb.row a1)) :: cs) ((⟨a0, a1⟩ :: xs).flatMap Dir.row) := by rw [List.flatMap_cons]; exact (.d (.d h))
theorem Stw.row_mk (a0 : Int) (a1 : Int) (a2 : Int) : [(.int .i64 a0 : Cell), (.int .i64 a1 : Cell), (.int .i64 a2 : Cell)] = Stw.row ⟨a0, a1, a2⟩ := rfl
theorem Stw.v_mk (a0 : Int) (a1 : Int) (a2 : Int) : Stw.v ⟨a0, a1, a2⟩ = .agg [.d (.int .i64 a0), .d (.int .i64 a1), .d (.int .i64 a2)] := rfl
theorem Stw.ar {a0 : Int} {a1 : Int} {a2 : Int} {xs : List Stw} {cs : List CV} (h : CvD cs (xs.flatMap Stw.row)) : CvD (.d (.int .i64 a0) :: .d (.int .i64 a1) :: .d (.int .i64 a2) :: cs) ((⟨a0, a1, a2⟩ :: xs).flatMap Stw.row) := by rw [List.flatMap_cons]; exact (.d (.d (.d h)))
theorem Stw_eqT : eqT Try.prog 67 = some [.i, .i, .i] := by decide +kernel
theorem Stw_cells (a0 : Int) (a1 : Int) (a2 : Int) (b0 : Int) (b1 : Int) (b2 : Int) : cellsEq [.i, .i, .i] [.d (.int .i64 a0), .d (.int .i64 a1), .d (.int .i64 a2)] [.d (.int .i64 b0), .d (.int .i64 b1), .d (.int .i64 b2)] = some (decide ((⟨a0, a1, a2⟩ : Stw) = ⟨b0, b1, b2⟩)) := by
  simp [cellsEq, cellEq, Bool.decide_and, Bool.beq_eq_decide_eq]
end Go.Proofs.Ytdpcfebfgejdmaa
