/- Types: directories, estates. -/
import Derived.Test.YtcbppkfnfbdkhaaQTp
import Derived.Test.YtcbppkfnfbdkhaaLb3
set_option linter.all false
set_option maxRecDepth 20000
namespace Go.Proofs.Ytcbppkfnfbdkhaa
open Go.RowKit Go.Shelf
structure Mb where
  time : Int
  kind : Int
  prin : Int
  grp : Int
def Mb.row (x : Mb) : List Cell := [.int .i64 x.time, .int .i64 x.kind, .int .i64 x.prin, .int .i64 x.grp]
abbrev Mb.v (x : Mb) : SV := .agg (x.row.map .d)
abbrev Mb.p (x : Mb) : CV := .rp (x.row.map .d)
instance : Inhabited Mb := ⟨⟨0, 0, 0, 0⟩⟩
structure Dir where
  kinds : List Int
  evs : List Mb
def Dir.row (x : Dir) : List Cell := [.list (x.kinds.map irow), .list (x.evs.map Mb.row)]
abbrev Dir.v (x : Dir) : SV := .agg (x.row.map .d)
abbrev Dir.p (x : Dir) : CV := .rp (x.row.map .d)
instance : Inhabited Dir := ⟨⟨[], []⟩⟩
structure Acc where
  time : Int
  kind : Int
  place : Int
  prin : Int
  til : Int
  cont : Int
  frm : Int
def Acc.row (x : Acc) : List Cell := [.int .i64 x.time, .int .i64 x.kind, .int .i64 x.place, .int .i64 x.prin, .int .i64 x.til, .int .i64 x.cont, .int .i64 x.frm]
abbrev Acc.v (x : Acc) : SV := .agg (x.row.map .d)
abbrev Acc.p (x : Acc) : CV := .rp (x.row.map .d)
instance : Inhabited Acc := ⟨⟨0, 0, 0, 0, 0, 0, 0⟩⟩
structure Est where
  places : Int
  evs : List Acc
def Est.row (x : Est) : List Cell := [.int .i64 x.places, .list (x.evs.map Acc.row)]
abbrev Est.v (x : Est) : SV := .agg (x.row.map .d)
abbrev Est.p (x : Est) : CV := .rp (x.row.map .d)
instance : Inhabited Est := ⟨⟨0, []⟩⟩
structure Sty where
  place : Int
  frm : Int
  til : Int
def Sty.row (x : Sty) : List Cell := [.int .i64 x.place, .int .i64 x.frm, .int .i64 x.til]
abbrev Sty.v (x : Sty) : SV := .agg (x.row.map .d)
abbrev Sty.p (x : Sty) : CV := .rp (x.row.map .d)
instance : Inhabited Sty := ⟨⟨0, 0, 0⟩⟩
deriving instance DecidableEq for Mb
deriving instance DecidableEq for Acc
deriving instance DecidableEq for Sty
theorem Mb.row_mk (a0 : Int) (a1 : Int) (a2 : Int) (a3 : Int) : [(.int .i64 a0 : Cell), (.int .i64 a1 : Cell), (.int .i64 a2 : Cell), (.int .i64 a3 : Cell)] = Mb.row ⟨a0, a1, a2, a3⟩ := rfl
theorem Mb.v_mk (a0 : Int) (a1 : Int) (a2 : Int) (a3 : Int) : Mb.v ⟨a0, a1, a2, a3⟩ = .agg [.d (.int .i64 a0), .d (.int .i64 a1), .d (.int .i64 a2), .d (.int .i64 a3)] := rfl
theorem Mb.ar {a0 : Int} {a1 : Int} {a2 : Int} {a3 : Int} {xs : List Mb} {cs : List CV} (h : CvD cs (xs.flatMap Mb.row)) : CvD (.d (.int .i64 a0) :: .d (.int .i64 a1) :: .d (.int .i64 a2) :: .d (.int .i64 a3) :: cs) ((⟨a0, a1, a2, a3⟩ :: xs).flatMap Mb.row) := by rw [List.flatMap_cons]; exact (.d (.d (.d (.d h))))
theorem Dir.row_mk (a0 : List Int) (a1 : List Mb) : [(.list (List.map irow a0) : Cell), (.list (List.map Mb.row a1) : Cell)] = Dir.row ⟨a0, a1⟩ := rfl
theorem Dir.v_mk (a0 : List Int) (a1 : List Mb) : Dir.v ⟨a0, a1⟩ = .agg [.d (.list (List.map irow a0)), .d (.list (List.map Mb.row a1))] := rfl
theorem Dir.ar {a0 : List Int} {a1 : List Mb} {xs : List Dir} {cs : List CV} (h : CvD cs (xs.flatMap Dir.row)) : CvD (.d (.list (List.map irow a0)) :: .d (.list (List.map Mb.row a1)) :: cs) ((⟨a0, a1⟩ :: xs).flatMap Dir.row) := by rw [List.flatMap_cons]; exact (.d (.d h))
theorem Acc.row_mk (a0 : Int) (a1 : Int) (a2 : Int) (a3 : Int) (a4 : Int) (a5 : Int) (a6 : Int) : [(.int .i64 a0 : Cell), (.int .i64 a1 : Cell), (.int .i64 a2 : Cell), (.int .i64 a3 : Cell), (.int .i64 a4 : Cell), (.int .i64 a5 : Cell), (.int .i64 a6 : Cell)] = Acc.row ⟨a0, a1, a2, a3, a4, a5, a6⟩ := rfl
theorem Acc.v_mk (a0 : Int) (a1 : Int) (a2 : Int) (a3 : Int) (a4 : Int) (a5 : Int) (a6 : Int) : Acc.v ⟨a0, a1, a2, a3, a4, a5, a6⟩ = .agg [.d (.int .i64 a0), .d (.int .i64 a1), .d (.int .i64 a2), .d (.int .i64 a3), .d (.int .i64 a4), .d (.int .i64 a5), .d (.int .i64 a6)] := rfl
theorem Acc.ar {a0 : Int} {a1 : Int} {a2 : Int} {a3 : Int} {a4 : Int} {a5 : Int} {a6 : Int} {xs : List Acc} {cs : List CV} (h : CvD cs (xs.flatMap Acc.row)) : CvD (.d (.int .i64 a0) :: .d (.int .i64 a1) :: .d (.int .i64 a2) :: .d (.int .i64 a3) :: .d (.int .i64 a4) :: .d (.int .i64 a5) :: .d (.int .i64 a6) :: cs) ((⟨a0, a1, a2, a3, a4, a5, a6⟩ :: xs).flatMap Acc.row) := by rw [List.flatMap_cons]; exact (.d (.d (.d (.d (.d (.d (.d h)))))))
theorem Est.row_mk (a0 : Int) (a1 : List Acc) : [(.int .i64 a0 : Cell), (.list (List.map Acc.row a1) : Cell)] = Est.row ⟨a0, a1⟩ := rfl
theorem Est.v_mk (a0 : Int) (a1 : List Acc) : Est.v ⟨a0, a1⟩ = .agg [.d (.int .i64 a0), .d (.list (List.map Acc.row a1))] := rfl
theorem Est.ar {a0 : Int} {a1 : List Acc} {xs : List Est} {cs : List CV} (h : CvD cs (xs.flatMap Est.row)) : CvD (.d (.int .i64 a0) :: .d (.list (List.map Acc.row a1)) :: cs) ((⟨a0, a1⟩ :: xs).flatMap Est.row) := by rw [List.flatMap_cons]; exact (.d (.d h))
end Go.Proofs.Ytcbppkfnfbdkhaa
