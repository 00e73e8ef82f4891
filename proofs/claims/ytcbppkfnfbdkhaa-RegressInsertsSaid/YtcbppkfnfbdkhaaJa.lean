/- Types: findings, rules. -/
import Derived.Test.YtcbppkfnfbdkhaaTq
import Derived.Test.YtcbppkfnfbdkhaaLb4
set_option linter.all false
set_option maxRecDepth 20000
namespace Go.Proofs.Ytcbppkfnfbdkhaa
open Go.RowKit Go.Shelf
structure Rng where
  lo : Int
  hi : Int
def Rng.row (x : Rng) : List Cell := [.int .u8 x.lo, .int .u8 x.hi]
abbrev Rng.v (x : Rng) : SV := .agg (x.row.map .d)
abbrev Rng.p (x : Rng) : CV := .rp (x.row.map .d)
instance : Inhabited Rng := ⟨⟨0, 0⟩⟩
deriving instance DecidableEq for Rng
structure Nde where
  op : Int
  rgs : List Rng
  kids : List (List Cell)
  mn : Int
  mx : Int
def Nde.row (x : Nde) : List Cell := [.int .i64 x.op, .list (x.rgs.map Rng.row), .list x.kids, .int .i64 x.mn, .int .i64 x.mx]
abbrev Nde.v (x : Nde) : SV := .agg (x.row.map .d)
abbrev Nde.p (x : Nde) : CV := .rp (x.row.map .d)
instance : Inhabited Nde := ⟨⟨0, [], [], 0, 0⟩⟩
structure Knd where
  nm : ByteArray
  pt : Nde
  wo : Bool
  ck : Int
  en : Int
  ws : List ByteArray
  nr : Int
def Knd.row (x : Knd) : List Cell := [.str x.nm, .int .i64 x.pt.op, .list (x.pt.rgs.map Rng.row), .list x.pt.kids, .int .i64 x.pt.mn, .int .i64 x.pt.mx, .bool x.wo, .int .i64 x.ck, .int .i64 x.en, .list (x.ws.map srow), .int .i64 x.nr]
abbrev Knd.v (x : Knd) : SV := .agg (x.row.map .d)
abbrev Knd.p (x : Knd) : CV := .rp (x.row.map .d)
instance : Inhabited Knd := ⟨⟨ByteArray.empty, default, false, 0, 0, [], 0⟩⟩
structure Lyr where
  cd : Int
  fr : Int
  to : Int
def Lyr.row (x : Lyr) : List Cell := [.int .i64 x.cd, .int .i64 x.fr, .int .i64 x.to]
abbrev Lyr.v (x : Lyr) : SV := .agg (x.row.map .d)
abbrev Lyr.p (x : Lyr) : CV := .rp (x.row.map .d)
instance : Inhabited Lyr := ⟨⟨0, 0, 0⟩⟩
deriving instance DecidableEq for Lyr
structure Plc where
  sr : Int
  pa : ByteArray
  tm : Int
def Plc.row (x : Plc) : List Cell := [.int .i64 x.sr, .str x.pa, .int .i64 x.tm]
abbrev Plc.v (x : Plc) : SV := .agg (x.row.map .d)
abbrev Plc.p (x : Plc) : CV := .rp (x.row.map .d)
instance : Inhabited Plc := ⟨⟨0, ByteArray.empty, 0⟩⟩
deriving instance DecidableEq for Plc
structure Spt where
  pl : Plc
  ly : List Lyr
  fr : Int
  to : Int
def Spt.row (x : Spt) : List Cell := [.int .i64 x.pl.sr, .str x.pl.pa, .int .i64 x.pl.tm, .list (x.ly.map Lyr.row), .int .i64 x.fr, .int .i64 x.to]
abbrev Spt.v (x : Spt) : SV := .agg (x.row.map .d)
abbrev Spt.p (x : Spt) : CV := .rp (x.row.map .d)
instance : Inhabited Spt := ⟨⟨default, [], 0, 0⟩⟩
deriving instance DecidableEq for Spt
structure Fnd where
  kd : Int
  pr : Int
  wh : List Spt
def Fnd.row (x : Fnd) : List Cell := [.int .i64 x.kd, .int .u64 x.pr, .list (x.wh.map Spt.row)]
abbrev Fnd.v (x : Fnd) : SV := .agg (x.row.map .d)
abbrev Fnd.p (x : Fnd) : CV := .rp (x.row.map .d)
instance : Inhabited Fnd := ⟨⟨0, 0, []⟩⟩
deriving instance DecidableEq for Fnd
structure Trm where
  op : Int
  tx : ByteArray
  nu : Int
  pr : Int
  kids : List (List Cell)
def Trm.row (x : Trm) : List Cell := [.int .i64 x.op, .str x.tx, .int .i64 x.nu, .int .u64 x.pr, .list x.kids]
abbrev Trm.v (x : Trm) : SV := .agg (x.row.map .d)
abbrev Trm.p (x : Trm) : CV := .rp (x.row.map .d)
instance : Inhabited Trm := ⟨⟨0, ByteArray.empty, 0, 0, []⟩⟩
structure Rul where
  nm : ByteArray
  wh : Trm
  vd : Int
def Rul.row (x : Rul) : List Cell := [.str x.nm, .int .i64 x.wh.op, .str x.wh.tx, .int .i64 x.wh.nu, .int .u64 x.wh.pr, .list x.wh.kids, .int .i64 x.vd]
abbrev Rul.v (x : Rul) : SV := .agg (x.row.map .d)
abbrev Rul.p (x : Rul) : CV := .rp (x.row.map .d)
instance : Inhabited Rul := ⟨⟨ByteArray.empty, default, 0⟩⟩
structure Chg where
  fi : Int
  sp : Int
  be : Int
  af : Int
  rb : Int
  by_ : Int
def Chg.row (x : Chg) : List Cell := [.int .i64 x.fi, .int .i64 x.sp, .int .i64 x.be, .int .i64 x.af, .int .i64 x.rb, .int .i64 x.by_]
abbrev Chg.v (x : Chg) : SV := .agg (x.row.map .d)
abbrev Chg.p (x : Chg) : CV := .rp (x.row.map .d)
instance : Inhabited Chg := ⟨⟨0, 0, 0, 0, 0, 0⟩⟩
deriving instance DecidableEq for Chg
theorem Rng.row_mk (a0 : Int) (a1 : Int) : [(.int .u8 a0 : Cell), (.int .u8 a1 : Cell)] = Rng.row ⟨a0, a1⟩ := rfl
theorem Rng.v_mk (a0 : Int) (a1 : Int) : Rng.v ⟨a0, a1⟩ = .agg [.d (.int .u8 a0), .d (.int .u8 a1)] := rfl
theorem Rng.ar {a0 : Int} {a1 : Int} {xs : List Rng} {cs : List CV} (h : CvD cs (xs.flatMap Rng.row)) : CvD (.d (.int .u8 a0) :: .d (.int .u8 a1) :: cs) ((⟨a0, a1⟩ :: xs).flatMap Rng.row) := by rw [List.flatMap_cons]; exact (.d (.d h))
theorem Nde.row_mk (a0 : Int) (a1 : List Rng) (a2 : List Nde) (a3 : Int) (a4 : Int) : [(.int .i64 a0 : Cell), (.list (List.map Rng.row a1) : Cell), (.list (List.map Nde.row a2) : Cell), (.int .i64 a3 : Cell), (.int .i64 a4 : Cell)] = Nde.row ⟨a0, a1, (List.map Nde.row a2), a3, a4⟩ := rfl
theorem Nde.v_mk (a0 : Int) (a1 : List Rng) (a2 : List Nde) (a3 : Int) (a4 : Int) : Nde.v ⟨a0, a1, (List.map Nde.row a2), a3, a4⟩ = .agg [.d (.int .i64 a0), .d (.list (List.map Rng.row a1)), .d (.list (List.map Nde.row a2)), .d (.int .i64 a3), .d (.int .i64 a4)] := rfl
theorem Nde.ar {a0 : Int} {a1 : List Rng} {a2 : List Nde} {a3 : Int} {a4 : Int} {xs : List Nde} {cs : List CV} (h : CvD cs (xs.flatMap Nde.row)) : CvD (.d (.int .i64 a0) :: .d (.list (List.map Rng.row a1)) :: .d (.list (List.map Nde.row a2)) :: .d (.int .i64 a3) :: .d (.int .i64 a4) :: cs) ((⟨a0, a1, (List.map Nde.row a2), a3, a4⟩ :: xs).flatMap Nde.row) := by rw [List.flatMap_cons]; exact (.d (.d (.d (.d (.d h)))))
theorem Nde.row_mkr (a0 : Int) (a1 : List Rng) (a2 : List (List Cell)) (a3 : Int) (a4 : Int) : [(.int .i64 a0 : Cell), (.list (List.map Rng.row a1) : Cell), (.list a2 : Cell), (.int .i64 a3 : Cell), (.int .i64 a4 : Cell)] = Nde.row ⟨a0, a1, a2, a3, a4⟩ := rfl
theorem Knd.row_mk (a0 : ByteArray) (a1 : Int) (a2 : List Rng) (a3 : List Nde) (a4 : Int) (a5 : Int) (a6 : Bool) (a7 : Int) (a8 : Int) (a9 : List ByteArray) (a10 : Int) : [(.str a0 : Cell), (.int .i64 a1 : Cell), (.list (List.map Rng.row a2) : Cell), (.list (List.map Nde.row a3) : Cell), (.int .i64 a4 : Cell), (.int .i64 a5 : Cell), (.bool a6 : Cell), (.int .i64 a7 : Cell), (.int .i64 a8 : Cell), (.list (List.map srow a9) : Cell), (.int .i64 a10 : Cell)] = Knd.row ⟨a0, ⟨a1, a2, (List.map Nde.row a3), a4, a5⟩, a6, a7, a8, a9, a10⟩ := rfl
theorem Knd.v_mk (a0 : ByteArray) (a1 : Int) (a2 : List Rng) (a3 : List Nde) (a4 : Int) (a5 : Int) (a6 : Bool) (a7 : Int) (a8 : Int) (a9 : List ByteArray) (a10 : Int) : Knd.v ⟨a0, ⟨a1, a2, (List.map Nde.row a3), a4, a5⟩, a6, a7, a8, a9, a10⟩ = .agg [.d (.str a0), .d (.int .i64 a1), .d (.list (List.map Rng.row a2)), .d (.list (List.map Nde.row a3)), .d (.int .i64 a4), .d (.int .i64 a5), .d (.bool a6), .d (.int .i64 a7), .d (.int .i64 a8), .d (.list (List.map srow a9)), .d (.int .i64 a10)] := rfl
theorem Knd.ar {a0 : ByteArray} {a1 : Int} {a2 : List Rng} {a3 : List Nde} {a4 : Int} {a5 : Int} {a6 : Bool} {a7 : Int} {a8 : Int} {a9 : List ByteArray} {a10 : Int} {xs : List Knd} {cs : List CV} (h : CvD cs (xs.flatMap Knd.row)) : CvD (.d (.str a0) :: .d (.int .i64 a1) :: .d (.list (List.map Rng.row a2)) :: .d (.list (List.map Nde.row a3)) :: .d (.int .i64 a4) :: .d (.int .i64 a5) :: .d (.bool a6) :: .d (.int .i64 a7) :: .d (.int .i64 a8) :: .d (.list (List.map srow a9)) :: .d (.int .i64 a10) :: cs) ((⟨a0, ⟨a1, a2, (List.map Nde.row a3), a4, a5⟩, a6, a7, a8, a9, a10⟩ :: xs).flatMap Knd.row) := by rw [List.flatMap_cons]; exact (.d (.d (.d (.d (.d (.d (.d (.d (.d (.d (.d h)))))))))))
theorem Knd.row_mkr (a0 : ByteArray) (a1 : Int) (a2 : List Rng) (a3 : List (List Cell)) (a4 : Int) (a5 : Int) (a6 : Bool) (a7 : Int) (a8 : Int) (a9 : List ByteArray) (a10 : Int) : [(.str a0 : Cell), (.int .i64 a1 : Cell), (.list (List.map Rng.row a2) : Cell), (.list a3 : Cell), (.int .i64 a4 : Cell), (.int .i64 a5 : Cell), (.bool a6 : Cell), (.int .i64 a7 : Cell), (.int .i64 a8 : Cell), (.list (List.map srow a9) : Cell), (.int .i64 a10 : Cell)] = Knd.row ⟨a0, ⟨a1, a2, a3, a4, a5⟩, a6, a7, a8, a9, a10⟩ := rfl
theorem Lyr.row_mk (a0 : Int) (a1 : Int) (a2 : Int) : [(.int .i64 a0 : Cell), (.int .i64 a1 : Cell), (.int .i64 a2 : Cell)] = Lyr.row ⟨a0, a1, a2⟩ := rfl
theorem Lyr.v_mk (a0 : Int) (a1 : Int) (a2 : Int) : Lyr.v ⟨a0, a1, a2⟩ = .agg [.d (.int .i64 a0), .d (.int .i64 a1), .d (.int .i64 a2)] := rfl
theorem Lyr.ar {a0 : Int} {a1 : Int} {a2 : Int} {xs : List Lyr} {cs : List CV} (h : CvD cs (xs.flatMap Lyr.row)) : CvD (.d (.int .i64 a0) :: .d (.int .i64 a1) :: .d (.int .i64 a2) :: cs) ((⟨a0, a1, a2⟩ :: xs).flatMap Lyr.row) := by rw [List.flatMap_cons]; exact (.d (.d (.d h)))
theorem Plc.row_mk (a0 : Int) (a1 : ByteArray) (a2 : Int) : [(.int .i64 a0 : Cell), (.str a1 : Cell), (.int .i64 a2 : Cell)] = Plc.row ⟨a0, a1, a2⟩ := rfl
theorem Plc.v_mk (a0 : Int) (a1 : ByteArray) (a2 : Int) : Plc.v ⟨a0, a1, a2⟩ = .agg [.d (.int .i64 a0), .d (.str a1), .d (.int .i64 a2)] := rfl
theorem Plc.ar {a0 : Int} {a1 : ByteArray} {a2 : Int} {xs : List Plc} {cs : List CV} (h : CvD cs (xs.flatMap Plc.row)) : CvD (.d (.int .i64 a0) :: .d (.str a1) :: .d (.int .i64 a2) :: cs) ((⟨a0, a1, a2⟩ :: xs).flatMap Plc.row) := by rw [List.flatMap_cons]; exact (.d (.d (.d h)))
theorem Spt.row_mk (a0 : Int) (a1 : ByteArray) (a2 : Int) (a3 : List Lyr) (a4 : Int) (a5 : Int) : [(.int .i64 a0 : Cell), (.str a1 : Cell), (.int .i64 a2 : Cell), (.list (List.map Lyr.row a3) : Cell), (.int .i64 a4 : Cell), (.int .i64 a5 : Cell)] = Spt.row ⟨⟨a0, a1, a2⟩, a3, a4, a5⟩ := rfl
theorem Spt.v_mk (a0 : Int) (a1 : ByteArray) (a2 : Int) (a3 : List Lyr) (a4 : Int) (a5 : Int) : Spt.v ⟨⟨a0, a1, a2⟩, a3, a4, a5⟩ = .agg [.d (.int .i64 a0), .d (.str a1), .d (.int .i64 a2), .d (.list (List.map Lyr.row a3)), .d (.int .i64 a4), .d (.int .i64 a5)] := rfl
theorem Spt.ar {a0 : Int} {a1 : ByteArray} {a2 : Int} {a3 : List Lyr} {a4 : Int} {a5 : Int} {xs : List Spt} {cs : List CV} (h : CvD cs (xs.flatMap Spt.row)) : CvD (.d (.int .i64 a0) :: .d (.str a1) :: .d (.int .i64 a2) :: .d (.list (List.map Lyr.row a3)) :: .d (.int .i64 a4) :: .d (.int .i64 a5) :: cs) ((⟨⟨a0, a1, a2⟩, a3, a4, a5⟩ :: xs).flatMap Spt.row) := by rw [List.flatMap_cons]; exact (.d (.d (.d (.d (.d (.d h))))))
theorem Fnd.row_mk (a0 : Int) (a1 : Int) (a2 : List Spt) : [(.int .i64 a0 : Cell), (.int .u64 a1 : Cell), (.list (List.map Spt.row a2) : Cell)] = Fnd.row ⟨a0, a1, a2⟩ := rfl
theorem Fnd.v_mk (a0 : Int) (a1 : Int) (a2 : List Spt) : Fnd.v ⟨a0, a1, a2⟩ = .agg [.d (.int .i64 a0), .d (.int .u64 a1), .d (.list (List.map Spt.row a2))] := rfl
theorem Fnd.ar {a0 : Int} {a1 : Int} {a2 : List Spt} {xs : List Fnd} {cs : List CV} (h : CvD cs (xs.flatMap Fnd.row)) : CvD (.d (.int .i64 a0) :: .d (.int .u64 a1) :: .d (.list (List.map Spt.row a2)) :: cs) ((⟨a0, a1, a2⟩ :: xs).flatMap Fnd.row) := by rw [List.flatMap_cons]; exact (.d (.d (.d h)))
theorem Trm.row_mk (a0 : Int) (a1 : ByteArray) (a2 : Int) (a3 : Int) (a4 : List Trm) : [(.int .i64 a0 : Cell), (.str a1 : Cell), (.int .i64 a2 : Cell), (.int .u64 a3 : Cell), (.list (List.map Trm.row a4) : Cell)] = Trm.row ⟨a0, a1, a2, a3, (List.map Trm.row a4)⟩ := rfl
theorem Trm.v_mk (a0 : Int) (a1 : ByteArray) (a2 : Int) (a3 : Int) (a4 : List Trm) : Trm.v ⟨a0, a1, a2, a3, (List.map Trm.row a4)⟩ = .agg [.d (.int .i64 a0), .d (.str a1), .d (.int .i64 a2), .d (.int .u64 a3), .d (.list (List.map Trm.row a4))] := rfl
theorem Trm.ar {a0 : Int} {a1 : ByteArray} {a2 : Int} {a3 : Int} {a4 : List Trm} {xs : List Trm} {cs : List CV} (h : CvD cs (xs.flatMap Trm.row)) : CvD (.d (.int .i64 a0) :: .d (.str a1) :: .d (.int .i64 a2) :: .d (.int .u64 a3) :: .d (.list (List.map Trm.row a4)) :: cs) ((⟨a0, a1, a2, a3, (List.map Trm.row a4)⟩ :: xs).flatMap Trm.row) := by rw [List.flatMap_cons]; exact (.d (.d (.d (.d (.d h)))))
theorem Trm.row_mkr (a0 : Int) (a1 : ByteArray) (a2 : Int) (a3 : Int) (a4 : List (List Cell)) : [(.int .i64 a0 : Cell), (.str a1 : Cell), (.int .i64 a2 : Cell), (.int .u64 a3 : Cell), (.list a4 : Cell)] = Trm.row ⟨a0, a1, a2, a3, a4⟩ := rfl
theorem Rul.row_mk (a0 : ByteArray) (a1 : Int) (a2 : ByteArray) (a3 : Int) (a4 : Int) (a5 : List Trm) (a6 : Int) : [(.str a0 : Cell), (.int .i64 a1 : Cell), (.str a2 : Cell), (.int .i64 a3 : Cell), (.int .u64 a4 : Cell), (.list (List.map Trm.row a5) : Cell), (.int .i64 a6 : Cell)] = Rul.row ⟨a0, ⟨a1, a2, a3, a4, (List.map Trm.row a5)⟩, a6⟩ := rfl
theorem Rul.v_mk (a0 : ByteArray) (a1 : Int) (a2 : ByteArray) (a3 : Int) (a4 : Int) (a5 : List Trm) (a6 : Int) : Rul.v ⟨a0, ⟨a1, a2, a3, a4, (List.map Trm.row a5)⟩, a6⟩ = .agg [.d (.str a0), .d (.int .i64 a1), .d (.str a2), .d (.int .i64 a3), .d (.int .u64 a4), .d (.list (List.map Trm.row a5)), .d (.int .i64 a6)] := rfl
theorem Rul.ar {a0 : ByteArray} {a1 : Int} {a2 : ByteArray} {a3 : Int} {a4 : Int} {a5 : List Trm} {a6 : Int} {xs : List Rul} {cs : List CV} (h : CvD cs (xs.flatMap Rul.row)) : CvD (.d (.str a0) :: .d (.int .i64 a1) :: .d (.str a2) :: .d (.int .i64 a3) :: .d (.int .u64 a4) :: .d (.list (List.map Trm.row a5)) :: .d (.int .i64 a6) :: cs) ((⟨a0, ⟨a1, a2, a3, a4, (List.map Trm.row a5)⟩, a6⟩ :: xs).flatMap Rul.row) := by rw [List.flatMap_cons]; exact (.d (.d (.d (.d (.d (.d (.d h)))))))
theorem Rul.row_mkr (a0 : ByteArray) (a1 : Int) (a2 : ByteArray) (a3 : Int) (a4 : Int) (a5 : List (List Cell)) (a6 : Int) : [(.str a0 : Cell), (.int .i64 a1 : Cell), (.str a2 : Cell), (.int .i64 a3 : Cell), (.int .u64 a4 : Cell), (.list a5 : Cell), (.int .i64 a6 : Cell)] = Rul.row ⟨a0, ⟨a1, a2, a3, a4, a5⟩, a6⟩ := rfl
theorem Chg.row_mk (a0 : Int) (a1 : Int) (a2 : Int) (a3 : Int) (a4 : Int) (a5 : Int) : [(.int .i64 a0 : Cell), (.int .i64 a1 : Cell), (.int .i64 a2 : Cell), (.int .i64 a3 : Cell), (.int .i64 a4 : Cell), (.int .i64 a5 : Cell)] = Chg.row ⟨a0, a1, a2, a3, a4, a5⟩ := rfl
theorem Chg.v_mk (a0 : Int) (a1 : Int) (a2 : Int) (a3 : Int) (a4 : Int) (a5 : Int) : Chg.v ⟨a0, a1, a2, a3, a4, a5⟩ = .agg [.d (.int .i64 a0), .d (.int .i64 a1), .d (.int .i64 a2), .d (.int .i64 a3), .d (.int .i64 a4), .d (.int .i64 a5)] := rfl
theorem Chg.ar {a0 : Int} {a1 : Int} {a2 : Int} {a3 : Int} {a4 : Int} {a5 : Int} {xs : List Chg} {cs : List CV} (h : CvD cs (xs.flatMap Chg.row)) : CvD (.d (.int .i64 a0) :: .d (.int .i64 a1) :: .d (.int .i64 a2) :: .d (.int .i64 a3) :: .d (.int .i64 a4) :: .d (.int .i64 a5) :: cs) ((⟨a0, a1, a2, a3, a4, a5⟩ :: xs).flatMap Chg.row) := by rw [List.flatMap_cons]; exact (.d (.d (.d (.d (.d (.d h))))))
theorem Chg_eqT : eqT Try.prog 45 = some [.i, .i, .i, .i, .i, .i] := by decide +kernel
theorem Chg_cells (a0 : Int) (a1 : Int) (a2 : Int) (a3 : Int) (a4 : Int) (a5 : Int) (b0 : Int) (b1 : Int) (b2 : Int) (b3 : Int) (b4 : Int) (b5 : Int) : cellsEq [.i, .i, .i, .i, .i, .i] [.d (.int .i64 a0), .d (.int .i64 a1), .d (.int .i64 a2), .d (.int .i64 a3), .d (.int .i64 a4), .d (.int .i64 a5)] [.d (.int .i64 b0), .d (.int .i64 b1), .d (.int .i64 b2), .d (.int .i64 b3), .d (.int .i64 b4), .d (.int .i64 b5)] = some (decide ((⟨a0, a1, a2, a3, a4, a5⟩ : Chg) = ⟨b0, b1, b2, b3, b4, b5⟩)) := by
  simp [cellsEq, cellEq, Bool.decide_and, Bool.beq_eq_decide_eq]
inductive Tre where
  | mk (op : Int) (tx : ByteArray) (nu pr : Int) (ks : List Tre)
mutual
def Tre.toT : Tre → Trm
  | .mk op tx nu pr ks => ⟨op, tx, nu, pr, Tre.toL ks⟩
def Tre.toL : List Tre → List (List Cell)
  | [] => []
  | k :: ks => k.toT.row :: Tre.toL ks
end
theorem Tre.toL_eq (ks : List Tre) : Tre.toL ks = (ks.map Tre.toT).map Trm.row := by
  induction ks with
  | nil => rw [Tre.toL]; rfl
  | cons k ks ih => rw [Tre.toL, ih]; rfl
theorem Tre.toT_mk (op : Int) (tx : ByteArray) (nu pr : Int) (ks : List Tre) : (Tre.mk op tx nu pr ks).toT = ⟨op, tx, nu, pr, (ks.map Tre.toT).map Trm.row⟩ := by rw [Tre.toT, Tre.toL_eq]
theorem Tre.ind {p : Tre → Prop} (h : ∀ op tx nu pr ks, (∀ k ∈ ks, p k) → p (.mk op tx nu pr ks)) : ∀ e, p e := fun e => by
  refine Tre.rec (motive_1 := p) (motive_2 := fun ks => ∀ k ∈ ks, p k) (fun op tx nu pr ks ih => h op tx nu pr ks ih) (fun k hk => by cases hk) (fun k ks h1 h2 x hx => ?_) e
  rcases List.mem_cons.1 hx with rfl | hx
  · exact h1
  · exact h2 x hx
theorem Trm.row_inj {a b : Trm} (h : a.row = b.row) : a = b := by
  obtain ⟨a1, a2, a3, a4, a5⟩ := a
  obtain ⟨b1, b2, b3, b4, b5⟩ := b
  simp only [Trm.row, List.cons.injEq, Cell.int.injEq, Cell.str.injEq, Cell.list.injEq] at h
  obtain ⟨⟨_, rfl⟩, rfl, ⟨_, rfl⟩, ⟨_, rfl⟩, rfl, _⟩ := h
  rfl
theorem Tre.toT_inj : ∀ a b : Tre, a.toT = b.toT → a = b := by
  refine Tre.ind fun op tx nu pr ks ih b h => ?_
  obtain ⟨op', tx', nu', pr', ks'⟩ := b
  rw [Tre.toT_mk, Tre.toT_mk] at h
  injection h with h1 h2 h3 h4 h5
  subst h1 h2 h3 h4
  have h6 : ks = ks' := by
    clear op tx nu pr
    induction ks generalizing ks' with
    | nil => cases ks' with
      | nil => rfl
      | cons => cases h5
    | cons k ks ihk => cases ks' with
      | nil => cases h5
      | cons k' ks' =>
        simp only [List.map_cons, List.cons.injEq] at h5
        rw [ih k (List.mem_cons_self ..) k' (Trm.row_inj h5.1), ihk (fun x hx => ih x (List.mem_cons_of_mem _ hx)) ks' h5.2]
  rw [h6]
instance : Inhabited Tre := ⟨.mk 0 ByteArray.empty 0 0 []⟩
open Classical in
noncomputable def Trm.tre (c : Trm) : Tre := if h : ∃ e : Tre, e.toT = c then h.choose else default
theorem Tre.tre (e : Tre) : e.toT.tre = e := by
  have h : ∃ e' : Tre, e'.toT = e.toT := ⟨e, rfl⟩
  unfold Trm.tre
  rw [dif_pos h]
  exact Tre.toT_inj _ _ h.choose_spec
end Go.Proofs.Ytcbppkfnfbdkhaa
