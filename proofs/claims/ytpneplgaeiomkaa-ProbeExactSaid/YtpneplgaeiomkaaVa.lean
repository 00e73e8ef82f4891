/- Contracts of the tape and the makers, as one of many. -/
import Derived.Test.YtpneplgaeiomkaaWu
import Derived.Test.YtpneplgaeiomkaaIvw
set_option linter.all false
set_option maxRecDepth 20000
set_option maxHeartbeats 2000000
namespace Go.Proofs.Ytpneplgaeiomkaa
open Go.RowKit Go.Shelf
instance : Inhabited RepR := ⟨⟨0, false⟩⟩
instance : Inhabited XvR := ⟨⟨0, 0, 0, 0⟩⟩
instance : Inhabited EvR := ⟨⟨0, 0, false⟩⟩
instance : Inhabited Cl := ⟨⟨false, [], [], []⟩⟩
deriving instance DecidableEq for XvR
deriving instance DecidableEq for RepR
theorem RepR.row_mk (a0 : Int) (a1 : Bool) : [(.int .i64 a0 : Cell), (.bool a1 : Cell)] = RepR.row ⟨a0, a1⟩ := rfl
theorem RepR.ar {a0 : Int} {a1 : Bool} {xs : List RepR} {cs : List CV} (h : CvD cs (xs.flatMap RepR.row)) : CvD (.d (.int .i64 a0) :: .d (.bool a1) :: cs) ((⟨a0, a1⟩ :: xs).flatMap RepR.row) := by rw [List.flatMap_cons]; exact (.d (.d h))
theorem RepR_eqT : eqT Try.prog 59 = some [.i, .b] := by decide +kernel
theorem RepR_cells (a0 : Int) (a1 : Bool) (b0 : Int) (b1 : Bool) : cellsEq [.i, .b] [.d (.int .i64 a0), .d (.bool a1)] [.d (.int .i64 b0), .d (.bool b1)] = some (decide ((⟨a0, a1⟩ : RepR) = ⟨b0, b1⟩)) := by
  simp [cellsEq, cellEq, Bool.decide_and, Bool.beq_eq_decide_eq]
theorem XvR.row_mk (a0 : Int) (a1 : Int) (a2 : Int) (a3 : Int) : [(.int .i64 a0 : Cell), (.int .i64 a1 : Cell), (.int .i64 a2 : Cell), (.int .i64 a3 : Cell)] = XvR.row ⟨a0, a1, a2, a3⟩ := rfl
theorem XvR.ar {a0 : Int} {a1 : Int} {a2 : Int} {a3 : Int} {xs : List XvR} {cs : List CV} (h : CvD cs (xs.flatMap XvR.row)) : CvD (.d (.int .i64 a0) :: .d (.int .i64 a1) :: .d (.int .i64 a2) :: .d (.int .i64 a3) :: cs) ((⟨a0, a1, a2, a3⟩ :: xs).flatMap XvR.row) := by rw [List.flatMap_cons]; exact (.d (.d (.d (.d h))))
theorem XvR_eqT : eqT Try.prog 57 = some [.i, .i, .i, .i] := by decide +kernel
theorem XvR_cells (a0 : Int) (a1 : Int) (a2 : Int) (a3 : Int) (b0 : Int) (b1 : Int) (b2 : Int) (b3 : Int) : cellsEq [.i, .i, .i, .i] [.d (.int .i64 a0), .d (.int .i64 a1), .d (.int .i64 a2), .d (.int .i64 a3)] [.d (.int .i64 b0), .d (.int .i64 b1), .d (.int .i64 b2), .d (.int .i64 b3)] = some (decide ((⟨a0, a1, a2, a3⟩ : XvR) = ⟨b0, b1, b2, b3⟩)) := by
  simp [cellsEq, cellEq, Bool.decide_and, Bool.beq_eq_decide_eq]
theorem Cl.row_mk (a0 : Bool) (a1 : List Int) (a2 : List RepR) (a3 : List Int) : [(.bool a0 : Cell), (.list (List.map irow a1) : Cell), (.list (List.map RepR.row a2) : Cell), (.list (List.map irow a3) : Cell)] = Cl.row ⟨a0, a1, a2, a3⟩ := rfl
theorem Cl.ar {a0 : Bool} {a1 : List Int} {a2 : List RepR} {a3 : List Int} {xs : List Cl} {cs : List CV} (h : CvD cs (xs.flatMap Cl.row)) : CvD (.d (.bool a0) :: .d (.list (List.map irow a1)) :: .d (.list (List.map RepR.row a2)) :: .d (.list (List.map irow a3)) :: cs) ((⟨a0, a1, a2, a3⟩ :: xs).flatMap Cl.row) := by rw [List.flatMap_cons]; exact (.d (.d (.d (.d h))))
theorem EvR.row_mk (a0 : Int) (a1 : Int) (a2 : Bool) : [(.int .i64 a0 : Cell), (.int .i64 a1 : Cell), (.bool a2 : Cell)] = EvR.row ⟨a0, a1, a2⟩ := rfl
theorem EvR.ar {a0 : Int} {a1 : Int} {a2 : Bool} {xs : List EvR} {cs : List CV} (h : CvD cs (xs.flatMap EvR.row)) : CvD (.d (.int .i64 a0) :: .d (.int .i64 a1) :: .d (.bool a2) :: cs) ((⟨a0, a1, a2⟩ :: xs).flatMap EvR.row) := by rw [List.flatMap_cons]; exact (.d (.d (.d h)))
theorem EvR_eqT : eqT Try.prog 41 = some [.i, .i, .b] := by decide +kernel
theorem EvR_cells (a0 : Int) (a1 : Int) (a2 : Bool) (b0 : Int) (b1 : Int) (b2 : Bool) : cellsEq [.i, .i, .b] [.d (.int .i64 a0), .d (.int .i64 a1), .d (.bool a2)] [.d (.int .i64 b0), .d (.int .i64 b1), .d (.bool b2)] = some (decide ((⟨a0, a1, a2⟩ : EvR) = ⟨b0, b1, b2⟩)) := by
  simp [cellsEq, cellEq, Bool.decide_and, Bool.beq_eq_decide_eq]
theorem next_nd (m : Int) : ICp (1 ≤ m ∧ m ≤ 65536) 20 [.one .tape, iv m] (ND (fun x : Int => 0 ≤ x ∧ x < m) iv) :=
  fun h => (next_ic m h.1 h.2).mono fun v ⟨x, h1, h2, e⟩ => ⟨x, ⟨h1, h2⟩, e⟩
theorem between_nd (a b : Int) : ICp (a ≤ b ∧ b - a < 65536 ∧ -65536 ≤ a ∧ b ≤ 65536) 15 [.one .tape, iv a, iv b] (ND (fun x : Int => a ≤ x ∧ x ≤ b) iv) :=
  fun h => (between_ic a b h.1 h.2.1 h.2.2.1 h.2.2.2).mono fun v ⟨x, h1, h2, e⟩ => ⟨x, ⟨h1, h2⟩, e⟩
theorem pick_nd (l : List Int) : ICp (1 ≤ l.length ∧ l.length ≤ 65536) 48 [.one .tape, lv l] (ND (fun x : Int => x ∈ l) iv) :=
  fun h => (pick_ic l h.1 h.2).mono fun v ⟨x, h1, e⟩ => ⟨x, h1, e⟩
theorem Cluster_nd : ICt 10 [.one .tape] (ND (fun c : Cl => MadeC c 0) Cl.v) := Cluster_ic
theorem Event_nd (c : Cl) : ICp (validB c = true) 39 [.one .tape, c.v] (ND (fun x : XvR => EvOk c x) XvR.v) := fun h => Event_ic c h
theorem Bent_nd (c : Cl) : ICp (validB c = true) 11 [.one .tape, c.v] (ND (fun x : Cl => True) Cl.v) := fun h => (Bent_ic c h).mono fun v ⟨x, e⟩ => ⟨x, trivial, e⟩
end Go.Proofs.Ytpneplgaeiomkaa
