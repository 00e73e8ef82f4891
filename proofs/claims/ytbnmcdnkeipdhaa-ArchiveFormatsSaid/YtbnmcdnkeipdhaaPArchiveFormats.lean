/-
  The law ArchiveFormats holds for every input: it returns true, and leaves its arguments as they were.
-/
import Derived.Test.YtbnmcdnkeipdhaaFxFormats
import Derived.Test.YtbnmcdnkeipdhaaRows
import Derived.WalkKit
import Derived.ProofKit
import Derived.OpenShut
import Derived.ShutString
import Derived.ChangeOld
import Derived.Below
namespace Go.Proofs.Ytbnmcdnkeipdhaa.lawArchiveFormats
open Go.ChangeShapes Go.WideShapes Go.ChangeAt Go.RowKit
open Go.ChangeMaps (open_string shut_string)
set_option linter.all false

theorem sl22_ty {c : Cell} (h : HasTy tab 22 [c]) : ∃ l : List Int, c = .list (l.map irow) := by
  obtain ⟨l, e⟩ := h.map_ (f := irow) rfl (fun row hr => by obtain ⟨n, rfl⟩ := hr.int_ rfl; exact ⟨n, rfl⟩)
  injection e with e
  exact ⟨l, e⟩
theorem sl23_ty {c : Cell} (h : HasTy tab 23 [c]) : ∃ l : List Int, c = .list (l.map irow_u8) := by
  obtain ⟨l, e⟩ := h.map_ (f := irow_u8) rfl (fun row hr => by obtain ⟨n, rfl⟩ := hr.int_ rfl; exact ⟨n, rfl⟩)
  injection e with e
  exact ⟨l, e⟩
theorem Ent_ty {cs : List Cell} (h : HasTy tab 63 cs) : ∃ x : Ent, cs = x.row := by
  obtain ⟨hl, hf⟩ := h.st_ rfl
  match cs, hl with
  | [c0, c1], _ =>
    obtain ⟨x0, e0⟩ := (show HasTy tab 9 [c0] from hf 0 _ rfl).str_ rfl
    injection e0 with e0
    subst e0
    obtain ⟨x1, e1⟩ := (show HasTy tab 23 [c1] from hf 1 _ rfl).map_ (f := irow_u8) rfl (fun row hr => by obtain ⟨n, rfl⟩ := hr.int_ rfl; exact ⟨n, rfl⟩)
    injection e1 with e1
    subst e1
    exact ⟨⟨x0, x1⟩, rfl⟩
theorem sl52_ty {c : Cell} (h : HasTy tab 52 [c]) : ∃ l : List Ent, c = .list (l.map Ent.row) := by
  obtain ⟨l, e⟩ := h.map_ (f := Ent.row) rfl (fun row hr => by exact Ent_ty hr)
  injection e with e
  exact ⟨l, e⟩
theorem own : ownKnob Try.prog.godebug = none := by kernel_rfl
theorem laidOut : laidOutB Try.prog = true := by kernel_rfl
theorem bytes : byteszB Try.prog tab [22, 3, 52, 63, 9, 23, 5] = true := by decide +kernel
theorem closed : closedB Try.prog tab [22, 3, 52, 63, 9, 23, 5] = true := by decide +kernel

set_option maxRecDepth 100000 in
theorem lifted (os : Os) (started : os.Started) (H : Type) (enc : TypeId × Value → H) :
    ReturnsInHanded {} Try.checked os 8 .any (Rows.archiveFormatsSpec.pre6 enc Try.prog Try.f8 Rows.archiveFormatsRow.domain false) (Rows.archiveFormatsSpec.post enc Try.prog Try.f8 false true false false) := by
  refine returnsInHanded_of_change_sized (C := Try.checked) own started (by kernel_rfl) Try.func8
    (ChangeSpec.witness6 (enc := enc) (C := Try.checked) false ⟨#[], #[.slice none 0 0, .slice none 0 0], []⟩ 8 (by kernel_rfl) (by kernel_rfl) (by kernel_rfl) (by kernel_rfl)) ?_
  intro W base args ds gs before hval0 hW hcnd hsz _
  have hval : ∀ (j : Nat) t v, Try.f8.params[j]? = some t → args[j]? = some v → Value.okWide Try.prog W .any base t v := hval0
  have hW' := hW
  obtain ⟨p, q, hA0, hV, rfl, hfz, hnd⟩ := hW
  have hA : DataW.TrodAll enc Try.prog W 0 (fun _ => true) true Try.f8.params.toList args.toList ds p := hA0
  rw [Try.params8] at hA hval
  obtain ⟨v0, vs0, d0, ds0, p0, q0, hargs, rfl, rfl, h0, r0⟩ := trodAll_cons hA
  obtain ⟨v1, vs1, d1, ds1, p1, q1, rfl, rfl, rfl, h1, r1⟩ := trodAll_cons r0
  obtain ⟨rfl, rfl, rfl⟩ := trodAll_nil r1
  obtain rfl : args = #[v0, v1] := by cases args; simp_all
  obtain ⟨rfl, rfl⟩ := trodVars_none hV
  have k0 := h0
  have lt0 : ∀ x ∈ p0, x.block < W.heap.size := by obtain ⟨m, hm⟩ := k0; exact DataW.trod_lt m _ _ _ hm
  obtain ⟨c0, t0, s0⟩ := open_one closed (t := 22) rfl rfl tab_ok (hval 0 22 v0 rfl rfl) h0
  obtain ⟨a0, rfl⟩ := sl22_ty t0
  have k1 := h1
  have lt1 : ∀ x ∈ p1, x.block < W.heap.size := by obtain ⟨m, hm⟩ := k1; exact DataW.trod_lt m _ _ _ hm
  obtain ⟨c1, t1, s1, z1⟩ := open_oneS closed bytes (t := 52) rfl rfl tab_ok (hval 1 52 v1 rfl rfl) h1 (weights_of hsz (j := 1) (t := 52) rfl rfl)
  obtain ⟨a1, rfl⟩ := sl52_ty t1
  clear hA0
  refine (law_calls (formats_ils a0 a1 z1) rfl (reps_of (.cons s0 (.cons s1 .nil)))).mono fun e W' ⟨he, bel⟩ => ?_
  subst he
  exact ⟨_, rfl, _, _, _, [], _, [], hW', trodAll_mk1 (shut_bool Try.underlying4 _), (trodAll_cons_mk (Below.trod laidOut (by kernel_rfl) (of_decide_eq_true (by kernel_rfl)) k0 bel lt0) (trodAll_cons_mk (Below.trod laidOut (by kernel_rfl) (of_decide_eq_true (by kernel_rfl)) k1 bel lt1) trodAll_mk0)), rfl, bel.frame _, fun h => by cases h⟩

theorem over : Rows.archiveFormatsRow.holds Try.pinned (OpenSpec.ofChange Rows.archiveFormatsSpec) :=
  OpenClaim.holds_of_wide 8 Try.f8 rfl rfl rfl rfl rfl rfl rfl ⟨rfl, rfl, rfl, rfl, rfl⟩ rfl rfl rfl rfl rfl (by kernel_rfl) Try.func8 (by kernel_rfl)
    (of_decide_eq_true (by kernel_rfl)) (by unfold Func.isWrapper; first | (rw [if_pos (by decide +kernel)]; kernel_rfl) | (rw [if_neg (by decide +kernel)]; exact ⟨rfl, rfl⟩))
    (fun os started H enc _ => lifted os started H enc)

theorem proved : Rows.ArchiveFormatsSaid := over
#print axioms proved
end Go.Proofs.Ytbnmcdnkeipdhaa.lawArchiveFormats
