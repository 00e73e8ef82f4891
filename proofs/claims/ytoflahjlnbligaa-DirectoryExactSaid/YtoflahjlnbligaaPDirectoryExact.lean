/-
  The law DirectoryExact holds for every input: it returns true, and leaves its arguments as they were.
-/
import Derived.Test.YtoflahjlnbligaaExExact
import Derived.Test.YtoflahjlnbligaaRows
import Derived.WalkKit
import Derived.ProofKit
import Derived.OpenShut
import Derived.ShutString
import Derived.ChangeOld
import Derived.Below
namespace Go.Proofs.Ytoflahjlnbligaa.lawDirectoryExact
open Go.ChangeShapes Go.WideShapes Go.ChangeAt Go.RowKit
open Go.ChangeMaps (open_string shut_string)
set_option linter.all false

theorem sl22_ty {c : Cell} (h : HasTy tab 22 [c]) : ∃ l : List Int, c = .list (l.map irow) := by
  obtain ⟨l, e⟩ := h.map_ (f := irow) rfl (fun row hr => by obtain ⟨n, rfl⟩ := hr.int_ rfl; exact ⟨n, rfl⟩)
  injection e with e
  exact ⟨l, e⟩
theorem Mb_ty {cs : List Cell} (h : HasTy tab 61 cs) : ∃ x : Mb, cs = x.row := by
  obtain ⟨hl, hf⟩ := h.st_ rfl
  match cs, hl with
  | [c0, c1, c2, c3], _ =>
    obtain ⟨x0, e0⟩ := (show HasTy tab 3 [c0] from hf 0 _ rfl).int_ rfl
    injection e0 with e0
    subst e0
    obtain ⟨x1, e1⟩ := (show HasTy tab 3 [c1] from hf 1 _ rfl).int_ rfl
    injection e1 with e1
    subst e1
    obtain ⟨x2, e2⟩ := (show HasTy tab 3 [c2] from hf 2 _ rfl).int_ rfl
    injection e2 with e2
    subst e2
    obtain ⟨x3, e3⟩ := (show HasTy tab 3 [c3] from hf 3 _ rfl).int_ rfl
    injection e3 with e3
    subst e3
    exact ⟨⟨x0, x1, x2, x3⟩, rfl⟩
theorem sl31_ty {c : Cell} (h : HasTy tab 31 [c]) : ∃ l : List Mb, c = .list (l.map Mb.row) := by
  obtain ⟨l, e⟩ := h.map_ (f := Mb.row) rfl (fun row hr => by exact Mb_ty hr)
  injection e with e
  exact ⟨l, e⟩
theorem Dir_ty {cs : List Cell} (h : HasTy tab 33 cs) : ∃ x : Dir, cs = x.row := by
  obtain ⟨hl, hf⟩ := h.st_ rfl
  match cs, hl with
  | [c0, c1], _ =>
    obtain ⟨x0, e0⟩ := (show HasTy tab 22 [c0] from hf 0 _ rfl).map_ (f := irow) rfl (fun row hr => by obtain ⟨n, rfl⟩ := hr.int_ rfl; exact ⟨n, rfl⟩)
    injection e0 with e0
    subst e0
    obtain ⟨x1, e1⟩ := (show HasTy tab 31 [c1] from hf 1 _ rfl).map_ (f := Mb.row) rfl (fun row hr => by exact Mb_ty hr)
    injection e1 with e1
    subst e1
    exact ⟨⟨x0, x1⟩, rfl⟩
theorem own : ownKnob Try.prog.godebug = none := by kernel_rfl
theorem laidOut : laidOutB Try.prog = true := by kernel_rfl
theorem closed : closedB Try.prog tab [22, 3, 33, 31, 61] = true := by decide +kernel

set_option maxRecDepth 100000 in
theorem lifted (os : Os) (started : os.Started) (H : Type) (enc : TypeId × Value → H) :
    ReturnsInHanded {} Try.checked os 14 .any (Rows.directoryExactSpec.pre6 enc Try.prog Try.f14 Rows.directoryExactRow.domain false) (Rows.directoryExactSpec.post enc Try.prog Try.f14 false true false false) := by
  refine returnsInHanded_of_change (C := Try.checked) own started (by kernel_rfl) Try.func14
    (ChangeSpec.witness6 (enc := enc) (C := Try.checked) false ⟨#[], #[.slice none 0 0, .agg #[.slice none 0 0, .slice none 0 0], .int .i64 0, .int .i64 0, .int .i64 0, .slice none 0 0], []⟩ 8 (by kernel_rfl) (by kernel_rfl) (by kernel_rfl) (by kernel_rfl)) ?_
  intro W base args ds gs before hval0 hW hcnd _
  have hval : ∀ (j : Nat) t v, Try.f14.params[j]? = some t → args[j]? = some v → Value.okWide Try.prog W .any base t v := hval0
  have hW' := hW
  obtain ⟨p, q, hA0, hV, rfl, hfz, hnd⟩ := hW
  have hA : DataW.TrodAll enc Try.prog W 0 (fun _ => true) true Try.f14.params.toList args.toList ds p := hA0
  rw [Try.params14] at hA hval
  obtain ⟨v0, vs0, d0, ds0, p0, q0, hargs, rfl, rfl, h0, r0⟩ := trodAll_cons hA
  obtain ⟨v1, vs1, d1, ds1, p1, q1, rfl, rfl, rfl, h1, r1⟩ := trodAll_cons r0
  obtain ⟨v2, vs2, d2, ds2, p2, q2, rfl, rfl, rfl, h2, r2⟩ := trodAll_cons r1
  obtain ⟨v3, vs3, d3, ds3, p3, q3, rfl, rfl, rfl, h3, r3⟩ := trodAll_cons r2
  obtain ⟨v4, vs4, d4, ds4, p4, q4, rfl, rfl, rfl, h4, r4⟩ := trodAll_cons r3
  obtain ⟨v5, vs5, d5, ds5, p5, q5, rfl, rfl, rfl, h5, r5⟩ := trodAll_cons r4
  obtain ⟨rfl, rfl, rfl⟩ := trodAll_nil r5
  obtain rfl : args = #[v0, v1, v2, v3, v4, v5] := by cases args; simp_all
  obtain ⟨rfl, rfl⟩ := trodVars_none hV
  have k0 := h0
  have lt0 : ∀ x ∈ p0, x.block < W.heap.size := by obtain ⟨m, hm⟩ := k0; exact DataW.trod_lt m _ _ _ hm
  obtain ⟨c0, t0, s0⟩ := open_one closed (t := 22) rfl rfl tab_ok (hval 0 22 v0 rfl rfl) h0
  obtain ⟨a0, rfl⟩ := sl22_ty t0
  have k1 := h1
  have lt1 : ∀ x ∈ p1, x.block < W.heap.size := by obtain ⟨m, hm⟩ := k1; exact DataW.trod_lt m _ _ _ hm
  obtain ⟨c1, t1, s1⟩ := open_agg closed (t := 33) rfl rfl (hval 1 33 v1 rfl rfl) h1
  obtain ⟨a1, rfl⟩ := Dir_ty t1
  have k2 := h2
  have lt2 : ∀ x ∈ p2, x.block < W.heap.size := by obtain ⟨m, hm⟩ := k2; exact DataW.trod_lt m _ _ _ hm
  obtain ⟨c2, t2, s2⟩ := open_one closed (t := 3) rfl rfl tab_ok (hval 2 3 v2 rfl rfl) h2
  obtain ⟨a2, rfl⟩ := int_ty t2
  have k3 := h3
  have lt3 : ∀ x ∈ p3, x.block < W.heap.size := by obtain ⟨m, hm⟩ := k3; exact DataW.trod_lt m _ _ _ hm
  obtain ⟨c3, t3, s3⟩ := open_one closed (t := 3) rfl rfl tab_ok (hval 3 3 v3 rfl rfl) h3
  obtain ⟨a3, rfl⟩ := int_ty t3
  have k4 := h4
  have lt4 : ∀ x ∈ p4, x.block < W.heap.size := by obtain ⟨m, hm⟩ := k4; exact DataW.trod_lt m _ _ _ hm
  obtain ⟨c4, t4, s4⟩ := open_one closed (t := 3) rfl rfl tab_ok (hval 4 3 v4 rfl rfl) h4
  obtain ⟨a4, rfl⟩ := int_ty t4
  have k5 := h5
  have lt5 : ∀ x ∈ p5, x.block < W.heap.size := by obtain ⟨m, hm⟩ := k5; exact DataW.trod_lt m _ _ _ hm
  obtain ⟨c5, t5, s5⟩ := open_one closed (t := 22) rfl rfl tab_ok (hval 5 22 v5 rfl rfl) h5
  obtain ⟨a5, rfl⟩ := sl22_ty t5
  clear hA0
  refine (law_calls (dexact_il a0 a1 a2 a3 a4 a5) rfl (reps_of (.cons s0 (.cons s1 (.cons s2 (.cons s3 (.cons s4 (.cons s5 .nil)))))))).mono fun e W' ⟨he, bel⟩ => ?_
  subst he
  exact ⟨_, rfl, _, _, _, [], _, [], hW', trodAll_mk1 (shut_bool Try.underlying4 _), (trodAll_cons_mk (Below.trod laidOut (by kernel_rfl) (of_decide_eq_true (by kernel_rfl)) k0 bel lt0) (trodAll_cons_mk (Below.trod laidOut (by kernel_rfl) (of_decide_eq_true (by kernel_rfl)) k1 bel lt1) (trodAll_cons_mk (Below.trod laidOut (by kernel_rfl) (of_decide_eq_true (by kernel_rfl)) k2 bel lt2) (trodAll_cons_mk (Below.trod laidOut (by kernel_rfl) (of_decide_eq_true (by kernel_rfl)) k3 bel lt3) (trodAll_cons_mk (Below.trod laidOut (by kernel_rfl) (of_decide_eq_true (by kernel_rfl)) k4 bel lt4) (trodAll_cons_mk (Below.trod laidOut (by kernel_rfl) (of_decide_eq_true (by kernel_rfl)) k5 bel lt5) trodAll_mk0)))))), rfl, bel.frame _, fun h => by cases h⟩

theorem over : Rows.directoryExactRow.holds Try.pinned (OpenSpec.ofChange Rows.directoryExactSpec) :=
  OpenClaim.holds_of_wide 14 Try.f14 rfl rfl rfl rfl rfl rfl rfl ⟨rfl, rfl, rfl, rfl, rfl⟩ rfl rfl rfl rfl rfl (by kernel_rfl) Try.func14 (by kernel_rfl)
    (of_decide_eq_true (by kernel_rfl)) (by unfold Func.isWrapper; first | (rw [if_pos (by decide +kernel)]; kernel_rfl) | (rw [if_neg (by decide +kernel)]; exact ⟨rfl, rfl⟩))
    (fun os started H enc _ => lifted os started H enc)

theorem proved : Rows.DirectoryExactSaid := over
#print axioms proved
end Go.Proofs.Ytoflahjlnbligaa.lawDirectoryExact
