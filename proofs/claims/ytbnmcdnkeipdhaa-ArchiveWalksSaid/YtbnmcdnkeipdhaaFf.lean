/- Functions of bytes, from the machine's side. -/
import Derived.Test.YtbnmcdnkeipdhaaFa
set_option linter.all false
set_option maxRecDepth 20000
set_option maxHeartbeats 4000000
namespace Go.Proofs.Ytbnmcdnkeipdhaa
open Go.RowKit Go.Shelf
structure BtsA (Rd : Nat → Nat → Prop) (w : World) (A : Option Addr) (c : Nat) (l : List Int) : Prop where
  n : l.length ≤ c
  m : c ≤ maxLen
  i : InB l
  z : A = none → l = []
  c : ∀ (i : Nat) (hi : i < l.length), ∃ b o, A = some ⟨b, o, none⟩ ∧ Rd b (o + i) ∧ w.cell? ⟨b, o + i, none⟩ = some (.int .u8 l[i])
theorem bts2 {Rd : Nat → Nat → Prop} {w : World} {v : Value} {l : List Int} (h : RepCell Rd w v (.list (l.map irow_u8))) : ∃ A c, v = .slice A l.length c ∧ BtsA Rd w A c l := by
  obtain ⟨A, cap, sz, vals, e, q0, q1, q2, q3, q4, q5⟩ := h.list_inv
  have hlen : (l.map irow_u8).length = l.length := by simp
  rw [hlen] at e q1 q4
  have key : ∀ (i : Nat) (z : Int), l[i]? = some z → vals i 0 = .int .u8 z ∧ 0 ≤ z ∧ z ≤ 255 := fun i z hz => by
    have hrep := q5 i 0 (irow_u8 z) (.int .u8 z) (by rw [List.getElem?_map, hz]; rfl) rfl
    cases hv : vals i 0 <;> rw [hv] at hrep <;> cases hrep
    rename_i hw
    refine ⟨rfl, ?_⟩
    simp [Lit.wf, IntKind.min, IntKind.max, IntKind.bits, IntKind.signed] at hw
    omega
  refine ⟨A, cap, e, q1, q2, fun z hz => ?_, fun hA => by simpa using q0 hA, fun i hi => ?_⟩
  · obtain ⟨i, hi, rfl⟩ := List.getElem_of_mem hz
    exact (key i _ (List.getElem?_eq_getElem hi)).2
  · have hs1 : sz = 1 := (q3 (irow_u8 l[0]) (by simp; exact ⟨_, List.getElem_mem (by omega), rfl⟩)).symm
    subst hs1
    obtain ⟨b, o, e1, e2, e3⟩ := q4 i 0 hi (by omega)
    simp only [Nat.mul_one, Nat.add_zero] at e2 e3
    exact ⟨b, o, e1, e2, by rw [e3, (key i _ (List.getElem?_eq_getElem hi)).1]⟩
theorem ict_by {f : Nat} {b out : List Int} (he : Enters Try.prog f) (hout : InB out) (h : ∀ (w : World) (Rd : Nat → Nat → Prop) (A : Option Addr) (c : Nat), (∀ b o, Rd b o → b < w.heap.size) → BtsA Rd w A c b → Calls Try.prog f #[.slice A b.length c] w fun e w' => ∃ v, e = .returned v ∧ w'.ownsRow w.heap.size 5 1 v out.length (out.map (Value.int .u8)) ∧ Below w.heap.size w w') : ICt f [by_ b] (fun v => v = by_ out) := by
  refine ⟨he, fun g w vals hβ hgi hsz hrep => ?_⟩
  obtain ⟨l⟩ := vals
  match l, hsz with
  | [a], _ =>
    obtain ⟨A, c, rfl, hb⟩ := bts2 (hrep 0 a _ rfl rfl).list_inv
    refine (h w g.Rd A c (fun b o hr => (hgi.rd b o hr).1) hb).mono ?_
    rintro e w' ⟨v, rfl, hrow, hB⟩
    have hcell : ∀ b o, g.Rd b o → w'.cell? ⟨b, o, none⟩ = w.cell? ⟨b, o, none⟩ := fun b o hr => by
      obtain ⟨h1, _⟩ := hgi.rd b o hr
      exact hB.cell (p := ⟨b, o, none⟩) (by simpa using h1)
    have hrowlen : ∀ row ∈ out.map irow_u8, row.length = 1 := fun row hr => by
      obtain ⟨z, _, rfl⟩ := List.mem_map.1 hr; rfl
    have hval : ∀ (i j : Nat) (row : List Cell) (x : Cell), (out.map irow_u8)[i]? = some row → row[j]? = some x → ∀ Rd, RepCell Rd w' (.int .u8 (out.getD i 0)) x := fun i j row x hi hj Rd => by
      rw [List.getElem?_map] at hi
      cases hz : out[i]? with
      | none => rw [hz] at hi; cases hi
      | some z =>
        rw [hz] at hi
        simp at hi
        subst hi
        have hj0 : j = 0 := by have := (List.getElem?_eq_some_iff.1 hj).1; simp [irow_u8] at this; omega
        subst hj0
        simp [irow_u8] at hj
        subst hj
        have := hout z (List.mem_of_getElem? hz)
        rw [List.getD_eq_getElem?_getD, hz]
        exact .int .u8 z (by simp [Lit.wf, IntKind.min, IntKind.max, IntKind.bits, IntKind.signed]; omega)
    let Rd' : Nat → Nat → Prop := fun b o => g.Rd b o ∨ (w.heap.size ≤ b ∧ b < w'.heap.size)
    have hfut : Fut g.Rd Rd' w w' := ⟨fun _ _ h => .inl h, hcell⟩
    refine ⟨_, by_ out, ⟨g.β, g.κ, Rd', g.tp, g.tl, fun _ => none⟩, rfl, rfl, rfl, ?_, ⟨fun _ _ h => .inl h, fun _ _ h => h, Keep.below hB fun k hk => .inr hk, fun tb htb => ?_⟩⟩
    · refine .one (.d ?_)
      obtain ⟨r1, ⟨rfl, r2⟩ | ⟨G, cap, cur, rfl, r3, r4, r5, r6, r7, r8⟩⟩ := hrow
      · have : out = [] := List.eq_nil_of_length_eq_zero r2
        subst this
        exact .list none 0 [] 1 (fun _ _ => .bool false) (fun _ => rfl) (Nat.le_refl _) (Nat.zero_le _) (fun _ h => (by cases h)) (fun i j hi => (by simp at hi)) (fun i j row x hi => (by simp at hi))
      · have hl : out.length = (out.map irow_u8).length := by simp
        rw [hl] at r5 ⊢
        refine .list _ cap _ 1 (fun i _ => .int .u8 (out.getD i 0)) (fun h => (by cases h)) r5 r6 hrowlen (fun i j hi hj => ?_) (fun i j row x hi hj => hval i j row x hi hj _)
        have hi2 : i < out.length := by simpa using hi
        have hj0 : j = 0 := by omega
        subst hj0
        refine ⟨G, 0, rfl, .inr ⟨r3, (Array.getElem?_eq_some_iff.1 r4).1⟩, ?_⟩
        have hcur : cur[i]? = some (.int .u8 (out.getD i 0)) := by
          have h1 : (cur.toList.take (out.length * 1))[i]? = some (.int .u8 (out.getD i 0)) := by
            rw [r8, List.getElem?_map, List.getD_eq_getElem?_getD, List.getElem?_eq_getElem hi2]; rfl
          rw [List.getElem?_take, if_pos (by omega)] at h1
          simpa using h1
        simp only [Nat.mul_one, Nat.add_zero, Nat.zero_add]
        unfold World.cell?
        simp [r4, hcur]
    · obtain ⟨h1, h2⟩ := hgi.tape tb htb
      exact h2.keep hfut ((Keep.below hB (S := fun k => w.heap.size ≤ k) fun _ h => h).block tb (by omega))
end Go.Proofs.Ytbnmcdnkeipdhaa
