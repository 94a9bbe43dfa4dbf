/- A region that draws its order, by an invariant of any kind with a state of its own beside it. -/
import Derived.Test.YtgojaelkdpabkaaGreatDoorAnyI
namespace Go.Proofs.YtgojaelkdpabkaaGreatDoor
open Go.RowKit
namespace AnyO
variable {P : Program} {ops : Array Oper}
def boolOf : Value → Option Bool
  | .bool c => some c
  | _ => none
theorem wanted_not {o : Oper} {b : Act} {g t : Nat} {want : Bool} {v : Value} (h : o.guard = some (g, want)) (hd : dst ops g = some t) (hv : b.tmps[t]?.getD undef = v) (hn : boolOf v ≠ some want) : ¬ Region.wanted o (yielded ops b.tmps) = true := by
  unfold Region.wanted
  rw [h]
  show ¬ (yielded ops b.tmps g == some want) = true
  unfold yielded
  have hd' : (ops[g]?).bind (·.dst) = some t := hd
  rw [hd']
  show ¬ ((match b.tmps[t]? with | some (.bool b) => some b | _ => none) == some want) = true
  subst hv
  intro e
  apply hn
  cases ht : b.tmps[t]? with
  | none => rw [ht] at e; simp at e
  | some x =>
    rw [ht] at e
    simp only [Option.getD_some]
    have e3 := eq_of_beq e
    cases x <;> first | exact e3 | cases e3
/-- What the operations come to is known (by a state), and so is the world. -/
def InvG {σ : Type} (PV : σ → Nat → Value → Prop) (W : σ → (Nat → Bool) → World → Prop) (D : Nat → Bool) (vs : Nat → Value) (u : World) : Prop :=
  ∃ g : σ, (∀ j, D j = true → PV g j (vs j)) ∧ W g D u
section
variable {σ : Type} {PV : σ → Nat → Value → Prop} {W : σ → (Nat → Bool) → World → Prop} {i : Nat} {D : Nat → Bool} {vs : Nat → Value} {u : World} {v : Value} {g g' : σ}
theorem InvG.start (h : W g (fun _ => false) u) : InvG PV W (fun _ => false) (fun _ => undef) u := ⟨g, fun _ h => (by cases h), h⟩
theorem InvG.step (h : ∀ j, D j = true → PV g j (vs j)) (hv : PV g i v) (hW : W g (addD D i) u) : InvG PV W (addD D i) (addV vs i v) u := by
  refine ⟨g, fun j hj => ?_, hW⟩
  unfold addD at hj
  unfold addV
  by_cases e : j = i
  · subst e; rw [if_pos rfl]; exact hv
  · rw [if_neg e] at hj ⊢; exact h j hj
theorem InvG.ghost (g' : σ) (h : ∀ j, D j = true → PV g j (vs j)) (hg : ∀ j, D j = true → PV g j (vs j) → PV g' j (vs j)) (hv : PV g' i v) (hW : W g' (addD D i) u) : InvG PV W (addD D i) (addV vs i v) u :=
  InvG.step (g := g') (fun j hj => hg j hj (h j hj)) hv hW
end
end AnyO
end Go.Proofs.YtgojaelkdpabkaaGreatDoor
