/- A region that draws its order, head and forced tail, by an invariant that knows which operations have come up and what each has come to: stores and appends among the head too. -/
import Derived.Test.YtgojaelkdpabkaaGreatDoorTail
namespace Go.Proofs.YtgojaelkdpabkaaGreatDoor
open Go.RowKit
namespace AnyO
variable {P : Program} {ops : Array Oper} {Q : Exit → Act → World → Prop}
/-- The operations that have come up, with one more; what they have come to, with one more. -/
def addD (D : Nat → Bool) (i : Nat) : Nat → Bool := fun j => if j = i then true else D j
def addV (vs : Nat → Value) (i : Nat) (v : Value) : Nat → Value := fun j => if j = i then v else vs j
def StepI (P : Program) (ops : Array Oper) (Inv : (Nat → Bool) → (Nat → Value) → World → Prop) (a0 : Act) (i : Nat) : Prop :=
  ∀ o, ops[i]? = some o → ∀ (D : Nat → Bool) (vs : Nat → Value) (w : World), Inv D vs w → D i = false → (∀ k, D k = true → ∀ j ∈ pre ops k, D j = true) → (∀ j ∈ pre ops i, D j = true) →
    ∀ K : Act → World → Prop, (∀ v w', Inv (addD D i) (addV vs i v) w' → K ((puts ops vs (pre ops i) a0).put o.dst v) w') →
      if Region.wanted o (yielded ops (puts ops vs (pre ops i) a0).tmps) = true then o.wp P (puts ops vs (pre ops i) a0) w K (fun _ _ _ => False) else K ((puts ops vs (pre ops i) a0).put o.dst undef) w
theorem StepI.mk {Inv : (Nat → Bool) → (Nat → Value) → World → Prop} {a0 : Act} {i : Nat} {o : Oper} (ho : ops[i]? = some o) (l : List Nat) (hl : pre ops i = l)
    (h : ∀ (D : Nat → Bool) (vs : Nat → Value) (w : World), Inv D vs w → D i = false → (∀ k, D k = true → ∀ j ∈ pre ops k, D j = true) → (∀ j ∈ l, D j = true) → ∀ b : Act, b = puts ops vs l a0 →
      ∀ K : Act → World → Prop, (∀ v w', Inv (addD D i) (addV vs i v) w' → K (b.put o.dst v) w') →
        if Region.wanted o (yielded ops b.tmps) = true then o.wp P b w K (fun _ _ _ => False) else K (b.put o.dst undef) w) : StepI P ops Inv a0 i := by
  subst hl
  intro o' ho' D vs w hE h0 hC hp K hK
  rw [ho] at ho'
  injection ho' with ho'
  subst ho'
  exact h D vs w hE h0 hC hp _ rfl K hK

/-! ### one slice made, one append -/
/-- The values that the operations without effect come to. -/
def pvL (L : List (Option Value)) (j : Nat) (v : Value) : Prop := match L[j]? with | some (some x) => v = x | _ => True
/-- Before the append (operation m) only new memory was made; the slice to be appended (operation s) lies there; behind it AP. -/
def InvA (m s : Nat) (PV : Nat → Value → Prop) (w1 : World) (SL AP : Value → World → Prop) (D : Nat → Bool) (vs : Nat → Value) (u : World) : Prop :=
  (∀ j, D j = true → PV j (vs j)) ∧ (D m = false → Below w1.heap.size w1 u ∧ (D s = true → SL (vs s) u)) ∧ (D m = true → AP (vs m) u)
section
variable {m s i : Nat} {PV : Nat → Value → Prop} {w1 : World} {SL AP : Value → World → Prop} {D : Nat → Bool} {vs : Nat → Value} {u u' : World} {v : Value}
theorem InvA.start (_hsm : s ≠ m) : InvA m s PV w1 SL AP (fun _ => false) (fun _ => undef) w1.drew :=
  ⟨fun _ h => (by cases h), fun _ => ⟨(Below.refl _ _).drew, fun h => (by cases h)⟩, fun h => (by cases h)⟩
theorem InvA.vals (h : InvA m s PV w1 SL AP D vs u) (hv : PV i v) : ∀ j, addD D i j = true → PV j (addV vs i v j) := by
  intro j hj
  unfold addD at hj
  unfold addV
  by_cases e : j = i
  · subst e; rw [if_pos rfl]; exact hv
  · rw [if_neg e] at hj ⊢; exact h.1 j hj
theorem InvA.pure (h : InvA m s PV w1 SL AP D vs u) (him : i ≠ m) (his : i ≠ s) (hv : PV i v) : InvA m s PV w1 SL AP (addD D i) (addV vs i v) u := by
  refine ⟨h.vals hv, fun hm => ?_, fun hm => ?_⟩
  · unfold addD at hm
    rw [if_neg (fun e => him e.symm)] at hm
    refine ⟨(h.2.1 hm).1, fun hs => ?_⟩
    unfold addD at hs
    unfold addV
    rw [if_neg (fun e => his e.symm)] at hs ⊢
    exact (h.2.1 hm).2 hs
  · unfold addD at hm
    unfold addV
    rw [if_neg (fun e => him e.symm)] at hm ⊢
    exact h.2.2 hm
theorem InvA.slice (h : InvA m s PV w1 SL AP D vs u) (hsm : s ≠ m) (hm : D m = false) (hb : Below u.heap.size u u') (hv : PV s v) (hS : SL v u') : InvA m s PV w1 SL AP (addD D s) (addV vs s v) u' := by
  refine ⟨h.vals hv, fun _ => ⟨(h.2.1 hm).1.trans (hb.mono (h.2.1 hm).1.size), fun _ => ?_⟩, fun hm' => ?_⟩
  · unfold addV
    rw [if_pos rfl]
    exact hS
  · unfold addD at hm'
    rw [if_neg (fun e => hsm e.symm), hm] at hm'
    cases hm'
theorem InvA.app (h : InvA m s PV w1 SL AP D vs u) (hv : PV m v) (hA : AP v u') : InvA m s PV w1 SL AP (addD D m) (addV vs m v) u' := by
  refine ⟨h.vals hv, fun hm => ?_, fun _ => ?_⟩
  · unfold addD at hm
    rw [if_pos rfl] at hm
    cases hm
  · unfold addV
    rw [if_pos rfl]
    exact hA
end
end AnyO
end Go.Proofs.YtgojaelkdpabkaaGreatDoor
