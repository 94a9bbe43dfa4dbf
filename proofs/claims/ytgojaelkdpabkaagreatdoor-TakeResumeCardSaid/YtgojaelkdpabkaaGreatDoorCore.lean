/- What every text on bytes and strings rests on. -/
import Derived.Test.YtgojaelkdpabkaaGreatDoorTail
import Derived.Test.YtgojaelkdpabkaaGreatDoorProg
namespace Go.Proofs.YtgojaelkdpabkaaGreatDoor
open Go.RowKit
theorem below_alloc (w : World) (o : Obj) : Below w.heap.size w (w.alloc o) := (Below.refl _ _).alloc (Nat.le_refl _) o
theorem below_drew (w : World) : Below w.heap.size w w.drew := (Below.refl _ _).drew
theorem below_drewN (w : World) (n : Nat) : Below w.heap.size w (w.drewN n) := ⟨rfl, rfl, rfl, Nat.le_refl _, fun _ _ => rfl⟩
theorem Below.step {w w1 w2 : World} (h : Below w.heap.size w w1) (h2 : Below w1.heap.size w1 w2) : Below w.heap.size w w2 := h.trans (h2.mono h.size)
/-- Slots written one behind the other. -/
def putL : List (Option Tmp) → (Nat → Value) → Nat → Act → Act
  | [], _, _, a => a
  | d :: ds, vs, k, a => putL ds vs (k + 1) (a.put d (vs k))
theorem puts_range' {ops : Array Oper} (vs : Nat → Value) : ∀ (n k : Nat) (ds : List (Option Tmp)) (a : Act), (List.range' k n).map (AnyO.dst ops) = ds → AnyO.puts ops vs (List.range' k n) a = putL ds vs k a
  | 0, _, _, _, h => by subst h; rfl
  | n + 1, k, ds, a, h => by
    subst h
    rw [List.range'_succ, List.map_cons, AnyO.puts_cons, putL]
    exact puts_range' vs n (k + 1) _ _ rfl
theorem puts_range {ops : Array Oper} {vs : Nat → Value} {n : Nat} {a : Act} (ds : List (Option Tmp)) (h : (List.range n).map (AnyO.dst ops) = ds) : AnyO.puts ops vs (List.range n) a = putL ds vs 0 a := by
  rw [List.range_eq_range'] at *
  exact puts_range' vs n 0 ds a h
/-- A post that is kept while only new memory is made. -/
def Mono (p : Value → World → Prop) : Prop := ∀ v w w', Below w.heap.size w w' → p v w → p v w'
def isV (u : Value) : Value → World → Prop := fun v _ => v = u
theorem Mono.v (u : Value) : Mono (isV u) := fun _ _ _ _ h => h
def pstP (L : List (Value → World → Prop)) (i : Nat) (v : Value) (w : World) : Prop :=
  match L[i]? with
  | some p => p v w
  | none => True
def MonoL (L : List (Value → World → Prop)) : Prop := ∀ i v w w', Below w.heap.size w w' → pstP L i v w → pstP L i v w'
theorem MonoL.nil : MonoL [] := fun _ _ _ _ _ _ => trivial
theorem MonoL.cons {p : Value → World → Prop} {L : List (Value → World → Prop)} (h : Mono p) (hL : MonoL L) : MonoL (p :: L) := by
  intro i v w w' hb hp
  cases i with
  | zero => exact h v w w' hb hp
  | succ i => exact hL i v w w' hb hp
theorem info_of {P : Program} {e : TypeId} {c s b : Nat} (h : (P.info? e).map (fun i => (i.zero.map (·.cells.size), i.size, i.bytes)) = some (some c, s, b)) : ∃ i z, P.info? e = some i ∧ i.zero = some z ∧ i.size = s := by
  cases hq : P.info? e with
  | none => rw [hq] at h; cases h
  | some i =>
    cases hz : i.zero with
    | none => simp [hq, hz] at h
    | some z => simp [hq, hz] at h; exact ⟨i, z, rfl, hz, h.2.1⟩
end Go.Proofs.YtgojaelkdpabkaaGreatDoor
