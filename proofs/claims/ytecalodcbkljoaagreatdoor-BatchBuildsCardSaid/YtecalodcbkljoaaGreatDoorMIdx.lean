/- Append that tells where it lies; two slices of the call's own beside each other. -/
import Derived.Test.YtecalodcbkljoaaGreatDoorMSlv
import Derived.Maps.AppendAt
namespace Go.Proofs.YtecalodcbkljoaaGreatDoor
open Go.RowKit
section
variable {P : Program} (w : World)
theorem wpList_append_slat {α : Type} {ops : Array Oper} {rest : List Oper} {o : Oper} {a : Act} {Q : Exit → Act → World → Prop} (hgd : o.guard = none) (sx x : Operand) (t : TypeId)
    (ho : o.op = .call { callee := .builtin .append, args := #[sx, x], argTypes := #[t, t] })
    (base : Nat) (e : TypeId) (s bytes : Nat) (enc : α → List Value) (ht : P.underlying t = some (.slice e)) (hi : (P.info? e).map (fun i => (i.zero.map (·.cells.size), i.size, i.bytes)) = some (some s, s, bytes)) (hsz : 0 < s)
    (hs : ∀ x, (enc x).length = s) (h1 : ∀ x, ∀ u ∈ enc x, u.oneCell' = true)
    (v : Value) (xs : List α) (hv : a.eval sx = v) (hown : Own w base e s enc v xs)
    (A : Option Addr) (m c : Nat) (ys : List α) (hm : ys.length = m) (hx : a.eval x = .slice A m c) (hsl : Sl w enc A ys)
    (hlen : (xs.length + m) * bytes ≤ 140737488355328) (hl2 : xs.length + m ≤ 9223372036854775807) (hbase : base ≤ w.heap.size)
    (h : ∀ v' w', Own w' base e s enc v' (xs ++ ys) → w.grownBy w' v.ownBlock → (v'.ownBlock = v.ownBlock ∨ v'.ownBlock = some w.heap.size) → wpList P ops Q rest (a.put o.dst v') w') : wpList P ops Q (o :: rest) a w := by
  subst hm
  refine wpList_plain hgd fun K hK => ?_
  cases hq : P.info? e with
  | none => rw [hq] at hi; cases hi
  | some i =>
    simp only [hq, Option.map_some, Option.some.injEq, Prod.mk.injEq] at hi
    obtain ⟨hz, hsi, hby⟩ := hi
    cases hz0 : i.zero with
    | none => rw [hz0] at hz; cases hz
    | some z =>
      simp only [hz0, Option.map_some, Option.some.injEq] at hz
      have hones : ∀ u ∈ ys.flatMap enc, u.oneCell' = true := by
        intro u hu
        obtain ⟨y, _, hy⟩ := List.mem_flatMap.1 hu
        exact h1 y u hy
      have fin : ∀ v' w', w'.ownsRow base e s v' (xs.length + ys.length) (xs.flatMap enc ++ ys.flatMap enc) → Own w' base e s enc v' (xs ++ ys) := by
        intro v' w' ho
        unfold Own
        rw [List.length_append, List.flatMap_append]
        exact ho
      by_cases hys : ys = []
      · subst hys
        have hrun : (Builtin.append_ #[t, t] o.type #[v, .slice A 0 c]).run P w = .ok v w := by
          rcases hown.2 with ⟨rfl, _⟩ | ⟨g, cap, cur, rfl, _, _, hnc, _⟩
          · cases A <;> simp [Builtin.append_, run_underlying ht, sizeOf, typeInfo, hq, Builtin.lenOf, Builtin.firstCells, loadCells, loadCellsFrom]
          · cases A <;> simp [Builtin.append_, run_underlying ht, sizeOf, typeInfo, hq, Builtin.lenOf, Builtin.firstCells, hnc, storeCells, loadCells, loadCellsFrom]
        unfold Oper.wp execOp
        simp only [ho, resolve, invoke, builtin, Sem.run_bind, Sem.run_pure, Result.andThen_ok, List.map_toArray, List.map_cons, List.map_nil, hv, hx, List.length_nil, hrun]
        exact hK _ _ (h v w (fin v w (by have := hown; unfold Own at this; simpa using this)) (World.grownBy.refl w _) (Or.inl rfl))
      · obtain ⟨ad, rfl, hat⟩ := hsl hys
        obtain ⟨v', w', hr, h2, h3, h4, h5⟩ := run_append_own_at (P := P) w base t o.type e i z s bytes ht hq hz0 hsi hby hz hsz v xs.length (xs.flatMap enc) hown ad ys.length c (ys.flatMap enc) (flatMap_length enc s hs ys) hat.2 hones (by unfold maxLen; omega) hlen hbase
        unfold Oper.wp execOp
        simp only [ho, resolve, invoke, builtin, Sem.run_bind, Sem.run_pure, Result.andThen_ok, List.map_toArray, List.map_cons, List.map_nil, hv, hx, hr]
        exact hK _ _ (h v' w' (fin v' w' h2) h3 h5)
end
/-- A slice of the call's own beside another that grows. -/
theorem Own.beside {α : Type} {w w' : World} {base : Nat} {e : TypeId} {s : Nat} {enc : α → List Value} {v u : Value} {xs : List α} (h : Own w base e s enc v xs) (hg : w.grownBy w' u.ownBlock) (hne : ∀ k, v.ownBlock = some k → u.ownBlock ≠ some k) : Own w' base e s enc v xs := by
  refine ⟨h.1, h.2.imp id fun ⟨k, cap, cur, a1, a2, a3, r⟩ => ⟨k, cap, cur, a1, a2, ?_, r⟩⟩
  rw [hg.block k (Array.getElem?_eq_some_iff.1 a3).1 (fun e => hne k (by rw [a1]; rfl) e.symm)]
  exact a3
/-- The two lie apart behind it too. -/
theorem apart_grew {α : Type} {w : World} {base : Nat} {e : TypeId} {s : Nat} {enc : α → List Value} {v u u' : Value} {xs : List α} (h : Own w base e s enc v xs) (hne : ∀ k, v.ownBlock = some k → u.ownBlock ≠ some k) (hat : u'.ownBlock = u.ownBlock ∨ u'.ownBlock = some w.heap.size) : ∀ k, v.ownBlock = some k → u'.ownBlock ≠ some k := by
  intro k hk
  rcases hat with e | e
  · rw [e]
    exact hne k hk
  · rw [e]
    intro h2
    have := (h.lt k hk).2
    have := Option.some.inj h2
    omega
theorem apart_symm {u v : Value} (h : ∀ k, v.ownBlock = some k → u.ownBlock ≠ some k) : ∀ k, u.ownBlock = some k → v.ownBlock ≠ some k := fun k hu hv => h k hv hu
end Go.Proofs.YtecalodcbkljoaaGreatDoor
