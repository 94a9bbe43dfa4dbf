/- Append that tells where it lies; what else stays. -/
import Derived.Test.YtfbpipknhghneaaDoorEncP
import Derived.Maps.AppendAt
namespace Go.Proofs.YtfbpipknhghneaaDoor
open Go.RowKit
section
variable {P : Program} (w : World)
theorem wpList_append_slat {α : Type} {ops : Array Oper} {rest : List Oper} {o : Oper} {a : Act} {Q : Exit → Act → World → Prop} (hgd : o.guard = none) (sx x : Operand) (t : TypeId)
    (ho : o.op = .call { callee := .builtin .append, args := #[sx, x], argTypes := #[t, t] })
    (base : Nat) (e : TypeId) (s bytes : Nat) (enc : α → List Value) (ht : P.underlying t = some (.slice e)) (hi : (P.info? e).map (fun i => (i.zero.map (·.cells.size), i.size, i.bytes)) = some (some s, s, bytes)) (hsz : 0 < s)
    (hs : ∀ x, (enc x).length = s) (h1 : ∀ x, ∀ u ∈ enc x, u.oneCell' = true)
    (v : Value) (xs : List α) (hv : a.eval sx = v) (hown : Own w base e s enc v xs)
    (A : Option Addr) (m c : Nat) (ys : List α) (hm : ys.length = m) (hx : a.eval x = .slice A m c) (hsl : Sl w enc A ys)
    (hlen : (xs.length + m) * bytes ≤ 140737488355328) (hl2 : xs.length + m ≤ 9223372036854775807) (hbase : base ≤ w.heap.size)
    (h : ∀ v' w', Own w' base e s enc v' (xs ++ ys) → w.grownBy w' v.ownBlock → (v'.ownBlock = v.ownBlock ∨ v'.ownBlock = some w.heap.size) → wpList P ops Q rest (a.put o.dst v') w') : wpList P ops Q (o :: rest) a w := by
  subst hm
  refine wpList_plain hgd fun K hK => ?_
  cases hq : P.info? e with
  | none => rw [hq] at hi; cases hi
  | some i =>
    simp only [hq, Option.map_some, Option.some.injEq, Prod.mk.injEq] at hi
    obtain ⟨hz, hsi, hby⟩ := hi
    cases hz0 : i.zero with
    | none => rw [hz0] at hz; cases hz
    | some z =>
      simp only [hz0, Option.map_some, Option.some.injEq] at hz
      have hones : ∀ u ∈ ys.flatMap enc, u.oneCell' = true := by
        intro u hu
        obtain ⟨y, _, hy⟩ := List.mem_flatMap.1 hu
        exact h1 y u hy
      have fin : ∀ v' w', w'.ownsRow base e s v' (xs.length + ys.length) (xs.flatMap enc ++ ys.flatMap enc) → Own w' base e s enc v' (xs ++ ys) := by
        intro v' w' ho
        unfold Own
        rw [List.length_append, List.flatMap_append]
        exact ho
      by_cases hys : ys = []
      · subst hys
        have hrun : (Builtin.append_ #[t, t] o.type #[v, .slice A 0 c]).run P w = .ok v w := by
          rcases hown.2 with ⟨rfl, _⟩ | ⟨g, cap, cur, rfl, _, _, hnc, _⟩
          · cases A <;> simp [Builtin.append_, run_underlying ht, sizeOf, typeInfo, hq, Builtin.lenOf, Builtin.firstCells, loadCells, loadCellsFrom]
          · cases A <;> simp [Builtin.append_, run_underlying ht, sizeOf, typeInfo, hq, Builtin.lenOf, Builtin.firstCells, hnc, storeCells, loadCells, loadCellsFrom]
        unfold Oper.wp execOp
        simp only [ho, resolve, invoke, builtin, Sem.run_bind, Sem.run_pure, Result.andThen_ok, List.map_toArray, List.map_cons, List.map_nil, hv, hx, List.length_nil, hrun]
        exact hK _ _ (h v w (fin v w (by have := hown; unfold Own at this; simpa using this)) (World.grownBy.refl w _) (Or.inl rfl))
      · obtain ⟨ad, rfl, hat⟩ := hsl hys
        obtain ⟨v', w', hr, h2, h3, h4, h5⟩ := run_append_own_at (P := P) w base t o.type e i z s bytes ht hq hz0 hsi hby hz hsz v xs.length (xs.flatMap enc) hown ad ys.length c (ys.flatMap enc) (flatMap_length enc s hs ys) hat.2 hones (by unfold maxLen; omega) hlen hbase
        unfold Oper.wp execOp
        simp only [ho, resolve, invoke, builtin, Sem.run_bind, Sem.run_pure, Result.andThen_ok, List.map_toArray, List.map_cons, List.map_nil, hv, hx, hr]
        exact hK _ _ (h v' w' (fin v' w' h2) h3 h5)
end
/-- A slice of the call's own in block B or in new ones; all else as it was in u. -/
structure AppI (B : Nat) (u wr : World) (v : Value) : Prop where
  os : wr.os = u.os
  tape : wr.tape = u.tape
  output : wr.output = u.output
  size : u.heap.size ≤ wr.heap.size
  out : ∀ k, k < u.heap.size → k ≠ B → wr.heap[k]? = u.heap[k]?
  own : ∀ k, v.ownBlock = some k → k = B ∨ u.heap.size ≤ k
section
variable {B : Nat} {u wr w2 : World} {v v' : Value}
theorem AppI.start (B c : Nat) (u : World) (n : Nat) : AppI B u u (.slice (some ⟨B, 0, none⟩) n c) := ⟨rfl, rfl, rfl, Nat.le_refl _, fun _ _ _ => rfl, fun k hk => Or.inl (by simpa [Value.ownBlock] using hk.symm)⟩
theorem AppI.below (h : AppI B u wr v) (hb : Below wr.heap.size wr w2) : AppI B u w2 v := ⟨hb.os.trans h.os, hb.tape.trans h.tape, hb.output.trans h.output, Nat.le_trans h.size hb.size, fun k hk hB => (hb.block k (Nat.lt_of_lt_of_le hk h.size)).trans (h.out k hk hB), h.own⟩
theorem AppI.grew (h : AppI B u wr v) (hg : wr.grownBy w2 v.ownBlock) (hat : v'.ownBlock = v.ownBlock ∨ v'.ownBlock = some wr.heap.size) : AppI B u w2 v' :=
  ⟨hg.os.trans h.os, hg.tape.trans h.tape, hg.output.trans h.output, Nat.le_trans h.size hg.size, fun k hk hB => (hg.block k (Nat.lt_of_lt_of_le hk h.size) (fun e => by
    rcases h.own k e.symm with e2 | e2
    · exact hB e2
    · omega)).trans (h.out k hk hB), fun k hk => by
    rcases hat with e | e
    · exact h.own k (e.symm.trans hk)
    · rw [e] at hk
      have := Option.some.inj hk
      have := h.size
      exact Or.inr (by omega)⟩
theorem AppI.row (h : AppI B u wr v) {g : Nat} {cs : List Value} {t : TypeId} (hr : Row u g cs t) (hg : g ≠ B) : Row wr g cs t := hr.same (h.out g hr.lt hg)
theorem AppI.toBelow (h : AppI B u wr v) (hB : B ≤ u.heap.size) : Below B u wr := ⟨h.os, h.tape, h.output, h.size, fun k hk => h.out k (Nat.lt_of_lt_of_le hk hB) (by omega)⟩
end
theorem row_wd {w : World} {g : Nat} {xs : List Wd} {t : TypeId} (h : Row w g (xs.flatMap cW) t) {k : Nat} (hk : k < xs.length) : okA w ⟨g, k * 2, none⟩ 2 = true ∧ rdA w ⟨g, k * 2, none⟩ 2 = vW xs[k] := by
  have hs : Sl w cW (some ⟨g, 0, none⟩) xs := fun _ => ⟨_, rfl, h.at_ (k := 0) (n := (xs.flatMap cW).length) (by rw [List.drop_zero, List.take_length])⟩
  obtain ⟨ad, had, h1, h2⟩ := Sl.wd hs hk
  obtain rfl := Option.some.inj had
  have hao := add_off g 0 (k * 2)
  rw [Nat.zero_add] at hao
  rw [hao] at h1 h2
  exact ⟨h1, h2⟩
end Go.Proofs.YtfbpipknhghneaaDoor
