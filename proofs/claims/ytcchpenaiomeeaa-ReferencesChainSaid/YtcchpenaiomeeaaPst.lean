/- What the operations of a region give: kinds of posts, each kept while only new memory is made; append onto an empty slice without capacity. -/
import Derived.Test.YtcchpenaiomeeaaTail
import Derived.Test.YtcchpenaiomeeaaTrims
namespace Go.Proofs.Ytcchpenaiomeeaa
open Go.RowKit
/-- Slots written one behind the other. -/
def putL : List (Option Tmp) → (Nat → Value) → Nat → Act → Act
  | [], _, _, a => a
  | d :: ds, vs, k, a => putL ds vs (k + 1) (a.put d (vs k))
theorem puts_range' {ops : Array Oper} (vs : Nat → Value) : ∀ (n k : Nat) (ds : List (Option Tmp)) (a : Act), (List.range' k n).map (AnyO.dst ops) = ds → AnyO.puts ops vs (List.range' k n) a = putL ds vs k a
  | 0, _, _, _, h => by subst h; rfl
  | n + 1, k, ds, a, h => by
    subst h
    rw [List.range'_succ, List.map_cons, AnyO.puts_cons, putL]
    exact puts_range' vs n (k + 1) _ _ rfl
theorem puts_range {ops : Array Oper} {vs : Nat → Value} {n : Nat} {a : Act} (ds : List (Option Tmp)) (h : (List.range n).map (AnyO.dst ops) = ds) : AnyO.puts ops vs (List.range n) a = putL ds vs 0 a := by
  rw [List.range_eq_range'] at *
  exact puts_range' vs n 0 ds a h
/-- A post that is kept while only new memory is made. -/
def Mono (p : Value → World → Prop) : Prop := ∀ v w w', Below w.heap.size w w' → p v w → p v w'
def isV (u : Value) : Value → World → Prop := fun v _ => v = u
def isSl (xs : List Id) : Value → World → Prop := fun v w => ∃ A n c, v = .slice A n c ∧ xs.length = n ∧ n ≤ c ∧ Sl w cI A xs
def isSlE (xs : List Id) (code : Int) : Value → World → Prop := fun v w => ∃ A n c, v = .tuple #[.slice A n c, .int .i64 code] ∧ xs.length = n ∧ n ≤ c ∧ Sl w cI A xs
def isOwn (B : Nat) (e : TypeId) (xs : List Id) : Value → World → Prop := fun v w => Own w B e 32 cI v xs
def isOwn0 (B : Nat) (e : TypeId) : Value → World → Prop := fun v w => ∃ g, v = .slice (some ⟨g, 0, none⟩) 0 0 ∧ Own w B e 32 cI (.slice (some ⟨g, 0, none⟩) 0 0) ([] : List Id)
theorem Mono.v (u : Value) : Mono (isV u) := fun _ _ _ _ h => h
theorem Mono.sl (xs : List Id) : Mono (isSl xs) := fun _ _ _ hb ⟨A, n, c, h1, h2, h3, h4⟩ => ⟨A, n, c, h1, h2, h3, h4.keep hb⟩
theorem Mono.slE (xs : List Id) (code : Int) : Mono (isSlE xs code) := fun _ _ _ hb ⟨A, n, c, h1, h2, h3, h4⟩ => ⟨A, n, c, h1, h2, h3, h4.keep hb⟩
theorem Mono.own (B : Nat) (e : TypeId) (xs : List Id) : Mono (isOwn B e xs) := fun _ _ _ hb h => Own.keep h hb
theorem Mono.own0 (B : Nat) (e : TypeId) : Mono (isOwn0 B e) := fun _ _ _ hb ⟨g, h1, h2⟩ => ⟨g, h1, Own.keep h2 hb⟩
theorem Own.sl' {w : World} {base : Nat} {e : TypeId} {v : Value} {xs : List Id} (h : Own w base e 32 cI v xs) : ∃ A n c, v = .slice A n c ∧ xs.length = n ∧ n ≤ c ∧ Sl w cI A xs := by
  obtain ⟨A, c, h1, h2, h3⟩ := h.sl
  exact ⟨A, _, c, h1, rfl, h2, h3⟩
def pstP (L : List (Value → World → Prop)) (i : Nat) (v : Value) (w : World) : Prop :=
  match L[i]? with
  | some p => p v w
  | none => True
def MonoL (L : List (Value → World → Prop)) : Prop := ∀ i v w w', Below w.heap.size w w' → pstP L i v w → pstP L i v w'
theorem MonoL.nil : MonoL [] := fun _ _ _ _ _ _ => trivial
theorem MonoL.cons {p : Value → World → Prop} {L : List (Value → World → Prop)} (h : Mono p) (hL : MonoL L) : MonoL (p :: L) := by
  intro i v w w' hb hp
  cases i with
  | zero => exact h v w w' hb hp
  | succ i => exact hL i v w w' hb hp
section
variable {P : Program} (w : World)
/-- append(v, ys...), v empty and without capacity: it makes memory alone. -/
theorem wp_append_fresh {α : Type} {o : Oper} {a : Act} {K : Act → World → Prop} {Q : Exit → Act → World → Prop} (sx x : Operand) (t : TypeId)
    (ho : o.op = .call { callee := .builtin .append, args := #[sx, x], argTypes := #[t, t] })
    (base : Nat) (e : TypeId) (s bytes : Nat) (enc : α → List Value) (ht : P.underlying t = some (.slice e)) (hi : (P.info? e).map (fun i => (i.zero.map (·.cells.size), i.size, i.bytes)) = some (some s, s, bytes)) (hsz : 0 < s)
    (hs : ∀ x, (enc x).length = s) (g : Nat) (hv : a.eval sx = .slice (some ⟨g, 0, none⟩) 0 0) (hown : Own w base e s enc (.slice (some ⟨g, 0, none⟩) 0 0) ([] : List α))
    (A : Option Addr) (m c : Nat) (ys : List α) (hm : ys.length = m) (hx : a.eval x = .slice A m c) (hsl : Sl w enc A ys)
    (hlen : m * bytes ≤ 140737488355328) (hl2 : m ≤ 9223372036854775807) (hbase : base ≤ w.heap.size)
    (h : ∀ v' w', Own w' base e s enc v' ys → Below w.heap.size w w' → K (a.put o.dst v') w') : o.wp P a w K Q := by
  subst hm
  cases hq : P.info? e with
  | none => rw [hq] at hi; cases hi
  | some i =>
    simp only [hq, Option.map_some, Option.some.injEq, Prod.mk.injEq] at hi
    obtain ⟨hz, hsi, hby⟩ := hi
    cases hz0 : i.zero with
    | none => rw [hz0] at hz; cases hz
    | some z =>
      simp only [hz0, Option.map_some, Option.some.injEq] at hz
      by_cases hys : ys = []
      · subst hys
        have hrun : (Builtin.append_ #[t, t] o.type #[.slice (some ⟨g, 0, none⟩) 0 0, .slice A 0 c]).run P w = .ok (.slice (some ⟨g, 0, none⟩) 0 0) w := by
          cases A <;> simp [Builtin.append_, run_underlying ht, sizeOf, typeInfo, hq, Builtin.lenOf, Builtin.firstCells, storeCells, loadCells, loadCellsFrom]
        unfold Oper.wp execOp
        simp only [ho, resolve, invoke, builtin, Sem.run_bind, Sem.run_pure, Result.andThen_ok, List.map_toArray, List.map_cons, List.map_nil, hv, hx, List.length_nil, hrun]
        exact h _ _ hown (Below.refl _ _)
      · obtain ⟨ad, rfl, hat⟩ := hsl hys
        have hpos : 0 < ys.length := List.length_pos_iff.2 hys
        obtain ⟨v', w', hr, h1, h2⟩ := run_append_arg_grows (P := P) w t o.type e i z s bytes ht hq hz0 hsi hby hz hsz ⟨g, 0, none⟩ 0 0 [] (by simp) (by simp) ad ys.length c (ys.flatMap enc)
          (flatMap_length enc s hs ys) hat.2 (by omega) (by unfold maxLen; omega) (by rw [Nat.zero_add]; exact hlen)
        unfold Oper.wp execOp
        simp only [ho, resolve, invoke, builtin, Sem.run_bind, Sem.run_pure, Result.andThen_ok, List.map_toArray, List.map_cons, List.map_nil, hv, hx, hr]
        refine h v' w' ?_ ⟨h2.os, h2.tape, h2.output, h2.size, fun k hk => h2.block k hk (by simp)⟩
        have h3 : Own w' w.heap.size e s enc v' ys := by
          unfold Own
          rw [Nat.zero_add, List.nil_append] at h1
          exact h1
        exact h3.mono hbase
end
end Go.Proofs.Ytcchpenaiomeeaa
