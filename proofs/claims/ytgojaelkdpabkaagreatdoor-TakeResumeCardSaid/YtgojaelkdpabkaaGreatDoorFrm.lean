/- What a call leaves alone; slices that lie outside a footprint; append to a fresh slice. -/
import Derived.Test.YtgojaelkdpabkaaGreatDoorDel
namespace Go.Proofs.YtgojaelkdpabkaaGreatDoor
open Go.RowKit
theorem ev_tmp {a : Act} {t : Nat} {v : Value} (h : a.tmps[t]?.getD undef = v) : a.eval (.tmp t) = v := by simpa [Act.eval] using h
/-- A call that touches no older block but those of F, and leaves F'. -/
structure Kp (F F' : List Nat) (w w' : World) : Prop where
  os : w'.os = w.os
  tape : w'.tape = w.tape
  output : w'.output = w.output
  size : w.heap.size ≤ w'.heap.size
  out : ∀ k, k < w.heap.size → k ∉ F → k ∉ F' ∧ w'.heap[k]? = w.heap[k]?
theorem Kp.refl (F : List Nat) (w : World) : Kp F F w w := ⟨rfl, rfl, rfl, Nat.le_refl _, fun _ _ h => ⟨h, rfl⟩⟩
theorem Kp.trans {F F' F'' : List Nat} {a b c : World} (h : Kp F F' a b) (k : Kp F' F'' b c) : Kp F F'' a c :=
  ⟨k.os.trans h.os, k.tape.trans h.tape, k.output.trans h.output, Nat.le_trans h.size k.size, fun j hj hF => by
    obtain ⟨h1, h2⟩ := h.out j hj hF
    obtain ⟨h3, h4⟩ := k.out j (Nat.lt_of_lt_of_le hj h.size) h1
    exact ⟨h3, h4.trans h2⟩⟩
theorem Kp.of_below {F : List Nat} {w w' : World} (h : Below w.heap.size w w') : Kp F F w w' := ⟨h.os, h.tape, h.output, h.size, fun k hk hF => ⟨hF, h.block k hk⟩⟩
theorem Kp.below {F F' : List Nat} {B : Nat} {w w' : World} (h : Kp F F' w w') (hF : ∀ k ∈ F, B ≤ k) (hB : B ≤ w.heap.size) : Below B w w' := ⟨h.os, h.tape, h.output, h.size, fun k hk => (h.out k (by omega) (fun hm => by have := hF k hm; omega)).2⟩
theorem Own.same {α : Type} {w w' : World} {base : Nat} {e : TypeId} {s : Nat} {enc : α → List Value} {v : Value} {xs : List α} (h : Own w base e s enc v xs) (hk : ∀ k, v.ownBlock = some k → w'.heap[k]? = w.heap[k]?) : Own w' base e s enc v xs := by
  refine ⟨h.1, h.2.imp id fun ⟨g, cap, cur, a1, a2, a3, r⟩ => ⟨g, cap, cur, a1, a2, ?_, r⟩⟩
  rw [hk g (by rw [a1]; rfl)]
  exact a3
section
variable {P : Program} (w : World)
/-- append(v, ys...), v empty and without capacity: it makes memory alone. -/
theorem wp_append_fresh {α : Type} {o : Oper} {a : Act} {K : Act → World → Prop} {Q : Exit → Act → World → Prop} (sx x : Operand) (t : TypeId)
    (ho : o.op = .call { callee := .builtin .append, args := #[sx, x], argTypes := #[t, t] })
    (base : Nat) (e : TypeId) (s bytes : Nat) (enc : α → List Value) (ht : P.underlying t = some (.slice e)) (hi : (P.info? e).map (fun i => (i.zero.map (·.cells.size), i.size, i.bytes)) = some (some s, s, bytes)) (hsz : 0 < s)
    (hs : ∀ x, (enc x).length = s) (g : Nat) (hv : a.eval sx = .slice (some ⟨g, 0, none⟩) 0 0) (hown : Own w base e s enc (.slice (some ⟨g, 0, none⟩) 0 0) ([] : List α))
    (A : Option Addr) (m c : Nat) (ys : List α) (hm : ys.length = m) (hx : a.eval x = .slice A m c) (hsl : Sl w enc A ys)
    (hlen : m * bytes ≤ 140737488355328) (hl2 : m ≤ 9223372036854775807) (hbase : base ≤ w.heap.size)
    (h : ∀ v' w', Own w' base e s enc v' ys → Below w.heap.size w w' → K (a.put o.dst v') w') : o.wp P a w K Q := by
  subst hm
  cases hq : P.info? e with
  | none => rw [hq] at hi; cases hi
  | some i =>
    simp only [hq, Option.map_some, Option.some.injEq, Prod.mk.injEq] at hi
    obtain ⟨hz, hsi, hby⟩ := hi
    cases hz0 : i.zero with
    | none => rw [hz0] at hz; cases hz
    | some z =>
      simp only [hz0, Option.map_some, Option.some.injEq] at hz
      by_cases hys : ys = []
      · subst hys
        have hrun : (Builtin.append_ #[t, t] o.type #[.slice (some ⟨g, 0, none⟩) 0 0, .slice A 0 c]).run P w = .ok (.slice (some ⟨g, 0, none⟩) 0 0) w := by
          cases A <;> simp [Builtin.append_, run_underlying ht, sizeOf, typeInfo, hq, Builtin.lenOf, Builtin.firstCells, storeCells, loadCells, loadCellsFrom]
        unfold Oper.wp execOp
        simp only [ho, resolve, invoke, builtin, Sem.run_bind, Sem.run_pure, Result.andThen_ok, List.map_toArray, List.map_cons, List.map_nil, hv, hx, List.length_nil, hrun]
        exact h _ _ hown (Below.refl _ _)
      · obtain ⟨ad, rfl, hat⟩ := hsl hys
        have hpos : 0 < ys.length := List.length_pos_iff.2 hys
        obtain ⟨v', w', hr, h1, h2⟩ := run_append_arg_grows (P := P) w t o.type e i z s bytes ht hq hz0 hsi hby hz hsz ⟨g, 0, none⟩ 0 0 [] (by simp) (by simp) ad ys.length c (ys.flatMap enc)
          (flatMap_length enc s hs ys) hat.2 (by omega) (by unfold maxLen; omega) (by rw [Nat.zero_add]; exact hlen)
        unfold Oper.wp execOp
        simp only [ho, resolve, invoke, builtin, Sem.run_bind, Sem.run_pure, Result.andThen_ok, List.map_toArray, List.map_cons, List.map_nil, hv, hx, hr]
        refine h v' w' ?_ ⟨h2.os, h2.tape, h2.output, h2.size, fun k hk => h2.block k hk (by simp)⟩
        have h3 : Own w' w.heap.size e s enc v' ys := by
          unfold Own
          rw [Nat.zero_add, List.nil_append] at h1
          exact h1
        exact h3.mono hbase
end
/-- Kinds of posts: an owned slice, an owned slice without room, a new slice of one element. -/
def isOwnG {α : Type} (B : Nat) (e : TypeId) (s : Nat) (enc : α → List Value) (xs : List α) : Value → World → Prop := fun v w => Own w B e s enc v xs
def isOwn0G {α : Type} (B : Nat) (e : TypeId) (s : Nat) (enc : α → List Value) : Value → World → Prop := fun v w => ∃ g, v = .slice (some ⟨g, 0, none⟩) 0 0 ∧ Own w B e s enc (.slice (some ⟨g, 0, none⟩) 0 0) ([] : List α)
def isOne {α : Type} (enc : α → List Value) (x : α) : Value → World → Prop := fun v w => ∃ g, v = .slice (some ⟨g, 0, none⟩) 1 1 ∧ Sl w enc (some ⟨g, 0, none⟩) [x]
theorem Mono.ownG {α : Type} (B : Nat) (e : TypeId) (s : Nat) (enc : α → List Value) (xs : List α) : Mono (isOwnG B e s enc xs) := fun _ _ _ hb h => Own.keep h hb
theorem Mono.own0G {α : Type} (B : Nat) (e : TypeId) (s : Nat) (enc : α → List Value) : Mono (isOwn0G (α := α) B e s enc) := fun _ _ _ hb ⟨g, h1, h2⟩ => ⟨g, h1, Own.keep h2 hb⟩
theorem Mono.one {α : Type} (enc : α → List Value) (x : α) : Mono (isOne enc x) := fun _ _ _ hb ⟨g, h1, h2⟩ => ⟨g, h1, h2.keep hb⟩
theorem Own.new0 {α : Type} (u : World) (B : Nat) (e : TypeId) (s : Nat) (enc : α → List Value) (hs : ∀ x, (enc x).length = s) (hB : B ≤ u.heap.size) : Own (u.alloc (.cells (([] : List α).flatMap enc).toArray e)) B e s enc (.slice (some ⟨u.heap.size, 0, none⟩) 0 0) ([] : List α) := Own.lit (w := u) hs [] hB (by simp)
/-- A slice that lies outside a footprint. -/
def SlF {α : Type} (F : List Nat) (w : World) (enc : α → List Value) (v : SlV) (xs : List α) : Prop := xs.length = v.2.1 ∧ v.2.1 ≤ v.2.2 ∧ Sl w enc v.1 xs ∧ ∀ ad, v.1 = some ad → xs ≠ [] → ad.block ∉ F
theorem SlF.keep {α : Type} {F : List Nat} {w w' : World} {enc : α → List Value} {v : SlV} {xs : List α} (h : SlF F w enc v xs) (hb : Below w.heap.size w w') : SlF F w' enc v xs := ⟨h.1, h.2.1, h.2.2.1.keep hb, h.2.2.2⟩
theorem SlF.nil {α : Type} (F : List Nat) (w : World) (enc : α → List Value) : SlF F w enc (none, 0, 0) ([] : List α) := ⟨rfl, Nat.le_refl _, Sl.nil _ _ _, fun _ h => by cases h⟩
theorem SlF.kp {α : Type} {F F' : List Nat} {w w' : World} {enc : α → List Value} {v : SlV} {xs : List α} (h : SlF F w enc v xs) (hk : Kp F F' w w') : SlF F' w' enc v xs := by
  refine ⟨h.1, h.2.1, fun hx => ?_, fun ad e hx => ?_⟩
  · obtain ⟨ad, e, hat⟩ := h.2.2.1 hx
    refine ⟨ad, e, Nat.lt_of_lt_of_le hat.1 hk.size, fun j u hj => ?_⟩
    have h1 := hat.2 j u hj
    have h2 := (hk.out ad.block hat.1 (h.2.2.2 ad e hx)).2
    rw [← h1]
    unfold World.cell?
    rw [block_of_add, h2]
  · obtain ⟨ad', e', hat⟩ := h.2.2.1 hx
    rw [e] at e'
    obtain rfl := Option.some.inj e'
    exact (hk.out ad.block hat.1 (h.2.2.2 ad e hx)).1
/-- An owned slice of memory that is newer than the footprint. -/
theorem SlF.own {α : Type} {F : List Nat} {w : World} {B : Nat} {e : TypeId} {s : Nat} {enc : α → List Value} {A : Option Addr} {n c : Nat} {xs : List α} (h : Own w B e s enc (.slice A n c) xs) (hF : ∀ k ∈ F, k < B) : SlF F w enc (A, n, c) xs := by
  obtain ⟨A', c', e1, h2, h3⟩ := Own.sl h
  injection e1 with e1 e2 e3
  subst e1 e2 e3
  refine ⟨rfl, h2, h3, fun ad e hx hm => ?_⟩
  obtain rfl : A = some ad := e
  have hlt := hF _ hm
  rcases h.2 with ⟨e, _⟩ | ⟨g, cap, cur, e, hg, _⟩
  · injection e with e _ _
    cases e
  · injection e with e _ _
    obtain rfl := Option.some.inj e
    exact absurd hlt (by simp; omega)
theorem SlF.sub {α : Type} {F F2 : List Nat} {w : World} {enc : α → List Value} {v : SlV} {xs : List α} (h : SlF F w enc v xs) (hs : ∀ k ∈ F2, k ∈ F) : SlF F2 w enc v xs := ⟨h.1, h.2.1, h.2.2.1, fun ad e hx hm => h.2.2.2 ad e hx (hs _ hm)⟩
theorem Kp.app {F F' : List Nat} {w w' : World} (h : Kp F F' w w') (G : List Nat) : Kp (F ++ G) (F' ++ G) w w' :=
  ⟨h.os, h.tape, h.output, h.size, fun k hk hm => by
    obtain ⟨h1, h2⟩ := h.out k hk (fun e => hm (List.mem_append_left _ e))
    exact ⟨fun e => (List.mem_append.1 e).elim h1 (fun e => hm (List.mem_append_right _ e)), h2⟩⟩
theorem SlF.new {α : Type} {F : List Nat} {w : World} {enc : α → List Value} {v : SlV} {xs : List α} (h : SlF F w enc v xs) (F2 : List Nat) (hs : ∀ k ∈ F2, k ∈ F ∨ w.heap.size ≤ k) : SlF F2 w enc v xs := by
  refine ⟨h.1, h.2.1, h.2.2.1, fun ad e hx hm => ?_⟩
  rcases hs _ hm with h1 | h1
  · exact h.2.2.2 ad e hx h1
  · obtain ⟨ad', e', hat⟩ := h.2.2.1 hx
    rw [e] at e'
    obtain rfl := Option.some.inj e'
    have := hat.1
    omega
theorem SlF.same {α : Type} {F : List Nat} {w w' : World} {enc : α → List Value} {v : SlV} {xs : List α} (h : SlF F w enc v xs) (hs : w.heap.size ≤ w'.heap.size) (ho : ∀ k, k < w.heap.size → k ∉ F → w'.heap[k]? = w.heap[k]?) : SlF F w' enc v xs := by
  refine ⟨h.1, h.2.1, fun hx => ?_, h.2.2.2⟩
  obtain ⟨ad, e, hat⟩ := h.2.2.1 hx
  refine ⟨ad, e, Nat.lt_of_lt_of_le hat.1 hs, fun j u hj => ?_⟩
  have h1 := hat.2 j u hj
  rw [← h1]
  unfold World.cell?
  rw [block_of_add, ho ad.block hat.1 (h.2.2.2 ad e hx)]
theorem heap_setRow_other (w : World) (g k : Nat) (ds : Array Value) (h : k ≠ g) : (w.setRow g ds).heap[k]? = w.heap[k]? := by
  show (w.heap.modify g _)[k]? = _
  rw [Array.getElem?_modify, if_neg (fun e => h e.symm)]
theorem Below.setRow' {B : Nat} {a w : World} (h : Below B a w) {g : Nat} (hg : B ≤ g) (c : Array Value) : Below B a (w.setRow g c) :=
  ⟨h.os, h.tape, h.output, by have := h.size; simpa [World.setRow] using this, fun j hj => (heap_setRow_other w g j c (by omega)).trans (h.block j hj)⟩
theorem Below.setCell' {B : Nat} {a w : World} (h : Below B a w) {g : Nat} (hg : B ≤ g) (k : Nat) (v : Value) : Below B a (w.setCell ⟨g, k, none⟩ v) :=
  ⟨h.os, h.tape, h.output, by have := h.size; simpa [World.setCell] using this, fun j hj => (heap_set_other w g k v j (by omega)).trans (h.block j hj)⟩
theorem isOne.P (u : World) (a : Pt) (ty : TypeId) : isOne cA a (.slice (some ⟨u.heap.size, 0, none⟩) 1 1) (u.alloc (.cells (aAs [a]) ty)) := ⟨_, rfl, fun _ => ⟨_, rfl, at_new u _ ty _ rfl⟩⟩
/-- What a taker is. -/
structure Tk where
  win : Int
  opn : Bool
  act : List Pt
  kept : List Pt
/-- The reference's value says a taker. -/
structure RfAt (F : List Nat) (s : Tk) (r : Rt) (w : World) : Prop where
  win : r.win = s.win
  opn : r.opn = s.opn
  act : SlF F w cA r.act s.act
  kept : SlF F w cA r.kept s.kept
theorem RfAt.keep {F : List Nat} {s : Tk} {r : Rt} {w w' : World} (h : RfAt F s r w) (hb : Below w.heap.size w w') : RfAt F s r w' := ⟨h.win, h.opn, h.act.keep hb, h.kept.keep hb⟩
theorem RfAt.kp {F F' : List Nat} {s : Tk} {r : Rt} {w w' : World} (h : RfAt F s r w) (hk : Kp F F' w w') : RfAt F' s r w' := ⟨h.win, h.opn, h.act.kp hk, h.kept.kp hk⟩
theorem RfAt.sub {F F2 : List Nat} {s : Tk} {r : Rt} {w : World} (h : RfAt F s r w) (hs : ∀ k ∈ F2, k ∈ F) : RfAt F2 s r w := ⟨h.win, h.opn, h.act.sub hs, h.kept.sub hs⟩
theorem RfAt.new {F : List Nat} {s : Tk} {r : Rt} {w : World} (h : RfAt F s r w) (F2 : List Nat) (hs : ∀ k ∈ F2, k ∈ F ∨ w.heap.size ≤ k) : RfAt F2 s r w := ⟨h.win, h.opn, h.act.new F2 hs, h.kept.new F2 hs⟩
theorem RfAt.same {F : List Nat} {s : Tk} {r : Rt} {w w' : World} (h : RfAt F s r w) (hs : w.heap.size ≤ w'.heap.size) (ho : ∀ k, k < w.heap.size → k ∉ F → w'.heap[k]? = w.heap[k]?) : RfAt F s r w' := ⟨h.win, h.opn, h.act.same hs ho, h.kept.same hs ho⟩
theorem load_T {w : World} {b : Nat} {r : Rt} (h : Row w b (cT r) 60) : (loadVar 60 ⟨b, 0, none⟩).run Tryz.prog w = .ok (vT r) w :=
  run_loadVar_at w ⟨b, 0, none⟩ 60 (cT r) _ (h.at_ (k := 0) (n := 4) (by rw [List.drop_zero, List.take_of_length_le (by rw [cT_length]; omega)])) Tryz.underlying60 rfl (by rw [cT_length]; exact sizeRT)
end Go.Proofs.YtgojaelkdpabkaaGreatDoor
