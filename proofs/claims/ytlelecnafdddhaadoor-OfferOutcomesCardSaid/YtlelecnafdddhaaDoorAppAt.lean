/- Append that tells where it lies; a slice of the call's own beside a sender. -/
import Derived.Test.YtlelecnafdddhaaDoorDoX
import Derived.Maps.AppendAt
namespace Go.Proofs.YtlelecnafdddhaaDoor
open Go.RowKit
section
variable {P : Program} (w : World)
theorem wpList_append_slat {α : Type} {ops : Array Oper} {rest : List Oper} {o : Oper} {a : Act} {Q : Exit → Act → World → Prop} (hgd : o.guard = none) (sx x : Operand) (t : TypeId)
    (ho : o.op = .call { callee := .builtin .append, args := #[sx, x], argTypes := #[t, t] })
    (base : Nat) (e : TypeId) (s bytes : Nat) (enc : α → List Value) (ht : P.underlying t = some (.slice e)) (hi : (P.info? e).map (fun i => (i.zero.map (·.cells.size), i.size, i.bytes)) = some (some s, s, bytes)) (hsz : 0 < s)
    (hs : ∀ x, (enc x).length = s) (h1 : ∀ x, ∀ u ∈ enc x, u.oneCell' = true)
    (v : Value) (xs : List α) (hv : a.eval sx = v) (hown : Own w base e s enc v xs)
    (A : Option Addr) (m c : Nat) (ys : List α) (hm : ys.length = m) (hx : a.eval x = .slice A m c) (hsl : Sl w enc A ys)
    (hlen : (xs.length + m) * bytes ≤ 140737488355328) (hl2 : xs.length + m ≤ 9223372036854775807) (hbase : base ≤ w.heap.size)
    (h : ∀ v' w', Own w' base e s enc v' (xs ++ ys) → w.grownBy w' v.ownBlock → (v'.ownBlock = v.ownBlock ∨ v'.ownBlock = some w.heap.size) → wpList P ops Q rest (a.put o.dst v') w') : wpList P ops Q (o :: rest) a w := by
  subst hm
  refine wpList_plain hgd fun K hK => ?_
  cases hq : P.info? e with
  | none => rw [hq] at hi; cases hi
  | some i =>
    simp only [hq, Option.map_some, Option.some.injEq, Prod.mk.injEq] at hi
    obtain ⟨hz, hsi, hby⟩ := hi
    cases hz0 : i.zero with
    | none => rw [hz0] at hz; cases hz
    | some z =>
      simp only [hz0, Option.map_some, Option.some.injEq] at hz
      have hones : ∀ u ∈ ys.flatMap enc, u.oneCell' = true := by
        intro u hu
        obtain ⟨y, _, hy⟩ := List.mem_flatMap.1 hu
        exact h1 y u hy
      have fin : ∀ v' w', w'.ownsRow base e s v' (xs.length + ys.length) (xs.flatMap enc ++ ys.flatMap enc) → Own w' base e s enc v' (xs ++ ys) := by
        intro v' w' ho
        unfold Own
        rw [List.length_append, List.flatMap_append]
        exact ho
      by_cases hys : ys = []
      · subst hys
        have hrun : (Builtin.append_ #[t, t] o.type #[v, .slice A 0 c]).run P w = .ok v w := by
          rcases hown.2 with ⟨rfl, _⟩ | ⟨g, cap, cur, rfl, _, _, hnc, _⟩
          · cases A <;> simp [Builtin.append_, run_underlying ht, sizeOf, typeInfo, hq, Builtin.lenOf, Builtin.firstCells, loadCells, loadCellsFrom]
          · cases A <;> simp [Builtin.append_, run_underlying ht, sizeOf, typeInfo, hq, Builtin.lenOf, Builtin.firstCells, hnc, storeCells, loadCells, loadCellsFrom]
        unfold Oper.wp execOp
        simp only [ho, resolve, invoke, builtin, Sem.run_bind, Sem.run_pure, Result.andThen_ok, List.map_toArray, List.map_cons, List.map_nil, hv, hx, List.length_nil, hrun]
        exact hK _ _ (h v w (fin v w (by have := hown; unfold Own at this; simpa using this)) (World.grownBy.refl w _) (Or.inl rfl))
      · obtain ⟨ad, rfl, hat⟩ := hsl hys
        obtain ⟨v', w', hr, h2, h3, h4, h5⟩ := run_append_own_at (P := P) w base t o.type e i z s bytes ht hq hz0 hsi hby hz hsz v xs.length (xs.flatMap enc) hown ad ys.length c (ys.flatMap enc) (flatMap_length enc s hs ys) hat.2 hones (by unfold maxLen; omega) hlen hbase
        unfold Oper.wp execOp
        simp only [ho, resolve, invoke, builtin, Sem.run_bind, Sem.run_pure, Result.andThen_ok, List.map_toArray, List.map_cons, List.map_nil, hv, hx, hr]
        exact hK _ _ (h v' w' (fin v' w' h2) h3 h5)
end
/-- A sender, the reference's, rows beside, and a slice of identities of the call's own. -/
structure InvO (w0 : World) (b : Nat) (ch : Int) (s sr : St) (r : Rs) (L : List (Nat × List Value × TypeId)) (v : Value) (xs : List Id) (w : World) : Prop where
  inv : ∃ M, InvR w0 b ch s sr r (M ++ L) w ∧ ∀ k, v.ownBlock = some k → w0.heap.size ≤ k ∧ k ∉ L.map (·.1) ∧ ∃ cs, (k, cs, (40 : TypeId)) ∈ M
  own : Own w w0.heap.size 40 32 cI v xs
section
variable {w0 w w' : World} {b : Nat} {ch : Int} {s s' sr sr' : St} {r r' : Rs} {L L' : List (Nat × List Value × TypeId)} {v v' : Value} {xs ys : List Id}
theorem InvO.start (h : InvR w0 b ch s sr r L w) : InvO w0 b ch s sr r L (.slice none 0 0) [] w := ⟨⟨[], h, fun _ h => by cases h⟩, Own.nil _ _ _ _ _⟩
theorem InvO.base (h : InvO w0 b ch s sr r L v xs w) : InvR w0 b ch s sr r L w := by
  obtain ⟨M, h1, _⟩ := h.inv
  exact h1.sub fun x hx => List.mem_append_right _ hx
/-- What keeps the sender's rows keeps the slice. -/
theorem InvO.keep (h : InvO w0 b ch s sr r L v xs w) {C : (World → Prop) → Prop} (hm : ∀ {p q : World → Prop}, (∀ w, p w → q w) → C p → C q) (hc : ∀ M, InvR w0 b ch s sr r (M ++ L) w → C fun w' => InvR w0 b ch s' sr' r' (M ++ L) w') : C fun w' => InvO w0 b ch s' sr' r' L v xs w' := by
  obtain ⟨M, h1, h2⟩ := h.inv
  refine hm (fun w' h3 => ⟨⟨M, h3, h2⟩, h.own.same fun k hk => ?_⟩) (hc M h1)
  obtain ⟨_, _, cs, h4⟩ := h2 k hk
  exact (h3.row (List.mem_append_left _ h4)).trans (h1.row (List.mem_append_left _ h4)).symm
theorem InvO.step (h : InvO w0 b ch s sr r L v xs w) (hc : ∀ M, InvR w0 b ch s sr r (M ++ L) w → InvR w0 b ch s' sr' r' (M ++ L) w') : InvO w0 b ch s' sr' r' L v xs w' :=
  h.keep (C := fun p => p w') (fun hp hq => hp _ hq) hc
theorem InvO.below (h : InvO w0 b ch s sr r L v xs w) (hb : Below w.heap.size w w') : InvO w0 b ch s sr r L v xs w' := h.step fun _ hM => hM.below hb
/-- A call that turns the sender. -/
theorem InvO.calls {P : Program} {f : FuncId} {args : Array Value} {u : Value} (h : InvO w0 b ch s sr r L v xs w) (hc : ∀ M, InvR w0 b ch s sr r (M ++ L) w → Calls P f args w fun e w' => e = .returned u ∧ InvR w0 b ch s' sr' r' (M ++ L) w') : Calls P f args w fun e w' => e = .returned u ∧ InvO w0 b ch s' sr' r' L v xs w' := by
  obtain ⟨M, h1, h2⟩ := h.inv
  refine (hc M h1).mono ?_
  rintro e w' ⟨rfl, h3⟩
  refine ⟨rfl, ⟨M, h3, h2⟩, h.own.same fun k hk => ?_⟩
  obtain ⟨_, _, cs, h4⟩ := h2 k hk
  exact (h3.row (List.mem_append_left _ h4)).trans (h1.row (List.mem_append_left _ h4)).symm
theorem InvO.sub (h : InvO w0 b ch s sr r L v xs w) (hs : ∀ x ∈ L', x ∈ L) : InvO w0 b ch s sr r L' v xs w := by
  obtain ⟨M, h1, h2⟩ := h.inv
  refine ⟨⟨M, h1.sub fun x hx => ?_, fun k hk => ⟨(h2 k hk).1, fun hm => ?_, (h2 k hk).2.2⟩⟩, h.own⟩
  · rcases List.mem_append.1 hx with hx | hx
    · exact List.mem_append_left _ hx
    · exact List.mem_append_right _ (hs x hx)
  · obtain ⟨x, hx, rfl⟩ := List.mem_map.1 hm
    exact (h2 _ hk).2.1 (List.mem_map.2 ⟨x, hs x hx, rfl⟩)
theorem InvO.alloc (h : InvO w0 b ch s sr r L v xs w) (cs : List Value) (ty : TypeId) : InvO w0 b ch s sr r ((w.heap.size, cs, ty) :: L) v xs (w.alloc (.cells cs.toArray ty)) := by
  obtain ⟨M, h1, h2⟩ := h.inv
  have h3 := h1.alloc cs ty
  have hlt : ∀ k, v.ownBlock = some k → k < w.heap.size := fun k hk => by
    obtain ⟨_, _, cs, h4⟩ := h2 k hk
    exact h1.lts _ (List.mem_append_left _ h4)
  refine ⟨⟨M, h3.sub fun x hx => ?_, fun k hk => ⟨(h2 k hk).1, fun hm => ?_, (h2 k hk).2.2⟩⟩, h.own.keep (below_alloc _ _)⟩
  · rcases List.mem_append.1 hx with hx | hx
    · exact List.mem_cons_of_mem _ (List.mem_append_left _ hx)
    · rcases List.mem_cons.1 hx with rfl | hx
      · exact List.mem_cons_self
      · exact List.mem_cons_of_mem _ (List.mem_append_right _ hx)
  · rw [List.map_cons] at hm
    rcases List.mem_cons.1 hm with e | hm
    · have := hlt k hk
      omega
    · exact (h2 k hk).2.1 hm
/-- A row beside turns. -/
theorem InvO.turn {g : Nat} {cs ds : List Value} {ty : TypeId} (h : InvO w0 b ch s sr r ((g, cs, ty) :: L) v xs w) (hg : w0.heap.size ≤ g) (hne : ∀ x ∈ L, x.1 ≠ g) (ho : ∀ k, k ≠ g → w'.heap[k]? = w.heap[k]?) (hrow : Row w' g ds ty) (hsz : w'.heap.size = w.heap.size) (hos : w'.os = w.os ∧ w'.tape = w.tape ∧ w'.output = w.output) : InvO w0 b ch s sr r ((g, ds, ty) :: L) v xs w' := by
  obtain ⟨M, h1, h2⟩ := h.inv
  have hk : ∀ k, v.ownBlock = some k → k ≠ g := fun k hk e => (h2 k hk).2.1 (by rw [List.map_cons, e]; exact List.mem_cons_self)
  obtain ⟨M1, hM1⟩ : ∃ M1 : List (Nat × List Value × TypeId), M1 = M.filter (fun x => decide (x.1 ≠ g)) := ⟨_, rfl⟩
  have h3 : InvR w0 b ch s sr r ((g, cs, ty) :: (M1 ++ L)) w := h1.sub fun x hx => by
    rcases List.mem_cons.1 hx with rfl | hx
    · exact List.mem_append_right _ List.mem_cons_self
    · rcases List.mem_append.1 hx with hx | hx
      · rw [hM1] at hx
        exact List.mem_append_left _ (List.mem_filter.1 hx).1
      · exact List.mem_append_right _ (List.mem_cons_of_mem _ hx)
  have h4 := InvR.turn h3 hg (fun x hx => by
    rcases List.mem_append.1 hx with hx | hx
    · rw [hM1] at hx
      exact of_decide_eq_true (List.mem_filter.1 hx).2
    · exact hne x hx) ho hrow hsz hos
  refine ⟨⟨M1, h4.sub fun x hx => ?_, fun k hk2 => ⟨(h2 k hk2).1, (h2 k hk2).2.1, ?_⟩⟩, h.own.same fun k hk2 => ho k (hk k hk2)⟩
  · rcases List.mem_append.1 hx with hx | hx
    · exact List.mem_cons_of_mem _ (List.mem_append_left _ hx)
    · rcases List.mem_cons.1 hx with rfl | hx
      · exact List.mem_cons_self
      · exact List.mem_cons_of_mem _ (List.mem_append_right _ hx)
  · obtain ⟨_, _, cs2, h5⟩ := h2 k hk2
    exact ⟨cs2, by rw [hM1]; exact List.mem_filter.2 ⟨h5, decide_eq_true (hk k hk2)⟩⟩
theorem InvO.setRow {g : Nat} {cs : List Value} {ty : TypeId} (h : InvO w0 b ch s sr r ((g, cs, ty) :: L) v xs w) (hg : w0.heap.size ≤ g) (hne : ∀ x ∈ L, x.1 ≠ g) (ds : List Value) : InvO w0 b ch s sr r ((g, ds, ty) :: L) v xs (w.setRow g ds.toArray) :=
  h.turn hg hne (fun k hk => heap_setRow_other w g k _ hk) (h.base.row List.mem_cons_self).setRow (by simp [World.setRow]) ⟨rfl, rfl, rfl⟩
/-- The slice grows. -/
theorem InvO.grow (h : InvO w0 b ch s sr r L v xs w) (ho : Own w' w0.heap.size 40 32 cI v' ys) (hg : w.grownBy w' v.ownBlock) (hat : v'.ownBlock = v.ownBlock ∨ v'.ownBlock = some w.heap.size) : InvO w0 b ch s sr r L v' ys w' := by
  obtain ⟨M, hI, h2⟩ := h.inv
  obtain ⟨F, f1, f2, f3, f4⟩ := hI.rep
  have hoF : ∀ k ∈ F, some k ≠ v.ownBlock := fun k hk e => by
    obtain ⟨_, _, cs, h5⟩ := h2 k e.symm
    exact (f3 _ (List.mem_append_left _ h5)).2 hk
  have hsame : ∀ k, k < w.heap.size → some k ≠ v.ownBlock → w'.heap[k]? = w.heap[k]? := hg.block
  have hbel : Below w0.heap.size w0 w' := ⟨hg.os.trans hI.bel.os, hg.tape.trans hI.bel.tape, hg.output.trans hI.bel.output, Nat.le_trans hI.bel.size hg.size, fun k hk => (hsame k (Nat.lt_of_lt_of_le hk hI.bel.size) (fun e => by have := (h2 k e.symm).1; omega)).trans (hI.bel.block k hk)⟩
  have hLs : ∀ x ∈ L, Row w' x.1 x.2.1 x.2.2 ∧ x.1 ∉ F := fun x hx => by
    obtain ⟨r1, r2⟩ := f3 x (List.mem_append_right _ hx)
    exact ⟨r1.same (hsame x.1 r1.lt (fun e => (h2 x.1 e.symm).2.1 (List.mem_map.2 ⟨x, hx, rfl⟩))), r2⟩
  have hrep : Rep b ch s F w' := by
    obtain ⟨vw, vo, q, hr⟩ := f1
    exact ⟨vw, vo, q, hr.same fun k hk => hsame k (f2 k hk).2 (hoF k hk)⟩
  -- the reference's lists
  have href : ∀ G : List Nat, (∀ k ∈ G, k ∈ F ++ (M ++ L).map (·.1) ∨ w.heap.size ≤ k) → RefAt G ch sr r w' := fun G hG => by
    have a1 : RefAt (F ++ (M ++ L).map (·.1)) ch sr r w' := RefAt.same f4 hg.size fun k hk hm => hsame k hk (fun e => hm (by
      obtain ⟨_, _, cs, h5⟩ := h2 k e.symm
      exact List.mem_append_right _ (List.mem_map.2 ⟨_, List.mem_append_left _ h5, rfl⟩)))
    have a2 := f4.new ((F ++ (M ++ L).map (·.1)) ++ G) (fun k hk => by
      rcases List.mem_append.1 hk with hk | hk
      · exact Or.inl hk
      · exact hG k hk)
    have a3 : RefAt ((F ++ (M ++ L).map (·.1)) ++ G) ch sr r w' := RefAt.same a2 hg.size fun k hk hm => hsame k hk (fun e => hm (List.mem_append_left _ (by
      obtain ⟨_, _, cs, h5⟩ := h2 k e.symm
      exact List.mem_append_right _ (List.mem_map.2 ⟨_, List.mem_append_left _ h5, rfl⟩))))
    exact a3.sub fun k hk => List.mem_append_right _ hk
  rcases ho.2 with ⟨rfl, _⟩ | ⟨g, cap, cur, rfl, hgb, hcur, _⟩
  · refine ⟨⟨[], ⟨hbel, F, hrep, fun k hk => ⟨(f2 k hk).1, Nat.lt_of_lt_of_le (f2 k hk).2 hg.size⟩, hLs, href _ fun k hk => ?_⟩, fun _ e => by cases e⟩, ho⟩
    rcases List.mem_append.1 hk with hk | hk
    · exact Or.inl (List.mem_append_left _ hk)
    · exact Or.inl (List.mem_append_right _ (by rw [List.map_append]; exact List.mem_append_right _ hk))
  · have hrow : Row w' g cur.toList 40 := by unfold Row; rw [hcur]
    have hgF : g ∉ F := fun hm => by
      rcases hat with e | e
      · exact hoF g hm e
      · have e2 : g = w.heap.size := Option.some.inj e
        have := (f2 g hm).2
        omega
    have hgL : g ∉ L.map (·.1) := fun hm => by
      rcases hat with e | e
      · exact (h2 g e.symm).2.1 hm
      · have e2 : g = w.heap.size := Option.some.inj e
        obtain ⟨x, hx, e3⟩ := List.mem_map.1 hm
        have := hI.lts x (List.mem_append_right _ hx)
        omega
    refine ⟨⟨[(g, cur.toList, 40)], ⟨hbel, F, hrep, fun k hk => ⟨(f2 k hk).1, Nat.lt_of_lt_of_le (f2 k hk).2 hg.size⟩, fun x hx => ?_, href _ fun k hk => ?_⟩, fun k e => ?_⟩, ho⟩
    · rcases List.mem_cons.1 hx with rfl | hx
      · exact ⟨hrow, hgF⟩
      · exact hLs x hx
    · rcases List.mem_append.1 hk with hk | hk
      · exact Or.inl (List.mem_append_left _ hk)
      · rw [List.cons_append, List.nil_append, List.map_cons] at hk
        rcases List.mem_cons.1 hk with rfl | hk
        · rcases hat with e | e
          · left
            obtain ⟨_, _, cs, h5⟩ := h2 k e.symm
            exact List.mem_append_right _ (List.mem_map.2 ⟨_, List.mem_append_left _ h5, rfl⟩)
          · have e2 : k = w.heap.size := Option.some.inj e
            exact Or.inr (by omega)
        · exact Or.inl (List.mem_append_right _ (by rw [List.map_append]; exact List.mem_append_right _ hk))
    · obtain rfl : g = k := Option.some.inj e
      exact ⟨hgb, hgL, cur.toList, List.mem_singleton.2 rfl⟩
end
end Go.Proofs.YtlelecnafdddhaaDoor
