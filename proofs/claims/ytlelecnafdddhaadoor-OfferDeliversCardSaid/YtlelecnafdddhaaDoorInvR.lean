/- A sender and the reference's sender together, in the making of a walk; Of. -/
import Derived.Test.YtlelecnafdddhaaDoorRefD
namespace Go.Proofs.YtlelecnafdddhaaDoor
open Go.RowKit
theorem SlF.sub {α : Type} {F F2 : List Nat} {w : World} {enc : α → List Value} {v : SlV} {xs : List α} (h : SlF F w enc v xs) (hs : ∀ k ∈ F2, k ∈ F) : SlF F2 w enc v xs := ⟨h.1, h.2.1, h.2.2.1, fun ad e hx hm => h.2.2.2 ad e hx (hs _ hm)⟩
theorem RefAt.sub {F F2 : List Nat} {ch : Int} {s : St} {r : Rs} {w : World} (h : RefAt F ch s r w) (hs : ∀ k ∈ F2, k ∈ F) : RefAt F2 ch s r w := ⟨h.ch, h.st, h.cur, h.at_, h.ws.sub hs, h.os.sub hs⟩
theorem Kp.app {F F' : List Nat} {w w' : World} (h : Kp F F' w w') (G : List Nat) : Kp (F ++ G) (F' ++ G) w w' :=
  ⟨h.os, h.tape, h.output, h.size, fun k hk hm => by
    obtain ⟨h1, h2⟩ := h.out k hk (fun e => hm (List.mem_append_left _ e))
    exact ⟨fun e => (List.mem_append.1 e).elim h1 (fun e => hm (List.mem_append_right _ e)), h2⟩⟩
theorem SlF.new {α : Type} {F : List Nat} {w : World} {enc : α → List Value} {v : SlV} {xs : List α} (h : SlF F w enc v xs) (F2 : List Nat) (hs : ∀ k ∈ F2, k ∈ F ∨ w.heap.size ≤ k) : SlF F2 w enc v xs := by
  refine ⟨h.1, h.2.1, h.2.2.1, fun ad e hx hm => ?_⟩
  rcases hs _ hm with h1 | h1
  · exact h.2.2.2 ad e hx h1
  · obtain ⟨ad', e', hat⟩ := h.2.2.1 hx
    rw [e] at e'
    obtain rfl := Option.some.inj e'
    have := hat.1
    omega
theorem RefAt.new {F : List Nat} {ch : Int} {s : St} {r : Rs} {w : World} (h : RefAt F ch s r w) (F2 : List Nat) (hs : ∀ k ∈ F2, k ∈ F ∨ w.heap.size ≤ k) : RefAt F2 ch s r w := ⟨h.ch, h.st, h.cur, h.at_, h.ws.new F2 hs, h.os.new F2 hs⟩
/-- What does not turn a block outside a footprint keeps the reference's lists. -/
theorem RefAt.same {F : List Nat} {ch : Int} {s : St} {r : Rs} {w w' : World} (h : RefAt F ch s r w) (hs : w.heap.size ≤ w'.heap.size) (ho : ∀ k, k < w.heap.size → k ∉ F → w'.heap[k]? = w.heap[k]?) : RefAt F ch s r w' := by
  have hk : ∀ {α : Type} {enc : α → List Value} {v : SlV} {xs : List α}, SlF F w enc v xs → SlF F w' enc v xs := fun h => by
    refine ⟨h.1, h.2.1, fun hx => ?_, h.2.2.2⟩
    obtain ⟨ad, e, hat⟩ := h.2.2.1 hx
    refine ⟨ad, e, Nat.lt_of_lt_of_le hat.1 hs, fun j u hj => ?_⟩
    have h1 := hat.2 j u hj
    rw [← h1]
    unfold World.cell?
    rw [block_of_add, ho ad.block hat.1 (h.2.2.2 ad e hx)]
  exact ⟨h.ch, h.st, h.cur, h.at_, hk h.ws, hk h.os⟩
structure InvR (w0 : World) (b : Nat) (ch : Int) (s sr : St) (r : Rs) (L : List (Nat × List Value × TypeId)) (w : World) : Prop where
  bel : Below w0.heap.size w0 w
  rep : ∃ F, Rep b ch s F w ∧ (∀ k ∈ F, w0.heap.size ≤ k ∧ k < w.heap.size) ∧ (∀ x ∈ L, Row w x.1 x.2.1 x.2.2 ∧ x.1 ∉ F) ∧ RefAt (F ++ L.map (·.1)) ch sr r w
section
variable {w0 w w' : World} {b : Nat} {ch : Int} {s s' sr sr' : St} {r : Rs} {L L' : List (Nat × List Value × TypeId)} {P : Program} {f : FuncId} {args : Array Value} {v : Value}
theorem InvR.inv (h : InvR w0 b ch s sr r L w) : Inv w0 b ch s L w := by
  obtain ⟨F, h1, h2, h3, _⟩ := h.rep
  exact ⟨h.bel, F, h1, h2, h3⟩
theorem InvR.of {F F' : List Nat} (hb : Below w0.heap.size w0 w) (hF : ∀ k ∈ F, w0.heap.size ≤ k) (hL : ∀ x ∈ L, Row w x.1 x.2.1 x.2.2 ∧ x.1 ∉ F) (ha : RefAt (F ++ L.map (·.1)) ch sr r w) (hr : Rep b ch s' F' w') (hk : Kp F F' w w') : InvR w0 b ch s' sr r L w' := by
  obtain ⟨F2, h1, h2⟩ := hr.trim
  refine ⟨⟨hk.os.trans hb.os, hk.tape.trans hb.tape, hk.output.trans hb.output, Nat.le_trans hb.size hk.size, fun k h => ?_⟩, F2, h1, fun k h => ⟨?_, (h2 k h).2⟩, fun x hx => ?_, (ha.kp (hk.app _)).sub fun k h => (List.mem_append.1 h).elim (fun h => List.mem_append_left _ (h2 k h).1) (fun h => List.mem_append_right _ h)⟩
  · exact (hk.out k (Nat.lt_of_lt_of_le h hb.size) (fun e => by have := hF k e; omega)).2.trans (hb.block k h)
  · rcases Nat.lt_or_ge k w0.heap.size with h3 | h3
    · exact absurd (h2 k h).1 (hk.out k (Nat.lt_of_lt_of_le h3 hb.size) (fun e => by have := hF k e; omega)).1
    · exact h3
  · obtain ⟨h3, h4⟩ := hk.out x.1 (hL x hx).1.lt (hL x hx).2
    exact ⟨(hL x hx).1.same h4, fun e => h3 (h2 _ e).1⟩
theorem InvR.call (h : InvR w0 b ch s sr r L w) (hc : ∀ F, Rep b ch s F w → Calls P f args w fun e w' => e = .returned v ∧ ∃ F', Rep b ch s' F' w' ∧ Kp F F' w w') : Calls P f args w fun e w' => e = .returned v ∧ InvR w0 b ch s' sr r L w' := by
  obtain ⟨F, h1, h2, h3, h4⟩ := h.rep
  refine (hc F h1).mono ?_
  rintro e w' ⟨rfl, F', h5, h6⟩
  exact ⟨rfl, InvR.of h.bel (fun k hk => (h2 k hk).1) h3 h4 h5 h6⟩
theorem InvR.below (h : InvR w0 b ch s sr r L w) (hb : Below w.heap.size w w') : InvR w0 b ch s sr r L w' := by
  obtain ⟨F, h1, h2, h3, h4⟩ := h.rep
  exact InvR.of h.bel (fun k hk => (h2 k hk).1) h3 h4 (h1.keep hb) (Kp.of_below hb)
theorem InvR.alloc (h : InvR w0 b ch s sr r L w) (cs : List Value) (ty : TypeId) : InvR w0 b ch s sr r ((w.heap.size, cs, ty) :: L) (w.alloc (.cells cs.toArray ty)) := by
  obtain ⟨F, h1, h2, h3, h4⟩ := h.rep
  refine ⟨(h.bel.alloc h.bel.size _), F, h1.keep (below_alloc _ _), fun k hk => ⟨(h2 k hk).1, Nat.lt_of_lt_of_le (h2 k hk).2 (below_alloc w _).size⟩, fun x hx => ?_, (h4.new _ fun k hk => ?_).keep (below_alloc _ _)⟩
  · rcases List.mem_cons.1 hx with rfl | hx
    · exact ⟨Row.new w cs ty, fun e => Nat.lt_irrefl _ (h2 _ e).2⟩
    · exact ⟨(h3 x hx).1.keep (below_alloc _ _), (h3 x hx).2⟩
  · rcases List.mem_append.1 hk with hk | hk
    · exact Or.inl (List.mem_append_left _ hk)
    · rw [List.map_cons] at hk
      rcases List.mem_cons.1 hk with rfl | hk
      · exact Or.inr (Nat.le_refl _)
      · exact Or.inl (List.mem_append_right _ hk)
theorem InvR.sub (h : InvR w0 b ch s sr r L w) (hs : ∀ x ∈ L', x ∈ L) : InvR w0 b ch s sr r L' w := by
  obtain ⟨F, h1, h2, h3, h4⟩ := h.rep
  refine ⟨h.bel, F, h1, h2, fun x hx => h3 x (hs x hx), h4.sub fun k hk => ?_⟩
  rcases List.mem_append.1 hk with hk | hk
  · exact List.mem_append_left _ hk
  · obtain ⟨x, hx, rfl⟩ := List.mem_map.1 hk
    exact List.mem_append_right _ (List.mem_map.2 ⟨x, hs x hx, rfl⟩)
theorem InvR.row (h : InvR w0 b ch s sr r L w) {g : Nat} {cs : List Value} {ty : TypeId} (hx : (g, cs, ty) ∈ L) : Row w g cs ty := by
  obtain ⟨F, _, _, h3, _⟩ := h.rep
  exact (h3 _ hx).1
/-- A call of the reference. -/
theorem InvR.ref {val : Rs → Value} (h : InvR w0 b ch s sr r L w) (hc : ∀ F, (∀ k ∈ F, k < w.heap.size) → RefAt F ch sr r w → Calls P f args w fun e w' => ∃ r', e = .returned (val r') ∧ RefAt F ch sr' r' w' ∧ Below w.heap.size w w') : Calls P f args w fun e w' => ∃ r', e = .returned (val r') ∧ InvR w0 b ch s sr' r' L w' := by
  obtain ⟨F, h1, h2, h3, h4⟩ := h.rep
  refine (hc (F ++ L.map (·.1)) (fun k hk => ?_) h4).mono ?_
  · rcases List.mem_append.1 hk with hk | hk
    · exact (h2 k hk).2
    · obtain ⟨x, hx, rfl⟩ := List.mem_map.1 hk
      exact (h3 x hx).1.lt
  · rintro e w' ⟨r', rfl, h5, hb⟩
    exact ⟨r', rfl, InvR.of (w := w') (Below.step h.bel hb) (fun k hk => (h2 k hk).1) (fun x hx => ⟨(h3 x hx).1.keep hb, (h3 x hx).2⟩) h5 (h1.keep hb) (Kp.refl F w')⟩
/-- A store into a row beside the sender. -/
theorem InvR.setRow {g : Nat} {cs : List Value} {ty : TypeId} (h : InvR w0 b ch s sr r ((g, cs, ty) :: L) w) (hg : w0.heap.size ≤ g) (hne : ∀ x ∈ L, x.1 ≠ g) (ds : List Value) : InvR w0 b ch s sr r ((g, ds, ty) :: L) (w.setRow g ds.toArray) := by
  obtain ⟨F, h1, h2, h3, h4⟩ := h.rep
  have hgF : g ∉ F := (h3 (g, cs, ty) List.mem_cons_self).2
  have ho : ∀ k, k ≠ g → (w.setRow g ds.toArray).heap[k]? = w.heap[k]? := fun k hk => heap_setRow_other w g k _ hk
  have hsz : (w.setRow g ds.toArray).heap.size = w.heap.size := by simp [World.setRow]
  refine ⟨Below.setRow' h.bel hg _, F, ?_, fun k hk => by rw [hsz]; exact h2 k hk, fun x hx => ?_, ?_⟩
  · obtain ⟨vw, vo, q, h⟩ := h1
    exact ⟨vw, vo, q, h.same fun k hk => ho k (fun e => hgF (e ▸ hk))⟩
  · rcases List.mem_cons.1 hx with rfl | hx
    · exact ⟨(h3 (g, cs, ty) List.mem_cons_self).1.setRow, hgF⟩
    · exact ⟨(h3 x (List.mem_cons_of_mem _ hx)).1.same (ho _ (hne x hx)), (h3 x (List.mem_cons_of_mem _ hx)).2⟩
  · exact RefAt.same h4 (Nat.le_of_eq hsz.symm) fun k _ hk => ho k (fun e => hk (by rw [e]; exact List.mem_append_right _ List.mem_cons_self))
end

/-- A command of the implementation as one of the reference. -/
def ofS (c : Cm) : Rc := ⟨c.verb, c.size, c.from_, c.code, c.id, c.text⟩
set_option maxRecDepth 100000 in
set_option maxHeartbeats 800000 in
theorem of44 (c : Cm) (w : World) : Calls Tryd.prog 44 #[vC c] w fun e w' => e = .returned (vK (ofS c)) ∧ Below w.heap.size w w' := by
  go_enter Tryd.func44, Tryd.ntmps44
  go_wp2
  have h := Row.new (w.alloc (.cells (aC c) 45)) (cK (ofS c)) 55
  rw [show (w.alloc (.cells (aC c) 45)).heap.size = w.heap.size + 1 by simp] at h
  exact bodyPost_ret (v := vK (ofS c)) (results_c1 (ad := ⟨w.heap.size + 1, 0, none⟩) rfl rfl (load_K h)) rfl ⟨rfl, Below.step (below_alloc w _) (below_alloc _ _)⟩
end Go.Proofs.YtlelecnafdddhaaDoor
