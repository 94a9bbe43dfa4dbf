/- A sender and the reference's beside others of the reference's: the operations again. -/
import Derived.Test.YtlelecnafdddhaaDoorCl
namespace Go.Proofs.YtlelecnafdddhaaDoor
namespace K
open Go.RowKit
/-- The first world, and what of the reference's lies beside. -/
structure BW extends World where
  rl : List (St × Rs)
instance : Coe BW World := ⟨BW.toWorld⟩
structure RefA (F : List Nat) (ch : Int) (rl : List (St × Rs)) (s : St) (r : Rs) (w : World) : Prop where
  main : RefAt F ch s r w
  oth : ∀ y ∈ rl, RefAt F ch y.1 y.2 w
section
variable {F F2 F' : List Nat} {ch : Int} {rl : List (St × Rs)} {s : St} {r : Rs} {w w' : World}
theorem RefA.keep (h : RefA F ch rl s r w) (hb : Below w.heap.size w w') : RefA F ch rl s r w' := ⟨h.main.keep hb, fun y hy => (h.oth y hy).keep hb⟩
theorem RefA.kp (h : RefA F ch rl s r w) (hk : Kp F F' w w') : RefA F' ch rl s r w' := ⟨h.main.kp hk, fun y hy => (h.oth y hy).kp hk⟩
theorem RefA.sub (h : RefA F ch rl s r w) (hs : ∀ k ∈ F2, k ∈ F) : RefA F2 ch rl s r w := ⟨h.main.sub hs, fun y hy => (h.oth y hy).sub hs⟩
theorem RefA.new (h : RefA F ch rl s r w) (F2 : List Nat) (hs : ∀ k ∈ F2, k ∈ F ∨ w.heap.size ≤ k) : RefA F2 ch rl s r w := ⟨h.main.new F2 hs, fun y hy => (h.oth y hy).new F2 hs⟩
theorem RefA.same (h : RefA F ch rl s r w) (hs : w.heap.size ≤ w'.heap.size) (ho : ∀ k, k < w.heap.size → k ∉ F → w'.heap[k]? = w.heap[k]?) : RefA F ch rl s r w' := ⟨RefAt.same h.main hs ho, fun y hy => RefAt.same (h.oth y hy) hs ho⟩
end
structure InvR (w0 : BW) (b : Nat) (ch : Int) (s sr : St) (r : Rs) (L : List (Nat × List Value × TypeId)) (w : World) : Prop where
  bel : Below w0.heap.size w0 w
  rep : ∃ F, Rep b ch s F w ∧ (∀ k ∈ F, w0.heap.size ≤ k ∧ k < w.heap.size) ∧ (∀ x ∈ L, Row w x.1 x.2.1 x.2.2 ∧ x.1 ∉ F) ∧ RefA (F ++ L.map (·.1)) ch w0.rl sr r w
section
variable {w0 : BW} {w w' : World} {b : Nat} {ch : Int} {s s' sr sr' : St} {r : Rs} {L L' : List (Nat × List Value × TypeId)} {P : Program} {f : FuncId} {args : Array Value} {v : Value}
theorem InvR.of {F F' : List Nat} (hb : Below w0.heap.size w0 w) (hF : ∀ k ∈ F, w0.heap.size ≤ k) (hL : ∀ x ∈ L, Row w x.1 x.2.1 x.2.2 ∧ x.1 ∉ F) (ha : RefA (F ++ L.map (·.1)) ch w0.rl sr r w) (hr : Rep b ch s' F' w') (hk : Kp F F' w w') : InvR w0 b ch s' sr r L w' := by
  obtain ⟨F2, h1, h2⟩ := hr.trim
  refine ⟨⟨hk.os.trans hb.os, hk.tape.trans hb.tape, hk.output.trans hb.output, Nat.le_trans hb.size hk.size, fun k h => ?_⟩, F2, h1, fun k h => ⟨?_, (h2 k h).2⟩, fun x hx => ?_, (ha.kp (hk.app _)).sub fun k h => (List.mem_append.1 h).elim (fun h => List.mem_append_left _ (h2 k h).1) (fun h => List.mem_append_right _ h)⟩
  · exact (hk.out k (Nat.lt_of_lt_of_le h hb.size) (fun e => by have := hF k e; omega)).2.trans (hb.block k h)
  · rcases Nat.lt_or_ge k w0.heap.size with h3 | h3
    · exact absurd (h2 k h).1 (hk.out k (Nat.lt_of_lt_of_le h3 hb.size) (fun e => by have := hF k e; omega)).1
    · exact h3
  · obtain ⟨h3, h4⟩ := hk.out x.1 (hL x hx).1.lt (hL x hx).2
    exact ⟨(hL x hx).1.same h4, fun e => h3 (h2 _ e).1⟩
theorem InvR.call (h : InvR w0 b ch s sr r L w) (hc : ∀ F, Rep b ch s F w → Calls P f args w fun e w' => e = .returned v ∧ ∃ F', Rep b ch s' F' w' ∧ Kp F F' w w') : Calls P f args w fun e w' => e = .returned v ∧ InvR w0 b ch s' sr r L w' := by
  obtain ⟨F, h1, h2, h3, h4⟩ := h.rep
  refine (hc F h1).mono ?_
  rintro e w' ⟨rfl, F', h5, h6⟩
  exact ⟨rfl, InvR.of h.bel (fun k hk => (h2 k hk).1) h3 h4 h5 h6⟩
theorem InvR.below (h : InvR w0 b ch s sr r L w) (hb : Below w.heap.size w w') : InvR w0 b ch s sr r L w' := by
  obtain ⟨F, h1, h2, h3, h4⟩ := h.rep
  exact InvR.of h.bel (fun k hk => (h2 k hk).1) h3 h4 (h1.keep hb) (Kp.of_below hb)
theorem InvR.alloc (h : InvR w0 b ch s sr r L w) (cs : List Value) (ty : TypeId) : InvR w0 b ch s sr r ((w.heap.size, cs, ty) :: L) (w.alloc (.cells cs.toArray ty)) := by
  obtain ⟨F, h1, h2, h3, h4⟩ := h.rep
  refine ⟨(h.bel.alloc h.bel.size _), F, h1.keep (below_alloc _ _), fun k hk => ⟨(h2 k hk).1, Nat.lt_of_lt_of_le (h2 k hk).2 (below_alloc w _).size⟩, fun x hx => ?_, (h4.new _ fun k hk => ?_).keep (below_alloc _ _)⟩
  · rcases List.mem_cons.1 hx with rfl | hx
    · exact ⟨Row.new w cs ty, fun e => Nat.lt_irrefl _ (h2 _ e).2⟩
    · exact ⟨(h3 x hx).1.keep (below_alloc _ _), (h3 x hx).2⟩
  · rcases List.mem_append.1 hk with hk | hk
    · exact Or.inl (List.mem_append_left _ hk)
    · rw [List.map_cons] at hk
      rcases List.mem_cons.1 hk with rfl | hk
      · exact Or.inr (Nat.le_refl _)
      · exact Or.inl (List.mem_append_right _ hk)
theorem InvR.sub (h : InvR w0 b ch s sr r L w) (hs : ∀ x ∈ L', x ∈ L) : InvR w0 b ch s sr r L' w := by
  obtain ⟨F, h1, h2, h3, h4⟩ := h.rep
  refine ⟨h.bel, F, h1, h2, fun x hx => h3 x (hs x hx), h4.sub fun k hk => ?_⟩
  rcases List.mem_append.1 hk with hk | hk
  · exact List.mem_append_left _ hk
  · obtain ⟨x, hx, rfl⟩ := List.mem_map.1 hk
    exact List.mem_append_right _ (List.mem_map.2 ⟨x, hs x hx, rfl⟩)
theorem InvR.row (h : InvR w0 b ch s sr r L w) {g : Nat} {cs : List Value} {ty : TypeId} (hx : (g, cs, ty) ∈ L) : Row w g cs ty := by
  obtain ⟨F, _, _, h3, _⟩ := h.rep
  exact (h3 _ hx).1
/-- A call of the reference. -/
theorem InvR.ref {val : Rs → Value} (h : InvR w0 b ch s sr r L w) (hc : ∀ F, (∀ k ∈ F, k < w.heap.size) → RefAt F ch sr r w → Calls P f args w fun e w' => ∃ r', e = .returned (val r') ∧ RefAt F ch sr' r' w' ∧ Below w.heap.size w w') : Calls P f args w fun e w' => ∃ r', e = .returned (val r') ∧ InvR w0 b ch s sr' r' L w' := by
  obtain ⟨F, h1, h2, h3, h4⟩ := h.rep
  refine (hc (F ++ L.map (·.1)) (fun k hk => ?_) h4.main).mono ?_
  · rcases List.mem_append.1 hk with hk | hk
    · exact (h2 k hk).2
    · obtain ⟨x, hx, rfl⟩ := List.mem_map.1 hk
      exact (h3 x hx).1.lt
  · rintro e w' ⟨r', rfl, h5, hb⟩
    exact ⟨r', rfl, InvR.of (w := w') (Below.step h.bel hb) (fun k hk => (h2 k hk).1) (fun x hx => ⟨(h3 x hx).1.keep hb, (h3 x hx).2⟩) ⟨h5, fun y hy => (h4.oth y hy).keep hb⟩ (h1.keep hb) (Kp.refl F w')⟩
/-- A store into a row beside the sender. -/
theorem InvR.setRow {g : Nat} {cs : List Value} {ty : TypeId} (h : InvR w0 b ch s sr r ((g, cs, ty) :: L) w) (hg : w0.heap.size ≤ g) (hne : ∀ x ∈ L, x.1 ≠ g) (ds : List Value) : InvR w0 b ch s sr r ((g, ds, ty) :: L) (w.setRow g ds.toArray) := by
  obtain ⟨F, h1, h2, h3, h4⟩ := h.rep
  have hgF : g ∉ F := (h3 (g, cs, ty) List.mem_cons_self).2
  have ho : ∀ k, k ≠ g → (w.setRow g ds.toArray).heap[k]? = w.heap[k]? := fun k hk => heap_setRow_other w g k _ hk
  have hsz : (w.setRow g ds.toArray).heap.size = w.heap.size := by simp [World.setRow]
  refine ⟨Below.setRow' h.bel hg _, F, ?_, fun k hk => by rw [hsz]; exact h2 k hk, fun x hx => ?_, ?_⟩
  · obtain ⟨vw, vo, q, h⟩ := h1
    exact ⟨vw, vo, q, h.same fun k hk => ho k (fun e => hgF (e ▸ hk))⟩
  · rcases List.mem_cons.1 hx with rfl | hx
    · exact ⟨(h3 (g, cs, ty) List.mem_cons_self).1.setRow, hgF⟩
    · exact ⟨(h3 x (List.mem_cons_of_mem _ hx)).1.same (ho _ (hne x hx)), (h3 x (List.mem_cons_of_mem _ hx)).2⟩
  · exact RefA.same h4 (Nat.le_of_eq hsz.symm) fun k _ hk => ho k (fun e => hk (by rw [e]; exact List.mem_append_right _ List.mem_cons_self))
end


theorem InvR.lts {w0 : BW} {w : World} {b : Nat} {ch : Int} {s sr : St} {r : Rs} {L : List (Nat × List Value × TypeId)} (h : InvR w0 b ch s sr r L w) : ∀ x ∈ L, x.1 < w.heap.size := fun x hx => by
  obtain ⟨F, _, _, h3, _⟩ := h.rep
  exact (h3 x hx).1.lt
/-- The rows that do lays for itself. -/
def doL (g : Nat) (r : Rs) (x : Rop) (z : Rs) (L : List (Nat × List Value × TypeId)) : List (Nat × List Value × TypeId) := (g + 1 + 1, cR z, 32) :: (g + 1, cQ x, 57) :: (g, cR r, 32) :: L
theorem InvR.enterDo {w0 : BW} {w : World} {b : Nat} {ch : Int} {s sr : St} {r : Rs} {L : List (Nat × List Value × TypeId)} (h : InvR w0 b ch s sr r L w) (x : Rop) : InvR w0 b ch s sr r (doL w.heap.size r x zR L) (((w.alloc (.cells (aR r) 32)).alloc (.cells (aQ x) 57)).alloc (.cells (aR zR) 32)) := by
  have h3 := ((h.alloc (cR r) 32).alloc (cQ x) 57).alloc (cR zR) 32
  rw [show ((w.alloc (.cells (cR r).toArray 32)).alloc (.cells (cQ x).toArray 57)).heap.size = w.heap.size + 1 + 1 by simp, show (w.alloc (.cells (cR r).toArray 32)).heap.size = w.heap.size + 1 by simp] at h3
  exact h3
/-- The result that do stores. -/
theorem InvR.leaveDo {w0 : BW} {w W : World} {b : Nat} {ch : Int} {s sr : St} {r r' z : Rs} {x : Rop} {L : List (Nat × List Value × TypeId)} {g : Nat} (h : InvR w0 b ch s sr r' (doL g r x z L) w) (hg : w0.heap.size ≤ g) (hL : ∀ y ∈ L, y.1 < g) (hW : W = w.setRow (g + 1 + 1) (aR r')) : Row W (g + 1 + 1) (cR r') 32 ∧ InvR w0 b ch s sr r' L W := by
  subst hW
  have h2 := InvR.setRow (g := g + 1 + 1) (cs := cR z) (ty := 32) h (by omega) (fun y hy => by
    rcases List.mem_cons.1 hy with rfl | hy
    · show g + 1 ≠ g + 1 + 1; omega
    · rcases List.mem_cons.1 hy with rfl | hy
      · show g ≠ g + 1 + 1; omega
      · have := hL y hy; omega) (cR r')
  exact ⟨h2.row List.mem_cons_self, h2.sub fun y hy => List.mem_cons_of_mem _ (List.mem_cons_of_mem _ (List.mem_cons_of_mem _ hy))⟩
def DoP (w0 : BW) (b : Nat) (ch : Int) (s sr : St) (ok : Bool) (L : List (Nat × List Value × TypeId)) : Ending → World → Prop := fun e w' => ∃ r', e = .returned (.tuple #[vR r', .bool ok]) ∧ InvR w0 b ch s sr r' L w'
set_option maxRecDepth 100000 in
set_option maxHeartbeats 3200000 in
theorem do22_drop (w0 : BW) (b : Nat) (ch : Int) (s sr : St) (r : Rs) (x : Rop) (L : List (Nat × List Value × TypeId)) (w : World) (h : InvR w0 b ch s sr r L w) (g : Good ch s) (gr : Good ch sr) (hk : (x.kind.toNat : Int).tmod 5 = 3) : Calls Tryd.prog 22 #[.pointer (some ⟨b, 0, none⟩), vR r, vQ x] w (DoP w0 b ch (dropS s) (dropS sr) true L) := by
  have hI := h.enterDo x
  have hlts := h.lts
  have hB := h.bel.size
  obtain ⟨W3, hW⟩ : ∃ W3, ((w.alloc (.cells (aR r) 32)).alloc (.cells (aQ x) 57)).alloc (.cells (aR zR) 32) = W3 := ⟨_, rfl⟩
  rw [hW] at hI
  obtain ⟨r1, r1'⟩ := (hI.row (g := w.heap.size) (cs := cR r) (ty := 32) (by unfold doL; simp)).okw (cR_length r)
  have r2 := (hI.row (g := w.heap.size + 1) (cs := cQ x) (ty := 57) (by unfold doL; simp)).cell 0
  rw [show (cQ x)[0]? = some (.int .u8 (x.kind.toNat : Int)) from rfl] at r2
  change rdA _ _ 38 = vR r at r1'
  have HX := Lib.hid (And.intro hI (And.intro hlts (And.intro hB (And.intro g gr))))
  clear h hI hlts hB g gr
  have T0 : True := trivial
  go_enter Tryd.func22, Tryd.ntmps22
  go_wp2_with (first
    | (have hh := T0; clear hh T0; go_at_call 46; refine (HX.out.1.ref (val := vR) (sr' := dropS sr) (fun F hF ha => refDrop46 F ch sr r _ ha HX.out.2.2.2.2 hF)).mono ?_; rintro e w2 ⟨r2', rfl, hI2⟩; have H2 := Lib.hid hI2; clear hI2; have T1 : True := trivial)
    | (have hh := T1; clear hh T1; go_at_call 31; refine (H2.out.call (fun F hF => drop31_all b ch s F _ hF HX.out.2.2.2.1)).mono ?_; rintro e w3 ⟨rfl, hI3⟩; have j3 := (hI3.row (g := w.heap.size + 1 + 1) (cs := cR zR) (ty := 32) (by unfold doL; simp)).rok (cR_length zR); have H3 := Lib.hid hI3; clear hI3))
  obtain ⟨q1, q2⟩ := H3.out.leaveDo HX.out.2.2.1 HX.out.2.1 rfl
  exact bodyPost_ret (v := .tuple #[vR r2', .bool true]) (results_c2 (ad := ⟨w.heap.size + 1 + 1, 0, none⟩) rfl rfl (load_R q1) rfl) rfl ⟨r2', rfl, q2⟩

/-- What do returns: E says that it must be true. -/
def DoE (w0 : BW) (b : Nat) (ch : Int) (s sr : St) (E : Prop) (L : List (Nat × List Value × TypeId)) : Ending → World → Prop := fun e w' => ∃ r' ok, e = .returned (.tuple #[vR r', .bool ok]) ∧ (E → ok = true) ∧ InvR w0 b ch s sr r' L w'
set_option maxRecDepth 100000 in
set_option maxHeartbeats 3200000 in
theorem do22_say (w0 : BW) (b : Nat) (ch : Int) (s sr : St) (r : Rs) (x : Rop) (L : List (Nat × List Value × TypeId)) (w : World) (h : InvR w0 b ch s sr r L w) (g : Good ch s) (gr : Good ch sr) (hF : FormsAt w0) (hk : (x.kind.toNat : Int).tmod 5 = 1) : Calls Tryd.prog 22 #[.pointer (some ⟨b, 0, none⟩), vR r, vQ x] w (DoE w0 b ch (sayS ch s).1 (sayS ch sr).1 (s = sr) L) := by
  have hI := h.enterDo x
  have hlts := h.lts
  have hB := h.bel.size
  obtain ⟨W3, hW⟩ : ∃ W3, ((w.alloc (.cells (aR r) 32)).alloc (.cells (aQ x) 57)).alloc (.cells (aR zR) 32) = W3 := ⟨_, rfl⟩
  rw [hW] at hI
  obtain ⟨r1, r1'⟩ := (hI.row (g := w.heap.size) (cs := cR r) (ty := 32) (by unfold doL; simp)).okw (cR_length r)
  have rk := (hI.row (g := w.heap.size + 1) (cs := cQ x) (ty := 57) (by unfold doL; simp)).cell 0
  rw [show (cQ x)[0]? = some (.int .u8 (x.kind.toNat : Int)) from rfl] at rk
  change rdA _ _ 38 = vR r at r1'
  obtain ⟨s1, c1, b1, hs1⟩ : ∃ s1 c1 b1, sayS ch s = (s1, c1, b1) := ⟨_, _, _, rfl⟩
  obtain ⟨s2, c2, b2, hs2⟩ : ∃ s2 c2 b2, sayS ch sr = (s2, c2, b2) := ⟨_, _, _, rfl⟩
  obtain ⟨k2, hk2⟩ : ∃ k2, ofS c2 = k2 := ⟨_, rfl⟩
  have HN := Lib.hid (say_names ch s)
  have HY := Lib.hid (chk_say (s := s) g)
  rw [hs1] at HN HY
  have HE1 := Lib.hid (fun e : s = sr => show (c1, b1) = (c2, b2) by rw [e, hs2] at hs1; exact congrArg Prod.snd hs1.symm)
  have HX := Lib.hid (And.intro hI (And.intro hlts (And.intro hB (And.intro g gr))))
  have HS := Lib.hid (And.intro hs1 (And.intro hs2 hk2))
  have HF := Lib.hid hF
  rw [hs1, hs2]
  dsimp only at HN HY ⊢
  clear h hI hlts hB g gr hs1 hs2 hk2 hF
  have T0 : True := trivial
  go_enter Tryd.func22, Tryd.ntmps22
  go_wp2_with (first
    | (have hh := T0; clear hh T0; go_at_call 18; refine (HX.out.1.call (fun F hF => say18 b ch s F _ hF HX.out.2.2.2.1)).mono ?_; rintro e w2 ⟨rfl, hI2⟩; rw [HS.out.1] at hI2 ⊢; dsimp only at hI2 ⊢; obtain ⟨y1, y1'⟩ := (hI2.row (g := w.heap.size) (cs := cR r) (ty := 32) (by unfold doL; simp)).okw (cR_length r); change rdA _ _ 38 = vR r at y1'; have y1l := (hI2.row (g := w.heap.size) (cs := cR r) (ty := 32) (by unfold doL; simp)).lt; have Hn1 := Lib.hid (hI2.row (g := w.heap.size + 1 + 1) (cs := cR zR) (ty := 32) (by unfold doL; simp)).lt; have H2 := Lib.hid (hI2.alloc (cC c1) 45); clear hI2; have T1 : True := trivial)
    | (have hh := T1; clear hh T1; go_at_call 23; refine (H2.out.ref (val := fun r' => .tuple #[vR r', vK k2, .bool b2]) (sr' := s2) (fun F hF ha => by have hh := refSay23 F ch sr r _ ha HX.out.2.2.2.2 hF; rw [HS.out.2.1] at hh; dsimp only at hh; rw [HS.out.2.2] at hh; exact hh)).mono ?_; rintro e w3 ⟨r2, rfl, hI3⟩; have Hn2 := Lib.hid (hI3.row (g := w2.heap.size) (cs := cC c1) (ty := 45) List.mem_cons_self).lt; have H3 := Lib.hid ((hI3.alloc (cR r2) 32).alloc (cK k2) 55); clear hI3))
  obtain ⟨U, hU⟩ : ∃ U, ((w3.alloc (.cells (aR r2) 32)).alloc (.cells (aK k2) 55)) = U := ⟨_, rfl⟩
  have HI0 := H3.out
  rw [show (w3.alloc (.cells (cR r2).toArray 32)).heap.size = w3.heap.size + 1 by simp] at HI0
  have HI1 : InvR w0 b ch s1 s2 r2 ((w3.heap.size + 1, cK k2, 55) :: (w3.heap.size, cR r2, 32) :: (w2.heap.size, cC c1, 45) :: doL w.heap.size r x zR L) U := by rw [← hU]; exact HI0
  rw [hU]
  have hn1 := Hn1.out
  have hn2 := Hn2.out
  obtain ⟨g4, hg4⟩ : ∃ g4, g4 = w.heap.size := ⟨_, rfl⟩
  obtain ⟨g5, hg5⟩ : ∃ g5, g5 = w.heap.size + 1 := ⟨_, rfl⟩
  obtain ⟨g6, hg6⟩ : ∃ g6, g6 = w.heap.size + 1 + 1 := ⟨_, rfl⟩
  obtain ⟨g11, hg11⟩ : ∃ g11, g11 = w2.heap.size := ⟨_, rfl⟩
  obtain ⟨g13, hg13⟩ : ∃ g13, g13 = w3.heap.size := ⟨_, rfl⟩
  obtain ⟨g14, hg14⟩ : ∃ g14, g14 = w3.heap.size + 1 := ⟨_, rfl⟩
  obtain ⟨Lq, hLq⟩ : ∃ Lq : List (Nat × List Value × TypeId), Lq = (g11, cC c1, 45) :: (g13, cR r2, 32) :: (g14, cK k2, 55) :: L := ⟨_, rfl⟩
  have HG := Lib.hid (show w0.heap.size ≤ g6 ∧ ∀ y ∈ Lq, y.1 ≠ g6 from ⟨by have := HX.out.2.2.1; omega, fun y hy => by
    rw [hLq] at hy
    simp only [List.mem_cons] at hy
    rcases hy with rfl | rfl | rfl | hy
    · show g11 ≠ g6; omega
    · show g13 ≠ g6; omega
    · show g14 ≠ g6; omega
    · have := HX.out.2.1 y hy; omega⟩)
  have HI := Lib.hid (show InvR w0 b ch s1 s2 r2 ((g6, cR zR, 32) :: Lq) U from HI1.sub fun y hy => by
    rw [hLq, hg6, hg11, hg13, hg14] at hy
    unfold doL
    simp only [List.mem_cons] at hy ⊢
    rcases hy with rfl | rfl | rfl | rfl | hy
    · simp
    · simp
    · simp
    · simp
    · simp [hy])
  rw [← hg14, ← hg13, ← hg11, ← hg6, ← hg5, ← hg4]
  obtain ⟨q1, hq1⟩ : ∃ q1, (b1 == b2) = q1 := ⟨_, rfl⟩
  obtain ⟨x1, hx1⟩ : ∃ x1, decide (ofS c1 = k2) = x1 := ⟨_, rfl⟩
  obtain ⟨q2, hq2⟩ : ∃ q2, (q1 && x1) = q2 := ⟨_, rfl⟩
  have HE := Lib.hid (show s = sr → q2 = true from fun e => by
    have e2 := HE1.out e
    have e3 := Prod.mk.inj e2
    rw [← hq2, ← hq1, ← hx1, ← HS.out.2.2, e3.1, e3.2]
    simp)
  have HQ1 := Lib.hid hq1
  have HX1 := Lib.hid hx1
  have HQ2 := Lib.hid hq2
  clear hq1 hx1 hq2 HI0 HI1 H3 H2 HX HE1 HS hn1 hn2 hg4 hg5 hg6 hg11 hg13 hg14 hU r1 r1' hW y1 y1' y1l Hn1 Hn2 hk rk
  refine AnyO.wp_anyI (by kernel_rfl) (by kernel_rfl) (AnyO.InvG (σ := Unit) (fun σ => AnyO.pvL [some (vR r2), some (.bool b1), some (.bool b2), some (.bool q1), some (.bool q1), some (bif q1 then vC c1 else undef), some (bif q1 then vK (ofS c1) else undef), some (bif q1 then vK k2 else undef), some (bif q1 then .bool x1 else undef), some (.bool q2), some (.bool q2), some (bif q2 then .pointer (some ⟨g11, 1, none⟩) else undef), some (bif q2 then .string ⟨#[]⟩ else undef), some (bif q2 then .bool true else undef), some (.bool q2), some (.bool q2), some (bif q2 then .pointer (some ⟨g11, 36, none⟩) else undef), some (bif q2 then .int .i64 0 else undef), some (bif q2 then .bool true else undef), some (.bool q2), some (.bool q2), some (bif q2 then .bool b1 else undef), some (bif q2 then .bool (!b1) else undef), some (bif q2 then .bool (!b1) else undef), some (bif (q2 && b1) then vC c1 else undef), some (bif (q2 && b1) then .int .i64 0 else undef), some (bif (q2 && b1) then .bool true else undef), some (bif q2 then .bool true else undef), some (.bool q2), none, some (.bool q2)]) (fun _ D u => InvR w0 b ch s1 s2 r2 ((g6, (bif D 29 then cR r2 else cR zR), 32) :: Lq) u)) (AnyO.InvG.start (g := ()) (HI.out.below (below_drew _))) ?_ ?_
  · intro i hi
    have hi2 : i = 0 ∨ i = 1 ∨ i = 2 ∨ i = 3 ∨ i = 4 ∨ i = 5 ∨ i = 6 ∨ i = 7 ∨ i = 8 ∨ i = 9 ∨ i = 10 ∨ i = 11 ∨ i = 12 ∨ i = 13 ∨ i = 14 ∨ i = 15 ∨ i = 16 ∨ i = 17 ∨ i = 18 ∨ i = 19 ∨ i = 20 ∨ i = 21 ∨ i = 22 ∨ i = 23 ∨ i = 24 ∨ i = 25 ∨ i = 26 ∨ i = 27 ∨ i = 28 ∨ i = 29 ∨ i = 30 := by first | (simp only [List.size_toArray, List.length_cons, List.length_nil] at hi; omega) | (simp only [List.size_toArray, List.append_eq, List.length_append, List.length_cons, List.length_nil] at hi; omega)
    clear hi
    rcases hi2 with rfl | rfl | rfl | rfl | rfl | rfl | rfl | rfl | rfl | rfl | rfl | rfl | rfl | rfl | rfl | rfl | rfl | rfl | rfl | rfl | rfl | rfl | rfl | rfl | rfl | rfl | rfl | rfl | rfl | rfl | rfl
    · -- 0: Op.load 32 (Operand.tmp 13)
      refine AnyO.StepI.mk rfl [] (by kernel_rfl) ?_
      intro D vs u hI h0 hC hp ac hb K hK
      obtain ⟨σ, hP, hW⟩ := hI
      have s13 : ac.tmps[13]?.getD undef = .pointer (some ⟨g13, 0, none⟩) := by rw [hb]; kernel_rfl
      rw [if_pos (AnyO.wanted_none rfl)]
      clear hb hp
      subst hLq
      have RR := hW.row (g := g13) (cs := cR r2) (ty := 32) (by with_reducible repeat (first | exact List.mem_cons_self | apply List.mem_cons_of_mem))
      obtain ⟨rr1, rr2⟩ := RR.okw (cR_length _)
      change rdA _ _ _ = vR r2 at rr2
      clear RR
      clear hC
      clear h0
      have HP := Lib.hid hP
      have HWq := Lib.hid hW
      clear hP hW
      go_simp
      have hP := HP.out
      have hW := HWq.out
      clear HP HWq
      exact hK _ _ (AnyO.InvG.step (g := σ) hP rfl hW)
    · -- 1: Op.move (Operand.tmp 12)
      refine AnyO.StepI.mk rfl [] (by kernel_rfl) ?_
      intro D vs u hI h0 hC hp ac hb K hK
      obtain ⟨σ, hP, hW⟩ := hI
      have s12 : ac.tmps[12]?.getD undef = .bool b1 := by rw [hb]; kernel_rfl
      rw [if_pos (AnyO.wanted_none rfl)]
      clear hb hp
      clear hC
      clear h0
      have HP := Lib.hid hP
      have HWq := Lib.hid hW
      clear hP hW
      go_simp
      have hP := HP.out
      have hW := HWq.out
      clear HP HWq
      exact hK _ _ (AnyO.InvG.step (g := σ) hP rfl hW)
    · -- 2: Op.move (Operand.tmp 15)
      refine AnyO.StepI.mk rfl [] (by kernel_rfl) ?_
      intro D vs u hI h0 hC hp ac hb K hK
      obtain ⟨σ, hP, hW⟩ := hI
      have s15 : ac.tmps[15]?.getD undef = .bool b2 := by rw [hb]; kernel_rfl
      rw [if_pos (AnyO.wanted_none rfl)]
      clear hb hp
      clear hC
      clear h0
      have HP := Lib.hid hP
      have HWq := Lib.hid hW
      clear hP hW
      go_simp
      have hP := HP.out
      have hW := HWq.out
      clear HP HWq
      exact hK _ _ (AnyO.InvG.step (g := σ) hP rfl hW)
    · -- 3: Op.binOp BinOp.eql 4 (Operand.tmp 65) (Operand.tmp 66) 4
      refine AnyO.StepI.mk rfl [1, 2] (by kernel_rfl) ?_
      intro D vs u hI h0 hC hp ac hb K hK
      obtain ⟨σ, hP, hW⟩ := hI
      rcases b1 with _ | _
      · rcases b2 with _ | _
        · have s65 : ac.tmps[65]?.getD undef = .bool false := by rw [hb]; exact (show _ = vs 1 by kernel_rfl).trans (show vs 1 = .bool false from hP 1 (hp 1 (by decide)))
          have s66 : ac.tmps[66]?.getD undef = .bool false := by rw [hb]; exact (show _ = vs 2 by kernel_rfl).trans (show vs 2 = .bool false from hP 2 (hp 2 (by decide)))
          rw [if_pos (AnyO.wanted_none rfl)]
          clear hb hp
          clear hC
          clear h0
          have HP := Lib.hid hP
          have HWq := Lib.hid hW
          clear hP hW
          go_simp
          have hP := HP.out
          have hW := HWq.out
          clear HP HWq
          obtain rfl : q1 = true := HQ1.out.symm
          exact hK _ _ (AnyO.InvG.step (g := σ) hP rfl hW)
        · have s65 : ac.tmps[65]?.getD undef = .bool false := by rw [hb]; exact (show _ = vs 1 by kernel_rfl).trans (show vs 1 = .bool false from hP 1 (hp 1 (by decide)))
          have s66 : ac.tmps[66]?.getD undef = .bool true := by rw [hb]; exact (show _ = vs 2 by kernel_rfl).trans (show vs 2 = .bool true from hP 2 (hp 2 (by decide)))
          rw [if_pos (AnyO.wanted_none rfl)]
          clear hb hp
          clear hC
          clear h0
          have HP := Lib.hid hP
          have HWq := Lib.hid hW
          clear hP hW
          go_simp
          have hP := HP.out
          have hW := HWq.out
          clear HP HWq
          obtain rfl : q1 = false := HQ1.out.symm
          exact hK _ _ (AnyO.InvG.step (g := σ) hP rfl hW)
      · rcases b2 with _ | _
        · have s65 : ac.tmps[65]?.getD undef = .bool true := by rw [hb]; exact (show _ = vs 1 by kernel_rfl).trans (show vs 1 = .bool true from hP 1 (hp 1 (by decide)))
          have s66 : ac.tmps[66]?.getD undef = .bool false := by rw [hb]; exact (show _ = vs 2 by kernel_rfl).trans (show vs 2 = .bool false from hP 2 (hp 2 (by decide)))
          rw [if_pos (AnyO.wanted_none rfl)]
          clear hb hp
          clear hC
          clear h0
          have HP := Lib.hid hP
          have HWq := Lib.hid hW
          clear hP hW
          go_simp
          have hP := HP.out
          have hW := HWq.out
          clear HP HWq
          obtain rfl : q1 = false := HQ1.out.symm
          exact hK _ _ (AnyO.InvG.step (g := σ) hP rfl hW)
        · have s65 : ac.tmps[65]?.getD undef = .bool true := by rw [hb]; exact (show _ = vs 1 by kernel_rfl).trans (show vs 1 = .bool true from hP 1 (hp 1 (by decide)))
          have s66 : ac.tmps[66]?.getD undef = .bool true := by rw [hb]; exact (show _ = vs 2 by kernel_rfl).trans (show vs 2 = .bool true from hP 2 (hp 2 (by decide)))
          rw [if_pos (AnyO.wanted_none rfl)]
          clear hb hp
          clear hC
          clear h0
          have HP := Lib.hid hP
          have HWq := Lib.hid hW
          clear hP hW
          go_simp
          have hP := HP.out
          have hW := HWq.out
          clear HP HWq
          obtain rfl : q1 = true := HQ1.out.symm
          exact hK _ _ (AnyO.InvG.step (g := σ) hP rfl hW)
    · -- 4: Op.move (Operand.tmp 67)
      refine AnyO.StepI.mk rfl [3] (by kernel_rfl) ?_
      intro D vs u hI h0 hC hp ac hb K hK
      obtain ⟨σ, hP, hW⟩ := hI
      have s67 : ac.tmps[67]?.getD undef = .bool q1 := by rw [hb]; exact (show _ = vs 3 by kernel_rfl).trans (show vs 3 = .bool q1 from hP 3 (hp 3 (by decide)))
      rw [if_pos (AnyO.wanted_none rfl)]
      clear hb hp
      clear hC
      clear h0
      have HP := Lib.hid hP
      have HWq := Lib.hid hW
      clear hP hW
      go_simp
      have hP := HP.out
      have hW := HWq.out
      clear HP HWq
      exact hK _ _ (AnyO.InvG.step (g := σ) hP rfl hW)
    · -- 5: Op.load 45 (Operand.tmp 11)
      refine AnyO.StepI.mk rfl [4] (by kernel_rfl) ?_
      intro D vs u hI h0 hC hp ac hb K hK
      obtain ⟨σ, hP, hW⟩ := hI
      rcases q1 with _ | _
      · have s11 : ac.tmps[11]?.getD undef = .pointer (some ⟨g11, 0, none⟩) := by rw [hb]; kernel_rfl
        have s68 : ac.tmps[68]?.getD undef = .bool false := by rw [hb]; exact (show _ = vs 4 by kernel_rfl).trans (show vs 4 = .bool false from hP 4 (hp 4 (by decide)))
        rw [if_neg (AnyO.wanted_not (g := 4) (t := 68) (want := true) rfl rfl s68 (fun e => by cases e))]
        exact hK undef _ (AnyO.InvG.step (g := σ) hP rfl hW)
      · have s11 : ac.tmps[11]?.getD undef = .pointer (some ⟨g11, 0, none⟩) := by rw [hb]; kernel_rfl
        have s68 : ac.tmps[68]?.getD undef = .bool true := by rw [hb]; exact (show _ = vs 4 by kernel_rfl).trans (show vs 4 = .bool true from hP 4 (hp 4 (by decide)))
        rw [if_pos (AnyO.wanted_some (g := 4) (t := 68) (want := true) rfl rfl s68)]
        clear hb hp
        subst hLq
        have RR := hW.row (g := g11) (cs := cC c1) (ty := 45) (by with_reducible repeat (first | exact List.mem_cons_self | apply List.mem_cons_of_mem))
        obtain ⟨rr1, rr2⟩ := RR.okw (cC_length _)
        change rdA _ _ _ = vC c1 at rr2
        clear RR
        clear hC
        clear h0
        have HP := Lib.hid hP
        have HWq := Lib.hid hW
        clear hP hW
        go_simp
        have hP := HP.out
        have hW := HWq.out
        clear HP HWq
        exact hK _ _ (AnyO.InvG.step (g := σ) hP rfl hW)
    · -- 6: Op.call { callee := Callee.value (Operand.func 44), args := 
      refine AnyO.StepI.mk rfl [5, 4, 4] (by kernel_rfl) ?_
      intro D vs u hI h0 hC hp ac hb K hK
      obtain ⟨σ, hP, hW⟩ := hI
      rcases q1 with _ | _
      · have s69 : ac.tmps[69]?.getD undef = undef := by rw [hb]; exact (show _ = vs 5 by kernel_rfl).trans (show vs 5 = undef from hP 5 (hp 5 (by decide)))
        have s68 : ac.tmps[68]?.getD undef = .bool false := by rw [hb]; exact (show _ = vs 4 by kernel_rfl).trans (show vs 4 = .bool false from hP 4 (hp 4 (by decide)))
        rw [if_neg (AnyO.wanted_not (g := 4) (t := 68) (want := true) rfl rfl s68 (fun e => by cases e))]
        exact hK undef _ (AnyO.InvG.step (g := σ) hP rfl hW)
      · have s69 : ac.tmps[69]?.getD undef = vC c1 := by rw [hb]; exact (show _ = vs 5 by kernel_rfl).trans (show vs 5 = vC c1 from hP 5 (hp 5 (by decide)))
        have s68 : ac.tmps[68]?.getD undef = .bool true := by rw [hb]; exact (show _ = vs 4 by kernel_rfl).trans (show vs 4 = .bool true from hP 4 (hp 4 (by decide)))
        rw [if_pos (AnyO.wanted_some (g := 4) (t := 68) (want := true) rfl rfl s68)]
        clear hb hp
        clear hC
        clear h0
        have HP := Lib.hid hP
        have HWq := Lib.hid hW
        clear hP hW
        go_simp
        have hP := HP.out
        have hW := HWq.out
        clear HP HWq
        go_at_call 44
        refine (of44 c1 u).mono ?_
        rintro e w2 ⟨rfl, hb⟩
        exact hK _ _ (AnyO.InvG.step (g := σ) hP rfl (hW.below hb))
    · -- 7: Op.load 55 (Operand.tmp 14)
      refine AnyO.StepI.mk rfl [4] (by kernel_rfl) ?_
      intro D vs u hI h0 hC hp ac hb K hK
      obtain ⟨σ, hP, hW⟩ := hI
      rcases q1 with _ | _
      · have s14 : ac.tmps[14]?.getD undef = .pointer (some ⟨g14, 0, none⟩) := by rw [hb]; kernel_rfl
        have s68 : ac.tmps[68]?.getD undef = .bool false := by rw [hb]; exact (show _ = vs 4 by kernel_rfl).trans (show vs 4 = .bool false from hP 4 (hp 4 (by decide)))
        rw [if_neg (AnyO.wanted_not (g := 4) (t := 68) (want := true) rfl rfl s68 (fun e => by cases e))]
        exact hK undef _ (AnyO.InvG.step (g := σ) hP rfl hW)
      · have s14 : ac.tmps[14]?.getD undef = .pointer (some ⟨g14, 0, none⟩) := by rw [hb]; kernel_rfl
        have s68 : ac.tmps[68]?.getD undef = .bool true := by rw [hb]; exact (show _ = vs 4 by kernel_rfl).trans (show vs 4 = .bool true from hP 4 (hp 4 (by decide)))
        rw [if_pos (AnyO.wanted_some (g := 4) (t := 68) (want := true) rfl rfl s68)]
        clear hb hp
        subst hLq
        have RR := hW.row (g := g14) (cs := cK k2) (ty := 55) (by with_reducible repeat (first | exact List.mem_cons_self | apply List.mem_cons_of_mem))
        obtain ⟨rr1, rr2⟩ := RR.okw (cK_length _)
        change rdA _ _ _ = vK k2 at rr2
        clear RR
        clear hC
        clear h0
        have HP := Lib.hid hP
        have HWq := Lib.hid hW
        clear hP hW
        go_simp
        have hP := HP.out
        have hW := HWq.out
        clear HP HWq
        exact hK _ _ (AnyO.InvG.step (g := σ) hP rfl hW)
    · -- 8: Op.binOp BinOp.eql 55 (Operand.tmp 70) (Operand.tmp 71) 55
      refine AnyO.StepI.mk rfl [6, 7, 4] (by kernel_rfl) ?_
      intro D vs u hI h0 hC hp ac hb K hK
      obtain ⟨σ, hP, hW⟩ := hI
      rcases q1 with _ | _
      · have s70 : ac.tmps[70]?.getD undef = undef := by rw [hb]; exact (show _ = vs 6 by kernel_rfl).trans (show vs 6 = undef from hP 6 (hp 6 (by decide)))
        have s71 : ac.tmps[71]?.getD undef = undef := by rw [hb]; exact (show _ = vs 7 by kernel_rfl).trans (show vs 7 = undef from hP 7 (hp 7 (by decide)))
        have s68 : ac.tmps[68]?.getD undef = .bool false := by rw [hb]; exact (show _ = vs 4 by kernel_rfl).trans (show vs 4 = .bool false from hP 4 (hp 4 (by decide)))
        rw [if_neg (AnyO.wanted_not (g := 4) (t := 68) (want := true) rfl rfl s68 (fun e => by cases e))]
        exact hK undef _ (AnyO.InvG.step (g := σ) hP rfl hW)
      · have s70 : ac.tmps[70]?.getD undef = vK (ofS c1) := by rw [hb]; exact (show _ = vs 6 by kernel_rfl).trans (show vs 6 = vK (ofS c1) from hP 6 (hp 6 (by decide)))
        have s71 : ac.tmps[71]?.getD undef = vK k2 := by rw [hb]; exact (show _ = vs 7 by kernel_rfl).trans (show vs 7 = vK k2 from hP 7 (hp 7 (by decide)))
        have s68 : ac.tmps[68]?.getD undef = .bool true := by rw [hb]; exact (show _ = vs 4 by kernel_rfl).trans (show vs 4 = .bool true from hP 4 (hp 4 (by decide)))
        rw [if_pos (AnyO.wanted_some (g := 4) (t := 68) (want := true) rfl rfl s68)]
        clear hb hp
        have e := HX1.out
        clear hC
        clear h0
        have HP := Lib.hid hP
        have HWq := Lib.hid hW
        clear hP hW
        go_simp
        have hP := HP.out
        have hW := HWq.out
        clear HP HWq
        exact hK _ _ (AnyO.InvG.step (g := σ) hP rfl hW)
    · -- 9: Op.pick (Operand.tmp 68) (Operand.tmp 72) (Operand.const (Va
      refine AnyO.StepI.mk rfl [4, 8] (by kernel_rfl) ?_
      intro D vs u hI h0 hC hp ac hb K hK
      obtain ⟨σ, hP, hW⟩ := hI
      rcases q1 with _ | _
      · have s68 : ac.tmps[68]?.getD undef = .bool false := by rw [hb]; exact (show _ = vs 4 by kernel_rfl).trans (show vs 4 = .bool false from hP 4 (hp 4 (by decide)))
        have s72 : ac.tmps[72]?.getD undef = undef := by rw [hb]; exact (show _ = vs 8 by kernel_rfl).trans (show vs 8 = undef from hP 8 (hp 8 (by decide)))
        rw [if_pos (AnyO.wanted_none rfl)]
        clear hb hp
        clear hC
        clear h0
        have HP := Lib.hid hP
        have HWq := Lib.hid hW
        clear hP hW
        go_simp
        have hP := HP.out
        have hW := HWq.out
        clear HP HWq
        obtain rfl : q2 = false := HQ2.out.symm
        exact hK _ _ (AnyO.InvG.step (g := σ) hP rfl hW)
      · have s68 : ac.tmps[68]?.getD undef = .bool true := by rw [hb]; exact (show _ = vs 4 by kernel_rfl).trans (show vs 4 = .bool true from hP 4 (hp 4 (by decide)))
        have s72 : ac.tmps[72]?.getD undef = .bool x1 := by rw [hb]; exact (show _ = vs 8 by kernel_rfl).trans (show vs 8 = .bool x1 from hP 8 (hp 8 (by decide)))
        rw [if_pos (AnyO.wanted_none rfl)]
        clear hb hp
        clear hC
        clear h0
        have HP := Lib.hid hP
        have HWq := Lib.hid hW
        clear hP hW
        go_simp
        have hP := HP.out
        have hW := HWq.out
        clear HP HWq
        obtain rfl : q2 = x1 := HQ2.out.symm
        exact hK _ _ (AnyO.InvG.step (g := σ) hP rfl hW)
    · -- 10: Op.move (Operand.tmp 73)
      refine AnyO.StepI.mk rfl [9, 6] (by kernel_rfl) ?_
      intro D vs u hI h0 hC hp ac hb K hK
      obtain ⟨σ, hP, hW⟩ := hI
      have s73 : ac.tmps[73]?.getD undef = .bool q2 := by rw [hb]; exact (show _ = vs 9 by kernel_rfl).trans (show vs 9 = .bool q2 from hP 9 (hp 9 (by decide)))
      rw [if_pos (AnyO.wanted_none rfl)]
      clear hb hp
      clear hC
      clear h0
      have HP := Lib.hid hP
      have HWq := Lib.hid hW
      clear hP hW
      go_simp
      have hP := HP.out
      have hW := HWq.out
      clear HP HWq
      exact hK _ _ (AnyO.InvG.step (g := σ) hP rfl hW)
    · -- 11: Op.fieldAddr 45 (Operand.tmp 11) 1
      refine AnyO.StepI.mk rfl [10] (by kernel_rfl) ?_
      intro D vs u hI h0 hC hp ac hb K hK
      obtain ⟨σ, hP, hW⟩ := hI
      rcases q2 with _ | _
      · have s11 : ac.tmps[11]?.getD undef = .pointer (some ⟨g11, 0, none⟩) := by rw [hb]; kernel_rfl
        have s74 : ac.tmps[74]?.getD undef = .bool false := by rw [hb]; exact (show _ = vs 10 by kernel_rfl).trans (show vs 10 = .bool false from hP 10 (hp 10 (by decide)))
        rw [if_neg (AnyO.wanted_not (g := 10) (t := 74) (want := true) rfl rfl s74 (fun e => by cases e))]
        exact hK undef _ (AnyO.InvG.step (g := σ) hP rfl hW)
      · have s11 : ac.tmps[11]?.getD undef = .pointer (some ⟨g11, 0, none⟩) := by rw [hb]; kernel_rfl
        have s74 : ac.tmps[74]?.getD undef = .bool true := by rw [hb]; exact (show _ = vs 10 by kernel_rfl).trans (show vs 10 = .bool true from hP 10 (hp 10 (by decide)))
        rw [if_pos (AnyO.wanted_some (g := 10) (t := 74) (want := true) rfl rfl s74)]
        clear hb hp
        clear hC
        clear h0
        have HP := Lib.hid hP
        have HWq := Lib.hid hW
        clear hP hW
        go_simp
        have hP := HP.out
        have hW := HWq.out
        clear HP HWq
        exact hK _ _ (AnyO.InvG.step (g := σ) hP rfl hW)
    · -- 12: Op.load 9 (Operand.tmp 75)
      refine AnyO.StepI.mk rfl [11, 10] (by kernel_rfl) ?_
      intro D vs u hI h0 hC hp ac hb K hK
      obtain ⟨σ, hP, hW⟩ := hI
      rcases q2 with _ | _
      · have s75 : ac.tmps[75]?.getD undef = undef := by rw [hb]; exact (show _ = vs 11 by kernel_rfl).trans (show vs 11 = undef from hP 11 (hp 11 (by decide)))
        have s74 : ac.tmps[74]?.getD undef = .bool false := by rw [hb]; exact (show _ = vs 10 by kernel_rfl).trans (show vs 10 = .bool false from hP 10 (hp 10 (by decide)))
        rw [if_neg (AnyO.wanted_not (g := 10) (t := 74) (want := true) rfl rfl s74 (fun e => by cases e))]
        exact hK undef _ (AnyO.InvG.step (g := σ) hP rfl hW)
      · have s75 : ac.tmps[75]?.getD undef = .pointer (some ⟨g11, 1, none⟩) := by rw [hb]; exact (show _ = vs 11 by kernel_rfl).trans (show vs 11 = .pointer (some ⟨g11, 1, none⟩) from hP 11 (hp 11 (by decide)))
        have s74 : ac.tmps[74]?.getD undef = .bool true := by rw [hb]; exact (show _ = vs 10 by kernel_rfl).trans (show vs 10 = .bool true from hP 10 (hp 10 (by decide)))
        rw [if_pos (AnyO.wanted_some (g := 10) (t := 74) (want := true) rfl rfl s74)]
        clear hb hp
        subst hLq
        have RR := hW.row (g := g11) (cs := cC c1) (ty := 45) (by with_reducible repeat (first | exact List.mem_cons_self | apply List.mem_cons_of_mem))
        have rr := RR.cell 1
        rw [show (cC c1)[1]? = some (.string c1.name) from rfl, HN.out.1] at rr
        clear RR
        clear hC
        clear h0
        have HP := Lib.hid hP
        have HWq := Lib.hid hW
        clear hP hW
        go_simp
        have hP := HP.out
        have hW := HWq.out
        clear HP HWq
        exact hK _ _ (AnyO.InvG.step (g := σ) hP rfl hW)
    · -- 13: Op.binOp BinOp.eql 9 (Operand.tmp 76) (Operand.const (Value.
      refine AnyO.StepI.mk rfl [12, 10] (by kernel_rfl) ?_
      intro D vs u hI h0 hC hp ac hb K hK
      obtain ⟨σ, hP, hW⟩ := hI
      rcases q2 with _ | _
      · have s76 : ac.tmps[76]?.getD undef = undef := by rw [hb]; exact (show _ = vs 12 by kernel_rfl).trans (show vs 12 = undef from hP 12 (hp 12 (by decide)))
        have s74 : ac.tmps[74]?.getD undef = .bool false := by rw [hb]; exact (show _ = vs 10 by kernel_rfl).trans (show vs 10 = .bool false from hP 10 (hp 10 (by decide)))
        rw [if_neg (AnyO.wanted_not (g := 10) (t := 74) (want := true) rfl rfl s74 (fun e => by cases e))]
        exact hK undef _ (AnyO.InvG.step (g := σ) hP rfl hW)
      · have s76 : ac.tmps[76]?.getD undef = .string ⟨#[]⟩ := by rw [hb]; exact (show _ = vs 12 by kernel_rfl).trans (show vs 12 = .string ⟨#[]⟩ from hP 12 (hp 12 (by decide)))
        have s74 : ac.tmps[74]?.getD undef = .bool true := by rw [hb]; exact (show _ = vs 10 by kernel_rfl).trans (show vs 10 = .bool true from hP 10 (hp 10 (by decide)))
        rw [if_pos (AnyO.wanted_some (g := 10) (t := 74) (want := true) rfl rfl s74)]
        clear hb hp
        clear hC
        clear h0
        have HP := Lib.hid hP
        have HWq := Lib.hid hW
        clear hP hW
        go_simp
        have hP := HP.out
        have hW := HWq.out
        clear HP HWq
        exact hK _ _ (AnyO.InvG.step (g := σ) hP rfl hW)
    · -- 14: Op.pick (Operand.tmp 74) (Operand.tmp 77) (Operand.const (Va
      refine AnyO.StepI.mk rfl [10, 13] (by kernel_rfl) ?_
      intro D vs u hI h0 hC hp ac hb K hK
      obtain ⟨σ, hP, hW⟩ := hI
      rcases q2 with _ | _
      · have s74 : ac.tmps[74]?.getD undef = .bool false := by rw [hb]; exact (show _ = vs 10 by kernel_rfl).trans (show vs 10 = .bool false from hP 10 (hp 10 (by decide)))
        have s77 : ac.tmps[77]?.getD undef = undef := by rw [hb]; exact (show _ = vs 13 by kernel_rfl).trans (show vs 13 = undef from hP 13 (hp 13 (by decide)))
        rw [if_pos (AnyO.wanted_none rfl)]
        clear hb hp
        clear hC
        clear h0
        have HP := Lib.hid hP
        have HWq := Lib.hid hW
        clear hP hW
        go_simp
        have hP := HP.out
        have hW := HWq.out
        clear HP HWq
        exact hK _ _ (AnyO.InvG.step (g := σ) hP rfl hW)
      · have s74 : ac.tmps[74]?.getD undef = .bool true := by rw [hb]; exact (show _ = vs 10 by kernel_rfl).trans (show vs 10 = .bool true from hP 10 (hp 10 (by decide)))
        have s77 : ac.tmps[77]?.getD undef = .bool true := by rw [hb]; exact (show _ = vs 13 by kernel_rfl).trans (show vs 13 = .bool true from hP 13 (hp 13 (by decide)))
        rw [if_pos (AnyO.wanted_none rfl)]
        clear hb hp
        clear hC
        clear h0
        have HP := Lib.hid hP
        have HWq := Lib.hid hW
        clear hP hW
        go_simp
        have hP := HP.out
        have hW := HWq.out
        clear HP HWq
        exact hK _ _ (AnyO.InvG.step (g := σ) hP rfl hW)
    · -- 15: Op.move (Operand.tmp 78)
      refine AnyO.StepI.mk rfl [14, 10] (by kernel_rfl) ?_
      intro D vs u hI h0 hC hp ac hb K hK
      obtain ⟨σ, hP, hW⟩ := hI
      have s78 : ac.tmps[78]?.getD undef = .bool q2 := by rw [hb]; exact (show _ = vs 14 by kernel_rfl).trans (show vs 14 = .bool q2 from hP 14 (hp 14 (by decide)))
      rw [if_pos (AnyO.wanted_none rfl)]
      clear hb hp
      clear hC
      clear h0
      have HP := Lib.hid hP
      have HWq := Lib.hid hW
      clear hP hW
      go_simp
      have hP := HP.out
      have hW := HWq.out
      clear HP HWq
      exact hK _ _ (AnyO.InvG.step (g := σ) hP rfl hW)
    · -- 16: Op.fieldAddr 45 (Operand.tmp 11) 5
      refine AnyO.StepI.mk rfl [15] (by kernel_rfl) ?_
      intro D vs u hI h0 hC hp ac hb K hK
      obtain ⟨σ, hP, hW⟩ := hI
      rcases q2 with _ | _
      · have s11 : ac.tmps[11]?.getD undef = .pointer (some ⟨g11, 0, none⟩) := by rw [hb]; kernel_rfl
        have s79 : ac.tmps[79]?.getD undef = .bool false := by rw [hb]; exact (show _ = vs 15 by kernel_rfl).trans (show vs 15 = .bool false from hP 15 (hp 15 (by decide)))
        rw [if_neg (AnyO.wanted_not (g := 15) (t := 79) (want := true) rfl rfl s79 (fun e => by cases e))]
        exact hK undef _ (AnyO.InvG.step (g := σ) hP rfl hW)
      · have s11 : ac.tmps[11]?.getD undef = .pointer (some ⟨g11, 0, none⟩) := by rw [hb]; kernel_rfl
        have s79 : ac.tmps[79]?.getD undef = .bool true := by rw [hb]; exact (show _ = vs 15 by kernel_rfl).trans (show vs 15 = .bool true from hP 15 (hp 15 (by decide)))
        rw [if_pos (AnyO.wanted_some (g := 15) (t := 79) (want := true) rfl rfl s79)]
        clear hb hp
        clear hC
        clear h0
        have HP := Lib.hid hP
        have HWq := Lib.hid hW
        clear hP hW
        go_simp
        have hP := HP.out
        have hW := HWq.out
        clear HP HWq
        exact hK _ _ (AnyO.InvG.step (g := σ) hP rfl hW)
    · -- 17: Op.load 3 (Operand.tmp 80)
      refine AnyO.StepI.mk rfl [16, 15] (by kernel_rfl) ?_
      intro D vs u hI h0 hC hp ac hb K hK
      obtain ⟨σ, hP, hW⟩ := hI
      rcases q2 with _ | _
      · have s80 : ac.tmps[80]?.getD undef = undef := by rw [hb]; exact (show _ = vs 16 by kernel_rfl).trans (show vs 16 = undef from hP 16 (hp 16 (by decide)))
        have s79 : ac.tmps[79]?.getD undef = .bool false := by rw [hb]; exact (show _ = vs 15 by kernel_rfl).trans (show vs 15 = .bool false from hP 15 (hp 15 (by decide)))
        rw [if_neg (AnyO.wanted_not (g := 15) (t := 79) (want := true) rfl rfl s79 (fun e => by cases e))]
        exact hK undef _ (AnyO.InvG.step (g := σ) hP rfl hW)
      · have s80 : ac.tmps[80]?.getD undef = .pointer (some ⟨g11, 36, none⟩) := by rw [hb]; exact (show _ = vs 16 by kernel_rfl).trans (show vs 16 = .pointer (some ⟨g11, 36, none⟩) from hP 16 (hp 16 (by decide)))
        have s79 : ac.tmps[79]?.getD undef = .bool true := by rw [hb]; exact (show _ = vs 15 by kernel_rfl).trans (show vs 15 = .bool true from hP 15 (hp 15 (by decide)))
        rw [if_pos (AnyO.wanted_some (g := 15) (t := 79) (want := true) rfl rfl s79)]
        clear hb hp
        subst hLq
        have RR := hW.row (g := g11) (cs := cC c1) (ty := 45) (by with_reducible repeat (first | exact List.mem_cons_self | apply List.mem_cons_of_mem))
        have rr := RR.cell 36
        rw [show (cC c1)[36]? = some (.int .i64 c1.count) from (List.getElem?_toArray ..).symm.trans (aC_36 c1), HN.out.2] at rr
        clear RR
        clear hC
        clear h0
        have HP := Lib.hid hP
        have HWq := Lib.hid hW
        clear hP hW
        go_simp
        have hP := HP.out
        have hW := HWq.out
        clear HP HWq
        exact hK _ _ (AnyO.InvG.step (g := σ) hP rfl hW)
    · -- 18: Op.binOp BinOp.eql 3 (Operand.tmp 81) (Operand.const (Value.
      refine AnyO.StepI.mk rfl [17, 15] (by kernel_rfl) ?_
      intro D vs u hI h0 hC hp ac hb K hK
      obtain ⟨σ, hP, hW⟩ := hI
      rcases q2 with _ | _
      · have s81 : ac.tmps[81]?.getD undef = undef := by rw [hb]; exact (show _ = vs 17 by kernel_rfl).trans (show vs 17 = undef from hP 17 (hp 17 (by decide)))
        have s79 : ac.tmps[79]?.getD undef = .bool false := by rw [hb]; exact (show _ = vs 15 by kernel_rfl).trans (show vs 15 = .bool false from hP 15 (hp 15 (by decide)))
        rw [if_neg (AnyO.wanted_not (g := 15) (t := 79) (want := true) rfl rfl s79 (fun e => by cases e))]
        exact hK undef _ (AnyO.InvG.step (g := σ) hP rfl hW)
      · have s81 : ac.tmps[81]?.getD undef = .int .i64 0 := by rw [hb]; exact (show _ = vs 17 by kernel_rfl).trans (show vs 17 = .int .i64 0 from hP 17 (hp 17 (by decide)))
        have s79 : ac.tmps[79]?.getD undef = .bool true := by rw [hb]; exact (show _ = vs 15 by kernel_rfl).trans (show vs 15 = .bool true from hP 15 (hp 15 (by decide)))
        rw [if_pos (AnyO.wanted_some (g := 15) (t := 79) (want := true) rfl rfl s79)]
        clear hb hp
        clear hC
        clear h0
        have HP := Lib.hid hP
        have HWq := Lib.hid hW
        clear hP hW
        go_simp
        have hP := HP.out
        have hW := HWq.out
        clear HP HWq
        exact hK _ _ (AnyO.InvG.step (g := σ) hP rfl hW)
    · -- 19: Op.pick (Operand.tmp 79) (Operand.tmp 82) (Operand.const (Va
      refine AnyO.StepI.mk rfl [15, 18] (by kernel_rfl) ?_
      intro D vs u hI h0 hC hp ac hb K hK
      obtain ⟨σ, hP, hW⟩ := hI
      rcases q2 with _ | _
      · have s79 : ac.tmps[79]?.getD undef = .bool false := by rw [hb]; exact (show _ = vs 15 by kernel_rfl).trans (show vs 15 = .bool false from hP 15 (hp 15 (by decide)))
        have s82 : ac.tmps[82]?.getD undef = undef := by rw [hb]; exact (show _ = vs 18 by kernel_rfl).trans (show vs 18 = undef from hP 18 (hp 18 (by decide)))
        rw [if_pos (AnyO.wanted_none rfl)]
        clear hb hp
        clear hC
        clear h0
        have HP := Lib.hid hP
        have HWq := Lib.hid hW
        clear hP hW
        go_simp
        have hP := HP.out
        have hW := HWq.out
        clear HP HWq
        exact hK _ _ (AnyO.InvG.step (g := σ) hP rfl hW)
      · have s79 : ac.tmps[79]?.getD undef = .bool true := by rw [hb]; exact (show _ = vs 15 by kernel_rfl).trans (show vs 15 = .bool true from hP 15 (hp 15 (by decide)))
        have s82 : ac.tmps[82]?.getD undef = .bool true := by rw [hb]; exact (show _ = vs 18 by kernel_rfl).trans (show vs 18 = .bool true from hP 18 (hp 18 (by decide)))
        rw [if_pos (AnyO.wanted_none rfl)]
        clear hb hp
        clear hC
        clear h0
        have HP := Lib.hid hP
        have HWq := Lib.hid hW
        clear hP hW
        go_simp
        have hP := HP.out
        have hW := HWq.out
        clear HP HWq
        exact hK _ _ (AnyO.InvG.step (g := σ) hP rfl hW)
    · -- 20: Op.move (Operand.tmp 83)
      refine AnyO.StepI.mk rfl [19, 15] (by kernel_rfl) ?_
      intro D vs u hI h0 hC hp ac hb K hK
      obtain ⟨σ, hP, hW⟩ := hI
      have s83 : ac.tmps[83]?.getD undef = .bool q2 := by rw [hb]; exact (show _ = vs 19 by kernel_rfl).trans (show vs 19 = .bool q2 from hP 19 (hp 19 (by decide)))
      rw [if_pos (AnyO.wanted_none rfl)]
      clear hb hp
      clear hC
      clear h0
      have HP := Lib.hid hP
      have HWq := Lib.hid hW
      clear hP hW
      go_simp
      have hP := HP.out
      have hW := HWq.out
      clear HP HWq
      exact hK _ _ (AnyO.InvG.step (g := σ) hP rfl hW)
    · -- 21: Op.move (Operand.tmp 12)
      refine AnyO.StepI.mk rfl [20] (by kernel_rfl) ?_
      intro D vs u hI h0 hC hp ac hb K hK
      obtain ⟨σ, hP, hW⟩ := hI
      rcases q2 with _ | _
      · have s12 : ac.tmps[12]?.getD undef = .bool b1 := by rw [hb]; kernel_rfl
        have s84 : ac.tmps[84]?.getD undef = .bool false := by rw [hb]; exact (show _ = vs 20 by kernel_rfl).trans (show vs 20 = .bool false from hP 20 (hp 20 (by decide)))
        rw [if_neg (AnyO.wanted_not (g := 20) (t := 84) (want := true) rfl rfl s84 (fun e => by cases e))]
        exact hK undef _ (AnyO.InvG.step (g := σ) hP rfl hW)
      · have s12 : ac.tmps[12]?.getD undef = .bool b1 := by rw [hb]; kernel_rfl
        have s84 : ac.tmps[84]?.getD undef = .bool true := by rw [hb]; exact (show _ = vs 20 by kernel_rfl).trans (show vs 20 = .bool true from hP 20 (hp 20 (by decide)))
        rw [if_pos (AnyO.wanted_some (g := 20) (t := 84) (want := true) rfl rfl s84)]
        clear hb hp
        clear hC
        clear h0
        have HP := Lib.hid hP
        have HWq := Lib.hid hW
        clear hP hW
        go_simp
        have hP := HP.out
        have hW := HWq.out
        clear HP HWq
        exact hK _ _ (AnyO.InvG.step (g := σ) hP rfl hW)
    · -- 22: Op.unOp UnOp.not 4 (Operand.tmp 85)
      refine AnyO.StepI.mk rfl [21, 20] (by kernel_rfl) ?_
      intro D vs u hI h0 hC hp ac hb K hK
      obtain ⟨σ, hP, hW⟩ := hI
      rcases q2 with _ | _
      · have s85 : ac.tmps[85]?.getD undef = undef := by rw [hb]; exact (show _ = vs 21 by kernel_rfl).trans (show vs 21 = undef from hP 21 (hp 21 (by decide)))
        have s84 : ac.tmps[84]?.getD undef = .bool false := by rw [hb]; exact (show _ = vs 20 by kernel_rfl).trans (show vs 20 = .bool false from hP 20 (hp 20 (by decide)))
        rw [if_neg (AnyO.wanted_not (g := 20) (t := 84) (want := true) rfl rfl s84 (fun e => by cases e))]
        exact hK undef _ (AnyO.InvG.step (g := σ) hP rfl hW)
      · have s85 : ac.tmps[85]?.getD undef = .bool b1 := by rw [hb]; exact (show _ = vs 21 by kernel_rfl).trans (show vs 21 = .bool b1 from hP 21 (hp 21 (by decide)))
        have s84 : ac.tmps[84]?.getD undef = .bool true := by rw [hb]; exact (show _ = vs 20 by kernel_rfl).trans (show vs 20 = .bool true from hP 20 (hp 20 (by decide)))
        rw [if_pos (AnyO.wanted_some (g := 20) (t := 84) (want := true) rfl rfl s84)]
        clear hb hp
        clear hC
        clear h0
        have HP := Lib.hid hP
        have HWq := Lib.hid hW
        clear hP hW
        go_simp
        have hP := HP.out
        have hW := HWq.out
        clear HP HWq
        exact hK _ _ (AnyO.InvG.step (g := σ) hP rfl hW)
    · -- 23: Op.move (Operand.tmp 86)
      refine AnyO.StepI.mk rfl [22, 20, 20] (by kernel_rfl) ?_
      intro D vs u hI h0 hC hp ac hb K hK
      obtain ⟨σ, hP, hW⟩ := hI
      rcases q2 with _ | _
      · have s86 : ac.tmps[86]?.getD undef = undef := by rw [hb]; exact (show _ = vs 22 by kernel_rfl).trans (show vs 22 = undef from hP 22 (hp 22 (by decide)))
        have s84 : ac.tmps[84]?.getD undef = .bool false := by rw [hb]; exact (show _ = vs 20 by kernel_rfl).trans (show vs 20 = .bool false from hP 20 (hp 20 (by decide)))
        rw [if_neg (AnyO.wanted_not (g := 20) (t := 84) (want := true) rfl rfl s84 (fun e => by cases e))]
        exact hK undef _ (AnyO.InvG.step (g := σ) hP rfl hW)
      · have s86 : ac.tmps[86]?.getD undef = .bool (!b1) := by rw [hb]; exact (show _ = vs 22 by kernel_rfl).trans (show vs 22 = .bool (!b1) from hP 22 (hp 22 (by decide)))
        have s84 : ac.tmps[84]?.getD undef = .bool true := by rw [hb]; exact (show _ = vs 20 by kernel_rfl).trans (show vs 20 = .bool true from hP 20 (hp 20 (by decide)))
        rw [if_pos (AnyO.wanted_some (g := 20) (t := 84) (want := true) rfl rfl s84)]
        clear hb hp
        clear hC
        clear h0
        have HP := Lib.hid hP
        have HWq := Lib.hid hW
        clear hP hW
        go_simp
        have hP := HP.out
        have hW := HWq.out
        clear HP HWq
        exact hK _ _ (AnyO.InvG.step (g := σ) hP rfl hW)
    · -- 24: Op.load 45 (Operand.tmp 11)
      refine AnyO.StepI.mk rfl [23] (by kernel_rfl) ?_
      intro D vs u hI h0 hC hp ac hb K hK
      obtain ⟨σ, hP, hW⟩ := hI
      rcases q2 with _ | _
      · rcases b1 with _ | _
        · have s11 : ac.tmps[11]?.getD undef = .pointer (some ⟨g11, 0, none⟩) := by rw [hb]; kernel_rfl
          have s87 : ac.tmps[87]?.getD undef = undef := by rw [hb]; exact (show _ = vs 23 by kernel_rfl).trans (show vs 23 = undef from hP 23 (hp 23 (by decide)))
          rw [if_neg (AnyO.wanted_not (g := 23) (t := 87) (want := false) rfl rfl s87 (fun e => by cases e))]
          exact hK undef _ (AnyO.InvG.step (g := σ) hP rfl hW)
        · have s11 : ac.tmps[11]?.getD undef = .pointer (some ⟨g11, 0, none⟩) := by rw [hb]; kernel_rfl
          have s87 : ac.tmps[87]?.getD undef = undef := by rw [hb]; exact (show _ = vs 23 by kernel_rfl).trans (show vs 23 = undef from hP 23 (hp 23 (by decide)))
          rw [if_neg (AnyO.wanted_not (g := 23) (t := 87) (want := false) rfl rfl s87 (fun e => by cases e))]
          exact hK undef _ (AnyO.InvG.step (g := σ) hP rfl hW)
      · rcases b1 with _ | _
        · have s11 : ac.tmps[11]?.getD undef = .pointer (some ⟨g11, 0, none⟩) := by rw [hb]; kernel_rfl
          have s87 : ac.tmps[87]?.getD undef = .bool (!false) := by rw [hb]; exact (show _ = vs 23 by kernel_rfl).trans (show vs 23 = .bool (!false) from hP 23 (hp 23 (by decide)))
          rw [if_neg (AnyO.wanted_not (g := 23) (t := 87) (want := false) rfl rfl s87 (fun e => by cases e))]
          exact hK undef _ (AnyO.InvG.step (g := σ) hP rfl hW)
        · have s11 : ac.tmps[11]?.getD undef = .pointer (some ⟨g11, 0, none⟩) := by rw [hb]; kernel_rfl
          have s87 : ac.tmps[87]?.getD undef = .bool (!true) := by rw [hb]; exact (show _ = vs 23 by kernel_rfl).trans (show vs 23 = .bool (!true) from hP 23 (hp 23 (by decide)))
          rw [if_pos (AnyO.wanted_some (g := 23) (t := 87) (want := false) rfl rfl s87)]
          clear hb hp
          subst hLq
          have RR := hW.row (g := g11) (cs := cC c1) (ty := 45) (by with_reducible repeat (first | exact List.mem_cons_self | apply List.mem_cons_of_mem))
          obtain ⟨rr1, rr2⟩ := RR.okw (cC_length _)
          change rdA _ _ _ = vC c1 at rr2
          clear RR
          clear hC
          clear h0
          have HP := Lib.hid hP
          have HWq := Lib.hid hW
          clear hP hW
          go_simp
          have hP := HP.out
          have hW := HWq.out
          clear HP HWq
          exact hK _ _ (AnyO.InvG.step (g := σ) hP rfl hW)
    · -- 25: Op.call { callee := Callee.value (Operand.func 41), args := 
      refine AnyO.StepI.mk rfl [24, 23, 23] (by kernel_rfl) ?_
      intro D vs u hI h0 hC hp ac hb K hK
      obtain ⟨σ, hP, hW⟩ := hI
      rcases q2 with _ | _
      · rcases b1 with _ | _
        · have s88 : ac.tmps[88]?.getD undef = undef := by rw [hb]; exact (show _ = vs 24 by kernel_rfl).trans (show vs 24 = undef from hP 24 (hp 24 (by decide)))
          have s87 : ac.tmps[87]?.getD undef = undef := by rw [hb]; exact (show _ = vs 23 by kernel_rfl).trans (show vs 23 = undef from hP 23 (hp 23 (by decide)))
          rw [if_neg (AnyO.wanted_not (g := 23) (t := 87) (want := false) rfl rfl s87 (fun e => by cases e))]
          exact hK undef _ (AnyO.InvG.step (g := σ) hP rfl hW)
        · have s88 : ac.tmps[88]?.getD undef = undef := by rw [hb]; exact (show _ = vs 24 by kernel_rfl).trans (show vs 24 = undef from hP 24 (hp 24 (by decide)))
          have s87 : ac.tmps[87]?.getD undef = undef := by rw [hb]; exact (show _ = vs 23 by kernel_rfl).trans (show vs 23 = undef from hP 23 (hp 23 (by decide)))
          rw [if_neg (AnyO.wanted_not (g := 23) (t := 87) (want := false) rfl rfl s87 (fun e => by cases e))]
          exact hK undef _ (AnyO.InvG.step (g := σ) hP rfl hW)
      · rcases b1 with _ | _
        · have s88 : ac.tmps[88]?.getD undef = undef := by rw [hb]; exact (show _ = vs 24 by kernel_rfl).trans (show vs 24 = undef from hP 24 (hp 24 (by decide)))
          have s87 : ac.tmps[87]?.getD undef = .bool (!false) := by rw [hb]; exact (show _ = vs 23 by kernel_rfl).trans (show vs 23 = .bool (!false) from hP 23 (hp 23 (by decide)))
          rw [if_neg (AnyO.wanted_not (g := 23) (t := 87) (want := false) rfl rfl s87 (fun e => by cases e))]
          exact hK undef _ (AnyO.InvG.step (g := σ) hP rfl hW)
        · have s88 : ac.tmps[88]?.getD undef = vC c1 := by rw [hb]; exact (show _ = vs 24 by kernel_rfl).trans (show vs 24 = vC c1 from hP 24 (hp 24 (by decide)))
          have s87 : ac.tmps[87]?.getD undef = .bool (!true) := by rw [hb]; exact (show _ = vs 23 by kernel_rfl).trans (show vs 23 = .bool (!true) from hP 23 (hp 23 (by decide)))
          rw [if_pos (AnyO.wanted_some (g := 23) (t := 87) (want := false) rfl rfl s87)]
          clear hb hp
          clear hC
          clear h0
          have HP := Lib.hid hP
          have HWq := Lib.hid hW
          clear hP hW
          go_simp
          have hP := HP.out
          have hW := HWq.out
          clear HP HWq
          go_at_call 41
          refine (check41 c1 u (HF.out.keep hW.bel) HN.out.1).mono ?_
          rintro e w2 ⟨rfl, hb⟩
          rw [HY.out rfl]
          exact hK _ _ (AnyO.InvG.step (g := σ) hP rfl (hW.below hb))
    · -- 26: Op.binOp BinOp.eql 24 (Operand.tmp 89) (Operand.const (Value
      refine AnyO.StepI.mk rfl [25, 23] (by kernel_rfl) ?_
      intro D vs u hI h0 hC hp ac hb K hK
      obtain ⟨σ, hP, hW⟩ := hI
      rcases q2 with _ | _
      · rcases b1 with _ | _
        · have s89 : ac.tmps[89]?.getD undef = undef := by rw [hb]; exact (show _ = vs 25 by kernel_rfl).trans (show vs 25 = undef from hP 25 (hp 25 (by decide)))
          have s87 : ac.tmps[87]?.getD undef = undef := by rw [hb]; exact (show _ = vs 23 by kernel_rfl).trans (show vs 23 = undef from hP 23 (hp 23 (by decide)))
          rw [if_neg (AnyO.wanted_not (g := 23) (t := 87) (want := false) rfl rfl s87 (fun e => by cases e))]
          exact hK undef _ (AnyO.InvG.step (g := σ) hP rfl hW)
        · have s89 : ac.tmps[89]?.getD undef = undef := by rw [hb]; exact (show _ = vs 25 by kernel_rfl).trans (show vs 25 = undef from hP 25 (hp 25 (by decide)))
          have s87 : ac.tmps[87]?.getD undef = undef := by rw [hb]; exact (show _ = vs 23 by kernel_rfl).trans (show vs 23 = undef from hP 23 (hp 23 (by decide)))
          rw [if_neg (AnyO.wanted_not (g := 23) (t := 87) (want := false) rfl rfl s87 (fun e => by cases e))]
          exact hK undef _ (AnyO.InvG.step (g := σ) hP rfl hW)
      · rcases b1 with _ | _
        · have s89 : ac.tmps[89]?.getD undef = undef := by rw [hb]; exact (show _ = vs 25 by kernel_rfl).trans (show vs 25 = undef from hP 25 (hp 25 (by decide)))
          have s87 : ac.tmps[87]?.getD undef = .bool (!false) := by rw [hb]; exact (show _ = vs 23 by kernel_rfl).trans (show vs 23 = .bool (!false) from hP 23 (hp 23 (by decide)))
          rw [if_neg (AnyO.wanted_not (g := 23) (t := 87) (want := false) rfl rfl s87 (fun e => by cases e))]
          exact hK undef _ (AnyO.InvG.step (g := σ) hP rfl hW)
        · have s89 : ac.tmps[89]?.getD undef = .int .i64 0 := by rw [hb]; exact (show _ = vs 25 by kernel_rfl).trans (show vs 25 = .int .i64 0 from hP 25 (hp 25 (by decide)))
          have s87 : ac.tmps[87]?.getD undef = .bool (!true) := by rw [hb]; exact (show _ = vs 23 by kernel_rfl).trans (show vs 23 = .bool (!true) from hP 23 (hp 23 (by decide)))
          rw [if_pos (AnyO.wanted_some (g := 23) (t := 87) (want := false) rfl rfl s87)]
          clear hb hp
          clear hC
          clear h0
          have HP := Lib.hid hP
          have HWq := Lib.hid hW
          clear hP hW
          go_simp
          have hP := HP.out
          have hW := HWq.out
          clear HP HWq
          exact hK _ _ (AnyO.InvG.step (g := σ) hP rfl hW)
    · -- 27: Op.pick (Operand.tmp 87) (Operand.const (Value.bool true)) (
      refine AnyO.StepI.mk rfl [23, 26, 20] (by kernel_rfl) ?_
      intro D vs u hI h0 hC hp ac hb K hK
      obtain ⟨σ, hP, hW⟩ := hI
      rcases q2 with _ | _
      · rcases b1 with _ | _
        · have s87 : ac.tmps[87]?.getD undef = undef := by rw [hb]; exact (show _ = vs 23 by kernel_rfl).trans (show vs 23 = undef from hP 23 (hp 23 (by decide)))
          have s90 : ac.tmps[90]?.getD undef = undef := by rw [hb]; exact (show _ = vs 26 by kernel_rfl).trans (show vs 26 = undef from hP 26 (hp 26 (by decide)))
          have s84 : ac.tmps[84]?.getD undef = .bool false := by rw [hb]; exact (show _ = vs 20 by kernel_rfl).trans (show vs 20 = .bool false from hP 20 (hp 20 (by decide)))
          rw [if_neg (AnyO.wanted_not (g := 20) (t := 84) (want := true) rfl rfl s84 (fun e => by cases e))]
          exact hK undef _ (AnyO.InvG.step (g := σ) hP rfl hW)
        · have s87 : ac.tmps[87]?.getD undef = undef := by rw [hb]; exact (show _ = vs 23 by kernel_rfl).trans (show vs 23 = undef from hP 23 (hp 23 (by decide)))
          have s90 : ac.tmps[90]?.getD undef = undef := by rw [hb]; exact (show _ = vs 26 by kernel_rfl).trans (show vs 26 = undef from hP 26 (hp 26 (by decide)))
          have s84 : ac.tmps[84]?.getD undef = .bool false := by rw [hb]; exact (show _ = vs 20 by kernel_rfl).trans (show vs 20 = .bool false from hP 20 (hp 20 (by decide)))
          rw [if_neg (AnyO.wanted_not (g := 20) (t := 84) (want := true) rfl rfl s84 (fun e => by cases e))]
          exact hK undef _ (AnyO.InvG.step (g := σ) hP rfl hW)
      · rcases b1 with _ | _
        · have s87 : ac.tmps[87]?.getD undef = .bool (!false) := by rw [hb]; exact (show _ = vs 23 by kernel_rfl).trans (show vs 23 = .bool (!false) from hP 23 (hp 23 (by decide)))
          have s90 : ac.tmps[90]?.getD undef = undef := by rw [hb]; exact (show _ = vs 26 by kernel_rfl).trans (show vs 26 = undef from hP 26 (hp 26 (by decide)))
          have s84 : ac.tmps[84]?.getD undef = .bool true := by rw [hb]; exact (show _ = vs 20 by kernel_rfl).trans (show vs 20 = .bool true from hP 20 (hp 20 (by decide)))
          rw [if_pos (AnyO.wanted_some (g := 20) (t := 84) (want := true) rfl rfl s84)]
          clear hb hp
          clear hC
          clear h0
          have HP := Lib.hid hP
          have HWq := Lib.hid hW
          clear hP hW
          go_simp
          have hP := HP.out
          have hW := HWq.out
          clear HP HWq
          exact hK _ _ (AnyO.InvG.step (g := σ) hP rfl hW)
        · have s87 : ac.tmps[87]?.getD undef = .bool (!true) := by rw [hb]; exact (show _ = vs 23 by kernel_rfl).trans (show vs 23 = .bool (!true) from hP 23 (hp 23 (by decide)))
          have s90 : ac.tmps[90]?.getD undef = .bool true := by rw [hb]; exact (show _ = vs 26 by kernel_rfl).trans (show vs 26 = .bool true from hP 26 (hp 26 (by decide)))
          have s84 : ac.tmps[84]?.getD undef = .bool true := by rw [hb]; exact (show _ = vs 20 by kernel_rfl).trans (show vs 20 = .bool true from hP 20 (hp 20 (by decide)))
          rw [if_pos (AnyO.wanted_some (g := 20) (t := 84) (want := true) rfl rfl s84)]
          clear hb hp
          clear hC
          clear h0
          have HP := Lib.hid hP
          have HWq := Lib.hid hW
          clear hP hW
          go_simp
          have hP := HP.out
          have hW := HWq.out
          clear HP HWq
          exact hK _ _ (AnyO.InvG.step (g := σ) hP rfl hW)
    · -- 28: Op.pick (Operand.tmp 84) (Operand.tmp 91) (Operand.const (Va
      refine AnyO.StepI.mk rfl [20, 27] (by kernel_rfl) ?_
      intro D vs u hI h0 hC hp ac hb K hK
      obtain ⟨σ, hP, hW⟩ := hI
      rcases q2 with _ | _
      · have s84 : ac.tmps[84]?.getD undef = .bool false := by rw [hb]; exact (show _ = vs 20 by kernel_rfl).trans (show vs 20 = .bool false from hP 20 (hp 20 (by decide)))
        have s91 : ac.tmps[91]?.getD undef = undef := by rw [hb]; exact (show _ = vs 27 by kernel_rfl).trans (show vs 27 = undef from hP 27 (hp 27 (by decide)))
        rw [if_pos (AnyO.wanted_none rfl)]
        clear hb hp
        clear hC
        clear h0
        have HP := Lib.hid hP
        have HWq := Lib.hid hW
        clear hP hW
        go_simp
        have hP := HP.out
        have hW := HWq.out
        clear HP HWq
        exact hK _ _ (AnyO.InvG.step (g := σ) hP rfl hW)
      · have s84 : ac.tmps[84]?.getD undef = .bool true := by rw [hb]; exact (show _ = vs 20 by kernel_rfl).trans (show vs 20 = .bool true from hP 20 (hp 20 (by decide)))
        have s91 : ac.tmps[91]?.getD undef = .bool true := by rw [hb]; exact (show _ = vs 27 by kernel_rfl).trans (show vs 27 = .bool true from hP 27 (hp 27 (by decide)))
        rw [if_pos (AnyO.wanted_none rfl)]
        clear hb hp
        clear hC
        clear h0
        have HP := Lib.hid hP
        have HWq := Lib.hid hW
        clear hP hW
        go_simp
        have hP := HP.out
        have hW := HWq.out
        clear HP HWq
        exact hK _ _ (AnyO.InvG.step (g := σ) hP rfl hW)
    · -- 29: Op.store 32 (Operand.tmp 6) (Operand.tmp 64)
      refine AnyO.StepI.mk rfl [0, 25, 0] (by kernel_rfl) ?_
      intro D vs u hI h0 hC hp ac hb K hK
      obtain ⟨σ, hP, hW⟩ := hI
      have s6 : ac.tmps[6]?.getD undef = .pointer (some ⟨g6, 0, none⟩) := by rw [hb]; kernel_rfl
      have s64 : ac.tmps[64]?.getD undef = vR r2 := by rw [hb]; exact (show _ = vs 0 by kernel_rfl).trans (show vs 0 = vR r2 from hP 0 (hp 0 (by decide)))
      rw [if_pos (AnyO.wanted_none rfl)]
      clear hb hp
      have RR := hW.row (g := g6) (cs := cR zR) (ty := 32) (by rw [h0]; exact List.mem_cons_self)
      have rr := RR.rok (cR_length zR)
      clear RR
      clear hC
      have HP := Lib.hid hP
      have HWq := Lib.hid hW
      clear hP hW
      go_simp
      have hP := HP.out
      have hW := HWq.out
      clear HP HWq
      rw [h0] at hW
      refine hK undef _ (AnyO.InvG.step (g := σ) hP trivial ?_)
      exact InvR.setRow (cs := cR zR) hW HG.out.1 HG.out.2 (cR r2)
    · -- 30: Op.assign (Operand.tmp 92)
      refine AnyO.StepI.mk rfl [28, 29, 0, 1, 2, 3, 4, 5, 6, 7, 8, 9, 10, 11, 12, 13, 14, 15, 16, 17, 18, 19, 20, 21, 22, 23, 24, 25, 26, 27, 28, 29] (by kernel_rfl) ?_
      intro D vs u hI h0 hC hp ac hb K hK
      obtain ⟨σ, hP, hW⟩ := hI
      have s92 : ac.tmps[92]?.getD undef = .bool q2 := by rw [hb]; exact (show _ = vs 28 by kernel_rfl).trans (show vs 28 = .bool q2 from hP 28 (hp 28 (by decide)))
      rw [if_pos (AnyO.wanted_none rfl)]
      clear hb hp
      clear hC
      clear h0
      have HP := Lib.hid hP
      have HWq := Lib.hid hW
      clear hP hW
      go_simp
      have hP := HP.out
      have hW := HWq.out
      clear HP HWq
      exact hK _ _ (AnyO.InvG.step (g := σ) hP rfl hW)
  · intro D vs u hI hD
    obtain ⟨σ, hP, hW⟩ := hI
    have e0 : vs 0 = vR r2 := hP 0 (hD 0 (by decide))
    have e1 : vs 1 = .bool b1 := hP 1 (hD 1 (by decide))
    have e2 : vs 2 = .bool b2 := hP 2 (hD 2 (by decide))
    have e3 : vs 3 = .bool q1 := hP 3 (hD 3 (by decide))
    have e4 : vs 4 = .bool q1 := hP 4 (hD 4 (by decide))
    have e5 : vs 5 = (bif q1 then vC c1 else undef) := hP 5 (hD 5 (by decide))
    have e6 : vs 6 = (bif q1 then vK (ofS c1) else undef) := hP 6 (hD 6 (by decide))
    have e7 : vs 7 = (bif q1 then vK k2 else undef) := hP 7 (hD 7 (by decide))
    have e8 : vs 8 = (bif q1 then .bool x1 else undef) := hP 8 (hD 8 (by decide))
    have e9 : vs 9 = .bool q2 := hP 9 (hD 9 (by decide))
    have e10 : vs 10 = .bool q2 := hP 10 (hD 10 (by decide))
    have e11 : vs 11 = (bif q2 then .pointer (some ⟨g11, 1, none⟩) else undef) := hP 11 (hD 11 (by decide))
    have e12 : vs 12 = (bif q2 then .string ⟨#[]⟩ else undef) := hP 12 (hD 12 (by decide))
    have e13 : vs 13 = (bif q2 then .bool true else undef) := hP 13 (hD 13 (by decide))
    have e14 : vs 14 = .bool q2 := hP 14 (hD 14 (by decide))
    have e15 : vs 15 = .bool q2 := hP 15 (hD 15 (by decide))
    have e16 : vs 16 = (bif q2 then .pointer (some ⟨g11, 36, none⟩) else undef) := hP 16 (hD 16 (by decide))
    have e17 : vs 17 = (bif q2 then .int .i64 0 else undef) := hP 17 (hD 17 (by decide))
    have e18 : vs 18 = (bif q2 then .bool true else undef) := hP 18 (hD 18 (by decide))
    have e19 : vs 19 = .bool q2 := hP 19 (hD 19 (by decide))
    have e20 : vs 20 = .bool q2 := hP 20 (hD 20 (by decide))
    have e21 : vs 21 = (bif q2 then .bool b1 else undef) := hP 21 (hD 21 (by decide))
    have e22 : vs 22 = (bif q2 then .bool (!b1) else undef) := hP 22 (hD 22 (by decide))
    have e23 : vs 23 = (bif q2 then .bool (!b1) else undef) := hP 23 (hD 23 (by decide))
    have e24 : vs 24 = (bif (q2 && b1) then vC c1 else undef) := hP 24 (hD 24 (by decide))
    have e25 : vs 25 = (bif (q2 && b1) then .int .i64 0 else undef) := hP 25 (hD 25 (by decide))
    have e26 : vs 26 = (bif (q2 && b1) then .bool true else undef) := hP 26 (hD 26 (by decide))
    have e27 : vs 27 = (bif q2 then .bool true else undef) := hP 27 (hD 27 (by decide))
    have e28 : vs 28 = .bool q2 := hP 28 (hD 28 (by decide))
    have e30 : vs 30 = .bool q2 := hP 30 (hD 30 (by decide))
    rw [hD 29 (by decide)] at hW
    change InvR w0 b ch s1 s2 r2 ((g6, cR r2, 32) :: Lq) u at hW
    have HW := Lib.hid hW
    clear hW hP hD
    rw [puts_range [some 64, some 65, some 66, some 67, some 68, some 69, some 70, some 71, some 72, some 73, some 74, some 75, some 76, some 77, some 78, some 79, some 80, some 81, some 82, some 83, some 84, some 85, some 86, some 87, some 88, some 89, some 90, some 91, some 92, none, some 7] (by kernel_rfl)]
    simp only [putL, Nat.reduceAdd, e0, e1, e2, e3, e4, e5, e6, e7, e8, e9, e10, e11, e12, e13, e14, e15, e16, e17, e18, e19, e20, e21, e22, e23, e24, e25, e26, e27, e28, e30]
    clear e0 e1 e2 e3 e4 e5 e6 e7 e8 e9 e10 e11 e12 e13 e14 e15 e16 e17 e18 e19 e20 e21 e22 e23 e24 e25 e26 e27 e28 e30
    go_simp
    go_wp2
    exact bodyPost_ret (v := .tuple #[vR r2, .bool q2]) (results_c2 (ad := ⟨g6, 0, none⟩) rfl rfl (load_R (HW.out.row List.mem_cons_self)) rfl) rfl ⟨r2, q2, rfl, HE.out, HW.out.sub (by rw [hLq]; exact fun y hy => List.mem_cons_of_mem _ (List.mem_cons_of_mem _ (List.mem_cons_of_mem _ (List.mem_cons_of_mem _ hy))))⟩


theorem InvR.size {w0 : BW} {w : World} {b : Nat} {ch : Int} {s sr : St} {r : Rs} {L : List (Nat × List Value × TypeId)} (h : InvR w0 b ch s sr r L w) : w0.heap.size ≤ w.heap.size := h.bel.size
set_option maxRecDepth 100000 in
set_option maxHeartbeats 3200000 in
theorem do22_add (w0 : BW) (b : Nat) (ch : Int) (s sr : St) (r : Rs) (x : Rop) (L : List (Nat × List Value × TypeId)) (w : World) (h : InvR w0 b ch s sr r L w) (g : Good ch s) (gr : Good ch sr) (hk : (x.kind.toNat : Int).tmod 5 = 0) : Calls Tryd.prog 22 #[.pointer (some ⟨b, 0, none⟩), vR r, vQ x] w (DoE w0 b ch (addS s x.a.1 (cutS x.a.2)).1 (addS sr x.a.1 (cutS x.a.2)).1 (s = sr) L) := by
  have hI := h.enterDo x
  have hlts := h.lts
  have hB := h.bel.size
  obtain ⟨W3, hW⟩ : ∃ W3, ((w.alloc (.cells (aR r) 32)).alloc (.cells (aQ x) 57)).alloc (.cells (aR zR) 32) = W3 := ⟨_, rfl⟩
  rw [hW] at hI
  have r4 := hI.row (g := w.heap.size) (cs := cR r) (ty := 32) (by unfold doL; simp)
  have r5 := hI.row (g := w.heap.size + 1) (cs := cQ x) (ty := 57) (by unfold doL; simp)
  have r6 := hI.row (g := w.heap.size + 1 + 1) (cs := cR zR) (ty := 32) (by unfold doL; simp)
  obtain ⟨k1, ⟨k2, k2'⟩, k3, ⟨k4, k4'⟩, k5⟩ := row_Q r5
  obtain ⟨m4, m4'⟩ := r4.okw (cR_length r)
  change rdA _ _ 38 = vR r at m4'
  have n6 := r6.lt
  clear r4 r5 r6
  obtain ⟨xi, hxi⟩ : ∃ xi, x.a.1 = xi := ⟨_, rfl⟩
  obtain ⟨xt, hxt⟩ : ∃ xt, x.a.2 = xt := ⟨_, rfl⟩
  have HXI := Lib.hid (And.intro hxi hxt)
  rw [hxi] at k2'
  rw [hxt] at k3
  rw [hxi, hxt]
  obtain ⟨tt, htt⟩ : ∃ tt, cutS xt = tt := ⟨_, rfl⟩
  have HT := Lib.hid htt
  rw [htt]
  obtain ⟨s1, ec1, hs1⟩ : ∃ s1 ec1, addS s xi tt = (s1, ec1) := ⟨_, _, rfl⟩
  obtain ⟨s2, ec2, hs2⟩ : ∃ s2 ec2, addS sr xi tt = (s2, ec2) := ⟨_, _, rfl⟩
  have HE1 := Lib.hid (fun e : s = sr => show ec1 = ec2 by rw [e, hs2] at hs1; exact congrArg Prod.snd hs1.symm)
  have HX := Lib.hid (And.intro hI (And.intro hlts (And.intro hB (And.intro g gr))))
  have HS := Lib.hid (And.intro hs1 hs2)
  rw [hs1, hs2]
  dsimp only
  clear h hI hlts hB g gr hs1 hs2 htt hxi hxt k4 k4' k5
  have T0 : True := trivial
  go_enter Tryd.func22, Tryd.ntmps22
  go_wp2
  obtain ⟨g4, hg4⟩ : ∃ g4, g4 = w.heap.size := ⟨_, rfl⟩
  obtain ⟨g5, hg5⟩ : ∃ g5, g5 = w.heap.size + 1 := ⟨_, rfl⟩
  obtain ⟨g6, hg6⟩ : ∃ g6, g6 = w.heap.size + 1 + 1 := ⟨_, rfl⟩
  obtain ⟨g8, hg8⟩ : ∃ g8, g8 = W3.heap.size := ⟨_, rfl⟩
  obtain ⟨Lz, hLz⟩ : ∃ Lz : List (Nat × List Value × TypeId), Lz = (g6, cR zR, 32) :: (g5, cQ x, 57) :: (g4, cR r, 32) :: L := ⟨_, rfl⟩
  have HI := Lib.hid (show InvR w0 b ch s sr r Lz W3 by rw [hLz, hg4, hg5, hg6]; exact HX.out.1)
  have HG8 := Lib.hid (show w0.heap.size ≤ g8 ∧ ∀ y ∈ Lz, y.1 ≠ g8 from ⟨by rw [hg8]; exact HI.out.size, fun y hy => by rw [hg8]; exact Nat.ne_of_lt (HI.out.lts y hy)⟩)
  have HM4 := Lib.hid (show (g4, cR r, 32) ∈ Lz from by rw [hLz]; with_reducible repeat (first | exact List.mem_cons_self | apply List.mem_cons_of_mem))
  have HM := Lib.hid (show (g5, cQ x, 57) ∈ Lz from by rw [hLz]; with_reducible repeat (first | exact List.mem_cons_self | apply List.mem_cons_of_mem))
  rw [← hg6, ← hg5, ← hg4]
  have HG8e := Lib.hid hg8
  have HN6 := Lib.hid (show g6 < g8 by rw [hg6, hg8]; exact n6)
  have HGE := Lib.hid (And.intro hg6 (And.intro hg5 hg4))
  clear m4 m4' k1 k2 k2' k3 hW hg8 n6 hg4 hg5 hg6 hk
  refine AnyO.wp_anyI (by kernel_rfl) (by kernel_rfl) (AnyO.InvG (σ := Unit) (fun σ => AnyO.pvL [some (.pointer (some ⟨g5, 1, none⟩)), some (.pointer (some ⟨g5, 1, none⟩)), some (vI xi), some (.pointer (some ⟨g5, 1, none⟩)), some (.pointer (some ⟨g5, 33, none⟩)), some (.string xt), some (.string tt), some (vA (xi, tt)), some (.pointer (some ⟨g8, 0, none⟩)), none]) (fun _ D u => InvR w0 b ch s sr r ((bif D 8 then [(g8, (bif D 9 then cA (xi, tt) else cA zA), 28)] else []) ++ Lz) u ∧ (D 8 = false → u.heap.size = g8))) (AnyO.InvG.start (g := ()) (⟨HI.out.below (below_drew _), fun _ => HG8e.out.symm⟩)) ?_ ?_
  · intro i hi
    have hi2 : i = 0 ∨ i = 1 ∨ i = 2 ∨ i = 3 ∨ i = 4 ∨ i = 5 ∨ i = 6 ∨ i = 7 ∨ i = 8 ∨ i = 9 := by first | (simp only [List.size_toArray, List.length_cons, List.length_nil] at hi; omega) | (simp only [List.size_toArray, List.append_eq, List.length_append, List.length_cons, List.length_nil] at hi; omega)
    clear hi
    rcases hi2 with rfl | rfl | rfl | rfl | rfl | rfl | rfl | rfl | rfl | rfl
    · -- 0: Op.fieldAddr 57 (Operand.tmp 5) 1
      refine AnyO.StepI.mk rfl [] (by kernel_rfl) ?_
      intro D vs u hI h0 hC hp ac hb K hK
      obtain ⟨σ, hP, hW⟩ := hI
      have s5 : ac.tmps[5]?.getD undef = .pointer (some ⟨g5, 0, none⟩) := by rw [hb]; kernel_rfl
      rw [if_pos (AnyO.wanted_none rfl)]
      clear hb hp
      clear hC
      clear h0
      have HP := Lib.hid hP
      have HWq := Lib.hid hW
      clear hP hW
      go_simp
      have hP := HP.out
      have hW := HWq.out
      clear HP HWq
      exact hK _ _ (AnyO.InvG.step (g := σ) hP rfl hW)
    · -- 1: Op.fieldAddr 28 (Operand.tmp 28) 0
      refine AnyO.StepI.mk rfl [0] (by kernel_rfl) ?_
      intro D vs u hI h0 hC hp ac hb K hK
      obtain ⟨σ, hP, hW⟩ := hI
      have s28 : ac.tmps[28]?.getD undef = .pointer (some ⟨g5, 1, none⟩) := by rw [hb]; exact (show _ = vs 0 by kernel_rfl).trans (show vs 0 = .pointer (some ⟨g5, 1, none⟩) from hP 0 (hp 0 (by decide)))
      rw [if_pos (AnyO.wanted_none rfl)]
      clear hb hp
      clear hC
      clear h0
      have HP := Lib.hid hP
      have HWq := Lib.hid hW
      clear hP hW
      go_simp
      have hP := HP.out
      have hW := HWq.out
      clear HP HWq
      exact hK _ _ (AnyO.InvG.step (g := σ) hP rfl hW)
    · -- 2: Op.load 22 (Operand.tmp 29)
      refine AnyO.StepI.mk rfl [1] (by kernel_rfl) ?_
      intro D vs u hI h0 hC hp ac hb K hK
      obtain ⟨σ, hP, hW⟩ := hI
      have s29 : ac.tmps[29]?.getD undef = .pointer (some ⟨g5, 1, none⟩) := by rw [hb]; exact (show _ = vs 1 by kernel_rfl).trans (show vs 1 = .pointer (some ⟨g5, 1, none⟩) from hP 1 (hp 1 (by decide)))
      rw [if_pos (AnyO.wanted_none rfl)]
      clear hb hp
      have RR := hW.1.row (g := g5) (cs := cQ x) (ty := 57) (List.mem_append_right _ HM.out)
      obtain ⟨_, ⟨rr1, rr2⟩, rr3, _, _⟩ := row_Q RR
      rw [HXI.out.1] at rr2
      rw [HXI.out.2] at rr3
      clear RR
      clear hC
      clear h0
      have HP := Lib.hid hP
      have HWq := Lib.hid hW
      clear hP hW
      go_simp
      have hP := HP.out
      have hW := HWq.out
      clear HP HWq
      exact hK _ _ (AnyO.InvG.step (g := σ) hP rfl hW)
    · -- 3: Op.fieldAddr 57 (Operand.tmp 5) 1
      refine AnyO.StepI.mk rfl [] (by kernel_rfl) ?_
      intro D vs u hI h0 hC hp ac hb K hK
      obtain ⟨σ, hP, hW⟩ := hI
      have s5 : ac.tmps[5]?.getD undef = .pointer (some ⟨g5, 0, none⟩) := by rw [hb]; kernel_rfl
      rw [if_pos (AnyO.wanted_none rfl)]
      clear hb hp
      clear hC
      clear h0
      have HP := Lib.hid hP
      have HWq := Lib.hid hW
      clear hP hW
      go_simp
      have hP := HP.out
      have hW := HWq.out
      clear HP HWq
      exact hK _ _ (AnyO.InvG.step (g := σ) hP rfl hW)
    · -- 4: Op.fieldAddr 28 (Operand.tmp 31) 1
      refine AnyO.StepI.mk rfl [3] (by kernel_rfl) ?_
      intro D vs u hI h0 hC hp ac hb K hK
      obtain ⟨σ, hP, hW⟩ := hI
      have s31 : ac.tmps[31]?.getD undef = .pointer (some ⟨g5, 1, none⟩) := by rw [hb]; exact (show _ = vs 3 by kernel_rfl).trans (show vs 3 = .pointer (some ⟨g5, 1, none⟩) from hP 3 (hp 3 (by decide)))
      rw [if_pos (AnyO.wanted_none rfl)]
      clear hb hp
      clear hC
      clear h0
      have HP := Lib.hid hP
      have HWq := Lib.hid hW
      clear hP hW
      go_simp
      have hP := HP.out
      have hW := HWq.out
      clear HP HWq
      exact hK _ _ (AnyO.InvG.step (g := σ) hP rfl hW)
    · -- 5: Op.load 9 (Operand.tmp 32)
      refine AnyO.StepI.mk rfl [4] (by kernel_rfl) ?_
      intro D vs u hI h0 hC hp ac hb K hK
      obtain ⟨σ, hP, hW⟩ := hI
      have s32 : ac.tmps[32]?.getD undef = .pointer (some ⟨g5, 33, none⟩) := by rw [hb]; exact (show _ = vs 4 by kernel_rfl).trans (show vs 4 = .pointer (some ⟨g5, 33, none⟩) from hP 4 (hp 4 (by decide)))
      rw [if_pos (AnyO.wanted_none rfl)]
      clear hb hp
      have RR := hW.1.row (g := g5) (cs := cQ x) (ty := 57) (List.mem_append_right _ HM.out)
      obtain ⟨_, ⟨rr1, rr2⟩, rr3, _, _⟩ := row_Q RR
      rw [HXI.out.1] at rr2
      rw [HXI.out.2] at rr3
      clear RR
      clear hC
      clear h0
      have HP := Lib.hid hP
      have HWq := Lib.hid hW
      clear hP hW
      go_simp
      have hP := HP.out
      have hW := HWq.out
      clear HP HWq
      exact hK _ _ (AnyO.InvG.step (g := σ) hP rfl hW)
    · -- 6: Op.call { callee := Callee.value (Operand.func 16), args := 
      refine AnyO.StepI.mk rfl [5] (by kernel_rfl) ?_
      intro D vs u hI h0 hC hp ac hb K hK
      obtain ⟨σ, hP, hW⟩ := hI
      have s33 : ac.tmps[33]?.getD undef = .string xt := by rw [hb]; exact (show _ = vs 5 by kernel_rfl).trans (show vs 5 = .string xt from hP 5 (hp 5 (by decide)))
      rw [if_pos (AnyO.wanted_none rfl)]
      clear hb hp
      clear hC
      clear h0
      have HP := Lib.hid hP
      have HWq := Lib.hid hW
      clear hP hW
      go_simp
      have hP := HP.out
      have hW := HWq.out
      clear HP HWq
      go_at_call 16
      refine (cut16 xt u).mono ?_
      rintro e w2 ⟨rfl, rfl⟩
      rw [HT.out]
      exact hK _ _ (AnyO.InvG.step (g := σ) hP rfl hW)
    · -- 7: Op.build 28 #[(0, Operand.tmp 30), (1, Operand.tmp 34)]
      refine AnyO.StepI.mk rfl [2, 6] (by kernel_rfl) ?_
      intro D vs u hI h0 hC hp ac hb K hK
      obtain ⟨σ, hP, hW⟩ := hI
      have s30 : ac.tmps[30]?.getD undef = vI xi := by rw [hb]; exact (show _ = vs 2 by kernel_rfl).trans (show vs 2 = vI xi from hP 2 (hp 2 (by decide)))
      have s34 : ac.tmps[34]?.getD undef = .string tt := by rw [hb]; exact (show _ = vs 6 by kernel_rfl).trans (show vs 6 = .string tt from hP 6 (hp 6 (by decide)))
      rw [if_pos (AnyO.wanted_none rfl)]
      clear hb hp
      clear hC
      clear h0
      have HP := Lib.hid hP
      have HWq := Lib.hid hW
      clear hP hW
      go_simp
      have hP := HP.out
      have hW := HWq.out
      clear HP HWq
      exact hK _ _ (AnyO.InvG.step (g := σ) hP rfl hW)
    · -- 8: Op.alloc 28
      refine AnyO.StepI.mk rfl [] (by kernel_rfl) ?_
      intro D vs u hI h0 hC hp ac hb K hK
      obtain ⟨σ, hP, hW⟩ := hI
      rw [if_pos (AnyO.wanted_none rfl)]
      clear hb hp
      have hf9 : D 9 = false := by
        rcases hd : D 9 with _ | _
        · rfl
        · have hz := hC 9 hd 8 (by rw [show AnyO.pre _ 9 = [8, 7, 6, 0, 1, 2, 3, 4, 5, 6, 7, 8] from by kernel_rfl]; decide)
          rw [h0] at hz
          cases hz
      have hu := hW.2 h0
      clear hC
      have HP := Lib.hid hP
      have HWq := Lib.hid hW
      clear hP hW
      go_simp
      have hP := HP.out
      have hW := HWq.out
      clear HP HWq
      rw [h0] at hW
      have hA := hW.1.alloc (cA zA) 28
      rw [hu] at hA
      refine hK _ _ (AnyO.InvG.step (g := σ) hP rfl ⟨?_, fun h => by cases h⟩)
      show InvR w0 b ch s sr r ([(g8, (bif D 9 then cA (xi, tt) else cA zA), 28)] ++ Lz) _
      rw [hf9]
      exact hA
    · -- 9: Op.store 28 (Operand.tmp 8) (Operand.tmp 35)
      refine AnyO.StepI.mk rfl [8, 7, 6, 0, 1, 2, 3, 4, 5, 6, 7, 8] (by kernel_rfl) ?_
      intro D vs u hI h0 hC hp ac hb K hK
      obtain ⟨σ, hP, hW⟩ := hI
      have s8 : ac.tmps[8]?.getD undef = .pointer (some ⟨g8, 0, none⟩) := by rw [hb]; exact (show _ = vs 8 by kernel_rfl).trans (show vs 8 = .pointer (some ⟨g8, 0, none⟩) from hP 8 (hp 8 (by decide)))
      have s35 : ac.tmps[35]?.getD undef = vA (xi, tt) := by rw [hb]; exact (show _ = vs 7 by kernel_rfl).trans (show vs 7 = vA (xi, tt) from hP 7 (hp 7 (by decide)))
      rw [if_pos (AnyO.wanted_none rfl)]
      have hp8 : D 8 = true := hp 8 (by decide)
      clear hb hp
      have h8 := hp8
      rw [h0, h8] at hW
      have RR := hW.1.row (g := g8) (cs := cA zA) (ty := 28) List.mem_cons_self
      have rr := RR.rok (cA_length zA)
      clear RR
      clear hC
      have HP := Lib.hid hP
      have HWq := Lib.hid hW
      clear hP hW
      go_simp
      have hP := HP.out
      have hW := HWq.out
      clear HP HWq
      refine hK undef _ (AnyO.InvG.step (g := σ) hP trivial ⟨?_, fun h => by cases h8.symm.trans h⟩)
      show InvR w0 b ch s sr r ((bif D 8 then [(g8, cA (xi, tt), 28)] else []) ++ Lz) _
      rw [h8]
      exact InvR.setRow (cs := cA zA) hW.1 HG8.out.1 HG8.out.2 (cA (xi, tt))
  · intro D vs u hI hD
    obtain ⟨σ, hP, hW⟩ := hI
    have e0 : vs 0 = .pointer (some ⟨g5, 1, none⟩) := hP 0 (hD 0 (by decide))
    have e1 : vs 1 = .pointer (some ⟨g5, 1, none⟩) := hP 1 (hD 1 (by decide))
    have e2 : vs 2 = vI xi := hP 2 (hD 2 (by decide))
    have e3 : vs 3 = .pointer (some ⟨g5, 1, none⟩) := hP 3 (hD 3 (by decide))
    have e4 : vs 4 = .pointer (some ⟨g5, 33, none⟩) := hP 4 (hD 4 (by decide))
    have e5 : vs 5 = .string xt := hP 5 (hD 5 (by decide))
    have e6 : vs 6 = .string tt := hP 6 (hD 6 (by decide))
    have e7 : vs 7 = vA (xi, tt) := hP 7 (hD 7 (by decide))
    have e8 : vs 8 = .pointer (some ⟨g8, 0, none⟩) := hP 8 (hD 8 (by decide))
    rw [hD 8 (by decide), hD 9 (by decide)] at hW
    change InvR w0 b ch s sr r ((g8, cA (xi, tt), 28) :: Lz) u ∧ _ at hW
    have HW := Lib.hid hW
    clear hW hP hD
    rw [puts_range [some 28, some 29, some 30, some 31, some 32, some 33, some 34, some 35, some 8, none] (by kernel_rfl)]
    simp only [putL, Nat.reduceAdd, e0, e1, e2, e3, e4, e5, e6, e7, e8]
    clear e0 e1 e2 e3 e4 e5 e6 e7 e8
    have R4 := HW.out.1.row (g := g4) (cs := cR r) (ty := 32) (List.mem_cons_of_mem _ HM4.out)
    obtain ⟨m4, m4'⟩ := R4.okw (cR_length r)
    change rdA _ _ 38 = vR r at m4'
    obtain ⟨m8, m8'⟩ := (HW.out.1.row (g := g8) (cs := cA (xi, tt)) (ty := 28) List.mem_cons_self).okw (cA_length _)
    change rdA _ _ 33 = vA (xi, tt) at m8'
    clear R4
    have T0 : True := trivial
    go_simp
    go_wp2_with (have hh := T0; clear hh T0; go_at_call 14; refine (HW.out.1.ref (val := fun q => .tuple #[vR q, .int .i64 ec2]) (sr' := s2) (fun F hF ha => by have hh := refAdd14 F ch sr r xi tt _ ha hF (Nat.le_trans HX.out.2.2.2.2.len (by decide)); rw [HS.out.2] at hh; exact hh)).mono ?_; rintro e w3 ⟨r2, rfl, hI3⟩; have Hn2 := Lib.hid (hI3.lts (g8, cA (xi, tt), 28) List.mem_cons_self); have H3 := Lib.hid (hI3.alloc (cR r2) 32); clear hI3)
    obtain ⟨U, hU⟩ : ∃ U, w3.alloc (.cells (aR r2) 32) = U := ⟨_, rfl⟩
    have HI1 : InvR w0 b ch s s2 r2 ((w3.heap.size, cR r2, 32) :: (g8, cA (xi, tt), 28) :: Lz) U := by rw [← hU]; exact H3.out
    rw [hU]
    have hn2 := Hn2.out
    have hn6 := HN6.out
    have hg6 := HGE.out.1
    obtain ⟨g9, hg9⟩ : ∃ g9, g9 = w3.heap.size := ⟨_, rfl⟩
    obtain ⟨Lq, hLq⟩ : ∃ Lq : List (Nat × List Value × TypeId), Lq = (g8, cA (xi, tt), 28) :: (g9, cR r2, 32) :: L := ⟨_, rfl⟩
    have HG := Lib.hid (show w0.heap.size ≤ g6 ∧ ∀ y ∈ Lq, y.1 ≠ g6 from ⟨by have := HX.out.2.2.1; omega, fun y hy => by
      rw [hLq] at hy
      simp only [List.mem_cons] at hy
      rcases hy with rfl | rfl | hy
      · show g8 ≠ g6; omega
      · show g9 ≠ g6; omega
      · have := HX.out.2.1 y hy; omega⟩)
    have HI2 := Lib.hid (show InvR w0 b ch s s2 r2 ((g6, cR zR, 32) :: Lq) U from HI1.sub fun y hy => by
      rw [hLq, hg9] at hy
      rw [hLz]
      simp only [List.mem_cons] at hy ⊢
      rcases hy with rfl | rfl | rfl | hy
      · simp
      · simp
      · simp
      · simp [hy])
    rw [← hg9]
    obtain ⟨q, hq⟩ : ∃ q, (ec1 == ec2) = q := ⟨_, rfl⟩
    have HE := Lib.hid (show s = sr → q = true from fun e => by rw [← hq, HE1.out e]; simp)
    have HQ := Lib.hid hq
    clear hg6 m4 m4' m8 m8' hU hg9 hn2 hn6 HI1 H3 hq Hn2 HW

    refine AnyO.wp_anyI (by kernel_rfl) (by kernel_rfl) (AnyO.InvG (σ := Unit) (fun σ => AnyO.pvL [some (vR r2), some (.pointer (some ⟨b, 0, none⟩)), some (.pointer (some ⟨g8, 0, none⟩)), some (vI xi), some (.pointer (some ⟨g8, 32, none⟩)), some (.string tt), some (.int .i64 ec1), some (.int .i64 ec2), some (.bool q), none, some (.bool q)]) (fun _ D u => InvR w0 b ch (bif D 6 then s1 else s) s2 r2 ((g6, (bif D 9 then cR r2 else cR zR), 32) :: Lq) u)) (AnyO.InvG.start (g := ()) (HI2.out.below (below_drew _))) ?_ ?_
    · intro i hi
      have hi2 : i = 0 ∨ i = 1 ∨ i = 2 ∨ i = 3 ∨ i = 4 ∨ i = 5 ∨ i = 6 ∨ i = 7 ∨ i = 8 ∨ i = 9 ∨ i = 10 := by first | (simp only [List.size_toArray, List.length_cons, List.length_nil] at hi; omega) | (simp only [List.size_toArray, List.append_eq, List.length_append, List.length_cons, List.length_nil] at hi; omega)
      clear hi
      rcases hi2 with rfl | rfl | rfl | rfl | rfl | rfl | rfl | rfl | rfl | rfl | rfl
      · -- 0: Op.load 32 (Operand.tmp 9)
        refine AnyO.StepI.mk rfl [] (by kernel_rfl) ?_
        intro D vs u hI h0 hC hp ac hb K hK
        obtain ⟨σ, hP, hW⟩ := hI
        have s9 : ac.tmps[9]?.getD undef = .pointer (some ⟨g9, 0, none⟩) := by rw [hb]; kernel_rfl
        rw [if_pos (AnyO.wanted_none rfl)]
        clear hb hp
        subst hLq
        have RR := hW.row (g := g9) (cs := cR r2) (ty := 32) (by with_reducible repeat (first | exact List.mem_cons_self | apply List.mem_cons_of_mem))
        obtain ⟨rr1, rr2⟩ := RR.okw (cR_length _)
        change rdA _ _ _ = vR r2 at rr2
        clear RR
        clear hC
        clear h0
        have HP := Lib.hid hP
        have HWq := Lib.hid hW
        clear hP hW
        go_simp
        have hP := HP.out
        have hW := HWq.out
        clear HP HWq
        exact hK _ _ (AnyO.InvG.step (g := σ) hP rfl hW)
      · -- 1: Op.move (Operand.tmp 0)
        refine AnyO.StepI.mk rfl [] (by kernel_rfl) ?_
        intro D vs u hI h0 hC hp ac hb K hK
        obtain ⟨σ, hP, hW⟩ := hI
        have s0 : ac.tmps[0]?.getD undef = .pointer (some ⟨b, 0, none⟩) := by rw [hb]; kernel_rfl
        rw [if_pos (AnyO.wanted_none rfl)]
        clear hb hp
        clear hC
        clear h0
        have HP := Lib.hid hP
        have HWq := Lib.hid hW
        clear hP hW
        go_simp
        have hP := HP.out
        have hW := HWq.out
        clear HP HWq
        exact hK _ _ (AnyO.InvG.step (g := σ) hP rfl hW)
      · -- 2: Op.fieldAddr 28 (Operand.tmp 8) 0
        refine AnyO.StepI.mk rfl [] (by kernel_rfl) ?_
        intro D vs u hI h0 hC hp ac hb K hK
        obtain ⟨σ, hP, hW⟩ := hI
        have s8 : ac.tmps[8]?.getD undef = .pointer (some ⟨g8, 0, none⟩) := by rw [hb]; kernel_rfl
        rw [if_pos (AnyO.wanted_none rfl)]
        clear hb hp
        clear hC
        clear h0
        have HP := Lib.hid hP
        have HWq := Lib.hid hW
        clear hP hW
        go_simp
        have hP := HP.out
        have hW := HWq.out
        clear HP HWq
        exact hK _ _ (AnyO.InvG.step (g := σ) hP rfl hW)
      · -- 3: Op.load 22 (Operand.tmp 44)
        refine AnyO.StepI.mk rfl [2] (by kernel_rfl) ?_
        intro D vs u hI h0 hC hp ac hb K hK
        obtain ⟨σ, hP, hW⟩ := hI
        have s44 : ac.tmps[44]?.getD undef = .pointer (some ⟨g8, 0, none⟩) := by rw [hb]; exact (show _ = vs 2 by kernel_rfl).trans (show vs 2 = .pointer (some ⟨g8, 0, none⟩) from hP 2 (hp 2 (by decide)))
        rw [if_pos (AnyO.wanted_none rfl)]
        clear hb hp
        subst hLq
        have RR := hW.row (g := g8) (cs := cA (xi, tt)) (ty := 28) (by with_reducible repeat (first | exact List.mem_cons_self | apply List.mem_cons_of_mem))
        obtain ⟨⟨rr1, rr2⟩, _⟩ := row_A RR
        clear RR
        clear hC
        clear h0
        have HP := Lib.hid hP
        have HWq := Lib.hid hW
        clear hP hW
        go_simp
        have hP := HP.out
        have hW := HWq.out
        clear HP HWq
        exact hK _ _ (AnyO.InvG.step (g := σ) hP rfl hW)
      · -- 4: Op.fieldAddr 28 (Operand.tmp 8) 1
        refine AnyO.StepI.mk rfl [] (by kernel_rfl) ?_
        intro D vs u hI h0 hC hp ac hb K hK
        obtain ⟨σ, hP, hW⟩ := hI
        have s8 : ac.tmps[8]?.getD undef = .pointer (some ⟨g8, 0, none⟩) := by rw [hb]; kernel_rfl
        rw [if_pos (AnyO.wanted_none rfl)]
        clear hb hp
        clear hC
        clear h0
        have HP := Lib.hid hP
        have HWq := Lib.hid hW
        clear hP hW
        go_simp
        have hP := HP.out
        have hW := HWq.out
        clear HP HWq
        exact hK _ _ (AnyO.InvG.step (g := σ) hP rfl hW)
      · -- 5: Op.load 9 (Operand.tmp 46)
        refine AnyO.StepI.mk rfl [4] (by kernel_rfl) ?_
        intro D vs u hI h0 hC hp ac hb K hK
        obtain ⟨σ, hP, hW⟩ := hI
        have s46 : ac.tmps[46]?.getD undef = .pointer (some ⟨g8, 32, none⟩) := by rw [hb]; exact (show _ = vs 4 by kernel_rfl).trans (show vs 4 = .pointer (some ⟨g8, 32, none⟩) from hP 4 (hp 4 (by decide)))
        rw [if_pos (AnyO.wanted_none rfl)]
        clear hb hp
        subst hLq
        have RR := hW.row (g := g8) (cs := cA (xi, tt)) (ty := 28) (by with_reducible repeat (first | exact List.mem_cons_self | apply List.mem_cons_of_mem))
        obtain ⟨_, rr1, _⟩ := row_A RR
        clear RR
        clear hC
        clear h0
        have HP := Lib.hid hP
        have HWq := Lib.hid hW
        clear hP hW
        go_simp
        have hP := HP.out
        have hW := HWq.out
        clear HP HWq
        exact hK _ _ (AnyO.InvG.step (g := σ) hP rfl hW)
      · -- 6: Op.call { callee := Callee.value (Operand.func 15), args := 
        refine AnyO.StepI.mk rfl [1, 3, 5] (by kernel_rfl) ?_
        intro D vs u hI h0 hC hp ac hb K hK
        obtain ⟨σ, hP, hW⟩ := hI
        have s43 : ac.tmps[43]?.getD undef = .pointer (some ⟨b, 0, none⟩) := by rw [hb]; exact (show _ = vs 1 by kernel_rfl).trans (show vs 1 = .pointer (some ⟨b, 0, none⟩) from hP 1 (hp 1 (by decide)))
        have s45 : ac.tmps[45]?.getD undef = vI xi := by rw [hb]; exact (show _ = vs 3 by kernel_rfl).trans (show vs 3 = vI xi from hP 3 (hp 3 (by decide)))
        have s47 : ac.tmps[47]?.getD undef = .string tt := by rw [hb]; exact (show _ = vs 5 by kernel_rfl).trans (show vs 5 = .string tt from hP 5 (hp 5 (by decide)))
        rw [if_pos (AnyO.wanted_none rfl)]
        clear hb hp
        clear hC
        have HP := Lib.hid hP
        have HWq := Lib.hid hW
        clear hP hW
        go_simp
        have hP := HP.out
        have hW := HWq.out
        clear HP HWq
        go_at_call 15
        rw [h0] at hW
        refine (InvR.call (s' := s1) hW (fun F hF => by have hh := add15 b ch s F xi tt _ hF (Nat.le_trans HX.out.2.2.2.1.len (by decide)); rw [HS.out.1] at hh; exact hh)).mono ?_
        rintro e w2 ⟨rfl, hI9⟩
        exact hK _ _ (AnyO.InvG.step (g := σ) hP rfl hI9)
      · -- 7: Op.move (Operand.tmp 10)
        refine AnyO.StepI.mk rfl [] (by kernel_rfl) ?_
        intro D vs u hI h0 hC hp ac hb K hK
        obtain ⟨σ, hP, hW⟩ := hI
        have s10 : ac.tmps[10]?.getD undef = .int .i64 ec2 := by rw [hb]; kernel_rfl
        rw [if_pos (AnyO.wanted_none rfl)]
        clear hb hp
        clear hC
        clear h0
        have HP := Lib.hid hP
        have HWq := Lib.hid hW
        clear hP hW
        go_simp
        have hP := HP.out
        have hW := HWq.out
        clear HP HWq
        exact hK _ _ (AnyO.InvG.step (g := σ) hP rfl hW)
      · -- 8: Op.binOp BinOp.eql 3 (Operand.tmp 48) (Operand.tmp 49) 3
        refine AnyO.StepI.mk rfl [6, 7] (by kernel_rfl) ?_
        intro D vs u hI h0 hC hp ac hb K hK
        obtain ⟨σ, hP, hW⟩ := hI
        have s48 : ac.tmps[48]?.getD undef = .int .i64 ec1 := by rw [hb]; exact (show _ = vs 6 by kernel_rfl).trans (show vs 6 = .int .i64 ec1 from hP 6 (hp 6 (by decide)))
        have s49 : ac.tmps[49]?.getD undef = .int .i64 ec2 := by rw [hb]; exact (show _ = vs 7 by kernel_rfl).trans (show vs 7 = .int .i64 ec2 from hP 7 (hp 7 (by decide)))
        rw [if_pos (AnyO.wanted_none rfl)]
        clear hb hp
        have e := HQ.out
        clear hC
        clear h0
        have HP := Lib.hid hP
        have HWq := Lib.hid hW
        clear hP hW
        go_simp
        have hP := HP.out
        have hW := HWq.out
        clear HP HWq
        exact hK _ _ (AnyO.InvG.step (g := σ) hP rfl hW)
      · -- 9: Op.store 32 (Operand.tmp 6) (Operand.tmp 42)
        refine AnyO.StepI.mk rfl [0, 6, 0] (by kernel_rfl) ?_
        intro D vs u hI h0 hC hp ac hb K hK
        obtain ⟨σ, hP, hW⟩ := hI
        have s6 : ac.tmps[6]?.getD undef = .pointer (some ⟨g6, 0, none⟩) := by rw [hb]; kernel_rfl
        have s42 : ac.tmps[42]?.getD undef = vR r2 := by rw [hb]; exact (show _ = vs 0 by kernel_rfl).trans (show vs 0 = vR r2 from hP 0 (hp 0 (by decide)))
        rw [if_pos (AnyO.wanted_none rfl)]
        have hp6 : D 6 = true := hp 6 (by decide)
        clear hb hp
        have h6 := hp6
        rw [h0, h6] at hW
        have rr := (hW.row (g := g6) (cs := cR zR) (ty := 32) List.mem_cons_self).rok (cR_length zR)
        clear hC
        have HP := Lib.hid hP
        have HWq := Lib.hid hW
        clear hP hW
        go_simp
        have hP := HP.out
        have hW := HWq.out
        clear HP HWq
        refine hK undef _ (AnyO.InvG.step (g := σ) hP trivial ?_)
        show InvR w0 b ch (bif D 6 then s1 else s) s2 r2 ((g6, cR r2, 32) :: Lq) _
        rw [h6]
        exact InvR.setRow (cs := cR zR) hW HG.out.1 HG.out.2 (cR r2)
      · -- 10: Op.assign (Operand.tmp 50)
        refine AnyO.StepI.mk rfl [8, 9, 0, 1, 2, 3, 4, 5, 6, 7, 8, 9] (by kernel_rfl) ?_
        intro D vs u hI h0 hC hp ac hb K hK
        obtain ⟨σ, hP, hW⟩ := hI
        have s50 : ac.tmps[50]?.getD undef = .bool q := by rw [hb]; exact (show _ = vs 8 by kernel_rfl).trans (show vs 8 = .bool q from hP 8 (hp 8 (by decide)))
        rw [if_pos (AnyO.wanted_none rfl)]
        clear hb hp
        clear hC
        clear h0
        have HP := Lib.hid hP
        have HWq := Lib.hid hW
        clear hP hW
        go_simp
        have hP := HP.out
        have hW := HWq.out
        clear HP HWq
        exact hK _ _ (AnyO.InvG.step (g := σ) hP rfl hW)
    · intro D vs u hI hD
      obtain ⟨σ, hP, hW⟩ := hI
      have e0 : vs 0 = vR r2 := hP 0 (hD 0 (by decide))
      have e1 : vs 1 = .pointer (some ⟨b, 0, none⟩) := hP 1 (hD 1 (by decide))
      have e2 : vs 2 = .pointer (some ⟨g8, 0, none⟩) := hP 2 (hD 2 (by decide))
      have e3 : vs 3 = vI xi := hP 3 (hD 3 (by decide))
      have e4 : vs 4 = .pointer (some ⟨g8, 32, none⟩) := hP 4 (hD 4 (by decide))
      have e5 : vs 5 = .string tt := hP 5 (hD 5 (by decide))
      have e6 : vs 6 = .int .i64 ec1 := hP 6 (hD 6 (by decide))
      have e7 : vs 7 = .int .i64 ec2 := hP 7 (hD 7 (by decide))
      have e8 : vs 8 = .bool q := hP 8 (hD 8 (by decide))
      have e10 : vs 10 = .bool q := hP 10 (hD 10 (by decide))
      rw [hD 6 (by decide), hD 9 (by decide)] at hW
      change InvR w0 b ch s1 s2 r2 ((g6, cR r2, 32) :: Lq) u at hW
      have HW := Lib.hid hW
      clear hW hP hD
      rw [puts_range [some 42, some 43, some 44, some 45, some 46, some 47, some 48, some 49, some 50, none, some 7] (by kernel_rfl)]
      simp only [putL, Nat.reduceAdd, e0, e1, e2, e3, e4, e5, e6, e7, e8, e10]
      clear e0 e1 e2 e3 e4 e5 e6 e7 e8 e10
      go_simp
      go_wp2
      exact bodyPost_ret (v := .tuple #[vR r2, .bool q]) (results_c2 (ad := ⟨g6, 0, none⟩) rfl rfl (load_R (HW.out.row List.mem_cons_self)) rfl) rfl ⟨r2, q, rfl, HE.out, HW.out.sub (by rw [hLq]; exact fun y hy => List.mem_cons_of_mem _ (List.mem_cons_of_mem _ (List.mem_cons_of_mem _ hy)))⟩


set_option maxRecDepth 100000 in
set_option maxHeartbeats 3200000 in
theorem do22_hear_bad (w0 : BW) (b : Nat) (ch : Int) (s sr : St) (r : Rs) (x : Rop) (L : List (Nat × List Value × TypeId)) (w : World) (h : InvR w0 b ch s sr r L w) (g : Good ch s) (gr : Good ch sr) (hL : Laid w0) (hm : s.outs.length ≤ 100000) (hk : (x.kind.toNat : Int).tmod 5 = 2) (hchk : chk (toS x.c) ≠ 0) : Calls Tryd.prog 22 #[.pointer (some ⟨b, 0, none⟩), vR r, vQ x] w (DoE w0 b ch (hearS s (toS x.c)).1 (hearS sr (toS x.c)).1 (s = sr) L) := by
  have hI := h.enterDo x
  have hlts := h.lts
  have hB := h.bel.size
  obtain ⟨W3, hW⟩ : ∃ W3, ((w.alloc (.cells (aR r) 32)).alloc (.cells (aQ x) 57)).alloc (.cells (aR zR) 32) = W3 := ⟨_, rfl⟩
  rw [hW] at hI
  have r4 := hI.row (g := w.heap.size) (cs := cR r) (ty := 32) (by unfold doL; simp)
  have r5 := hI.row (g := w.heap.size + 1) (cs := cQ x) (ty := 57) (by unfold doL; simp)
  have r6 := hI.row (g := w.heap.size + 1 + 1) (cs := cR zR) (ty := 32) (by unfold doL; simp)
  obtain ⟨k1, ⟨k2, k2'⟩, k3, ⟨k4, k4'⟩, k5⟩ := row_Q r5
  obtain ⟨m4, m4'⟩ := r4.okw (cR_length r)
  change rdA _ _ 38 = vR r at m4'
  have n6 := r6.lt
  clear r4 r5 r6
  obtain ⟨c, hc⟩ : ∃ c, toS x.c = c := ⟨_, rfl⟩
  have HC := Lib.hid hc
  have HNM := Lib.hid (show c.name = ⟨#[]⟩ by rw [← hc]; rfl)
  rw [hc] at hchk ⊢
  obtain ⟨s1, ec1, hs1⟩ : ∃ s1 ec1, hearS s c = (s1, ec1) := ⟨_, _, rfl⟩
  obtain ⟨s2, ec2, hs2⟩ : ∃ s2 ec2, hearS sr c = (s2, ec2) := ⟨_, _, rfl⟩
  rw [hs1, hs2]
  dsimp only
  have b1 : hearS s c = (s, chk c) := by unfold hearS; rw [if_pos hchk]
  have b2 : hearS sr c = (sr, chk c) := by unfold hearS; rw [if_pos hchk]
  obtain ⟨f, hf⟩ : ∃ f, chk c = f := ⟨_, rfl⟩
  rw [b1, hf] at hs1
  rw [b2, hf] at hs2
  injection hs1 with e1 e2
  injection hs2 with e3 e4
  subst e1 e2 e3 e4
  rw [hf] at hchk b1
  have hf0 : (f != 0) = true := by simpa using hchk
  have HX := Lib.hid (And.intro hI (And.intro hlts (And.intro hB (And.intro g (And.intro gr (And.intro hL hm))))))
  have HF := Lib.hid (And.intro b1 hf)
  clear h hI hlts hB g gr hL hm hc b1 b2 hf hchk k1 k2 k2' k3
  have k1 : W3.cell? ⟨w.heap.size + 1, 0, none⟩ = some (.int .u8 (x.kind.toNat : Int)) := (HX.out.1.row (g := w.heap.size + 1) (cs := cQ x) (ty := 57) (by unfold doL; simp)).cell 0
  have T0 : True := trivial
  go_enter Tryd.func22, Tryd.ntmps22
  go_wp2_with (first
    | (have hh := T0; clear hh T0; go_at_call 30; refine (to30 x.c _).mono ?_; rintro e w1 ⟨rfl, hb1⟩; rw [HC.out]; have hI1 := HX.out.1.below hb1; have H1 := Lib.hid (hI1.alloc (cC c) 45); clear hI1 hb1; have T1 : True := trivial)
    | (have hh := T1; clear hh T1; go_at_call 19; refine (H1.out.call (s' := s) (fun F hF => by have hh := hear19 b ch s F c _ hF HX.out.2.2.2.1 (HX.out.2.2.2.2.2.1.keep H1.out.bel) HNM.out HX.out.2.2.2.2.2.2; rw [HF.out.1] at hh; exact hh)).mono ?_; rintro e w2 ⟨rfl, hI2⟩; obtain ⟨y16, y16'⟩ := (hI2.row (g := w1.heap.size) (cs := cC c) (ty := 45) (by unfold doL; simp)).okw (cC_length _); change rdA _ _ _ = vC c at y16'; have y16l := (hI2.row (g := w1.heap.size) (cs := cC c) (ty := 45) (by unfold doL; simp)).lt; have H2 := Lib.hid hI2; clear hI2; have T2 : True := trivial)
    | (have hh := T2; clear hh T2; go_at_call 41; refine (check41 c _ (HX.out.2.2.2.2.2.1.1.keep H2.out.bel) HNM.out).mono ?_; rintro e w3 ⟨rfl, hb3⟩; rw [HF.out.2]; have hI3 := H2.out.below hb3; clear y16 y16'; obtain ⟨y4, y4'⟩ := (hI3.row (g := w.heap.size) (cs := cR r) (ty := 32) (by unfold doL; simp)).okw (cR_length _); change rdA _ _ _ = vR r at y4'; have y4l := (hI3.row (g := w.heap.size) (cs := cR r) (ty := 32) (by unfold doL; simp)).lt; have y6 := (hI3.row (g := w.heap.size + 1 + 1) (cs := cR zR) (ty := 32) (by unfold doL; simp)).rok (cR_length zR); have H3 := Lib.hid hI3; clear hI3 hb3))
  obtain ⟨q1, q2⟩ := (H3.out.sub (L' := doL w.heap.size r x zR L) (fun y hy => List.mem_cons_of_mem _ hy)).leaveDo HX.out.2.2.1 HX.out.2.1 rfl
  exact bodyPost_ret (v := .tuple #[vR r, .bool true]) (results_c2 (ad := ⟨w.heap.size + 1 + 1, 0, none⟩) rfl rfl (load_R q1) rfl) rfl ⟨r, true, rfl, fun _ => rfl, q2⟩
set_option maxRecDepth 100000 in
set_option maxHeartbeats 3200000 in
theorem do22_hear_ok (w0 : BW) (b : Nat) (ch : Int) (s sr : St) (r : Rs) (x : Rop) (L : List (Nat × List Value × TypeId)) (w : World) (h : InvR w0 b ch s sr r L w) (g : Good ch s) (gr : Good ch sr) (hL : Laid w0) (hm : s.outs.length ≤ 100000) (hmr : sr.outs.length ≤ 100000) (hk : (x.kind.toNat : Int).tmod 5 = 2) (hchk : chk (toS x.c) = 0) : Calls Tryd.prog 22 #[.pointer (some ⟨b, 0, none⟩), vR r, vQ x] w (DoE w0 b ch (hearS s (toS x.c)).1 (hearS sr (toS x.c)).1 (s = sr) L) := by
  have hI := h.enterDo x
  have hlts := h.lts
  have hB := h.bel.size
  obtain ⟨W3, hW⟩ : ∃ W3, ((w.alloc (.cells (aR r) 32)).alloc (.cells (aQ x) 57)).alloc (.cells (aR zR) 32) = W3 := ⟨_, rfl⟩
  rw [hW] at hI
  have r4 := hI.row (g := w.heap.size) (cs := cR r) (ty := 32) (by unfold doL; simp)
  have r5 := hI.row (g := w.heap.size + 1) (cs := cQ x) (ty := 57) (by unfold doL; simp)
  have r6 := hI.row (g := w.heap.size + 1 + 1) (cs := cR zR) (ty := 32) (by unfold doL; simp)
  obtain ⟨k1, ⟨k2, k2'⟩, k3, ⟨k4, k4'⟩, k5⟩ := row_Q r5
  obtain ⟨m4, m4'⟩ := r4.okw (cR_length r)
  change rdA _ _ 38 = vR r at m4'
  have n6 := r6.lt
  clear r4 r5 r6
  obtain ⟨c, hc⟩ : ∃ c, toS x.c = c := ⟨_, rfl⟩
  have HC := Lib.hid hc
  have HNM := Lib.hid (show c.name = ⟨#[]⟩ by rw [← hc]; rfl)
  rw [hc] at hchk ⊢
  obtain ⟨s1, ec1, hs1⟩ : ∃ s1 ec1, hearS s c = (s1, ec1) := ⟨_, _, rfl⟩
  obtain ⟨s2, ec2, hs2⟩ : ∃ s2 ec2, hearS sr c = (s2, ec2) := ⟨_, _, rfl⟩
  rw [hs1, hs2]
  dsimp only
  have HE1 := Lib.hid (fun e : s = sr => show ec1 = ec2 by rw [e, hs2] at hs1; exact congrArg Prod.snd hs1.symm)
  have HX := Lib.hid (And.intro hI (And.intro hlts (And.intro hB (And.intro g (And.intro gr (And.intro hL (And.intro hm hmr)))))))
  have HF := Lib.hid (And.intro hs1 (And.intro hchk hs2))
  clear h hI hlts hB g gr hL hm hmr hc hs1 hs2 hchk k1 k2 k2' k3
  have k1 : W3.cell? ⟨w.heap.size + 1, 0, none⟩ = some (.int .u8 (x.kind.toNat : Int)) := (HX.out.1.row (g := w.heap.size + 1) (cs := cQ x) (ty := 57) (by unfold doL; simp)).cell 0
  have T0 : True := trivial
  go_enter Tryd.func22, Tryd.ntmps22
  go_wp2_with (first
    | (have hh := T0; clear hh T0; go_at_call 30; refine (to30 x.c _).mono ?_; rintro e w1 ⟨rfl, hb1⟩; rw [HC.out]; have hI1 := HX.out.1.below hb1; have H1 := Lib.hid (hI1.alloc (cC c) 45); have Hn1 := Lib.hid (hI1.lts (w.heap.size + 1 + 1, cR zR, 32) (by unfold doL; simp)); clear hI1 hb1; have T1 : True := trivial)
    | (have hh := T1; clear hh T1; go_at_call 19; refine (H1.out.call (s' := s1) (fun F hF => by have hh := hear19 b ch s F c _ hF HX.out.2.2.2.1 (HX.out.2.2.2.2.2.1.keep H1.out.bel) HNM.out HX.out.2.2.2.2.2.2.1; rw [HF.out.1] at hh; exact hh)).mono ?_; rintro e w2 ⟨rfl, hI2⟩; obtain ⟨y16, y16'⟩ := (hI2.row (g := w1.heap.size) (cs := cC c) (ty := 45) (by unfold doL; simp)).okw (cC_length _); change rdA _ _ _ = vC c at y16'; have y16l := (hI2.row (g := w1.heap.size) (cs := cC c) (ty := 45) (by unfold doL; simp)).lt; have H2 := Lib.hid hI2; clear hI2; have T2 : True := trivial)
    | (have hh := T2; clear hh T2; go_at_call 41; refine (check41 c _ (HX.out.2.2.2.2.2.1.1.keep H2.out.bel) HNM.out).mono ?_; rintro e U ⟨rfl, hb3⟩; rw [HF.out.2.1]; have hI3 := H2.out.below hb3; clear y16 y16' y16l; have H3 := Lib.hid hI3; clear hI3 hb3))
  obtain ⟨g4, hg4⟩ : ∃ g4, g4 = w.heap.size := ⟨_, rfl⟩
  obtain ⟨g5, hg5⟩ : ∃ g5, g5 = w.heap.size + 1 := ⟨_, rfl⟩
  obtain ⟨g6, hg6⟩ : ∃ g6, g6 = w.heap.size + 1 + 1 := ⟨_, rfl⟩
  obtain ⟨g16, hg16⟩ : ∃ g16, g16 = w1.heap.size := ⟨_, rfl⟩
  obtain ⟨Lz, hLz⟩ : ∃ Lz : List (Nat × List Value × TypeId), Lz = (g6, cR zR, 32) :: (g16, cC c, 45) :: (g4, cR r, 32) :: L := ⟨_, rfl⟩
  have HI := Lib.hid (show InvR w0 b ch s1 sr r Lz U from H3.out.sub fun y hy => by
    rw [hLz, hg4, hg6, hg16] at hy
    unfold doL
    simp only [List.mem_cons] at hy ⊢
    rcases hy with rfl | rfl | rfl | hy
    · simp
    · simp
    · simp
    · simp [hy])
  have HM16 := Lib.hid (show (g16, cC c, 45) ∈ Lz from by rw [hLz]; with_reducible repeat (first | exact List.mem_cons_self | apply List.mem_cons_of_mem))
  have HM4 := Lib.hid (show (g4, cR r, 32) ∈ Lz from by rw [hLz]; with_reducible repeat (first | exact List.mem_cons_self | apply List.mem_cons_of_mem))
  have HG6 := Lib.hid (show w0.heap.size ≤ g6 ∧ ∀ y ∈ (g16, cC c, 45) :: (g4, cR r, 32) :: L, y.1 ≠ g6 from ⟨by have := HX.out.2.2.1; omega, fun y hy => by
    simp only [List.mem_cons] at hy
    have := Hn1.out
    rcases hy with rfl | rfl | hy
    · show g16 ≠ g6; omega
    · show g4 ≠ g6; omega
    · have := HX.out.2.1 y hy; omega⟩)
  rw [← hg16, ← hg6, ← hg5, ← hg4]
  obtain ⟨q, hq⟩ : ∃ q, (ec1 == ec2) = q := ⟨_, rfl⟩
  have HE := Lib.hid (show s = sr → q = true from fun e => by rw [← hq, HE1.out e]; simp)
  have HQ := Lib.hid hq
  clear hg16 hg4 hg5 hg6 hq H3 H2 H1 m4 m4' k1 hW hk n6
  refine AnyO.wp_anyI (by kernel_rfl) (by kernel_rfl) (AnyO.InvG (σ := Rs × Nat) (fun σ => AnyO.pvL [some (vR r), some (vC c), some (vK (ofS c)), some (.tuple #[vR σ.1, .int .i64 ec2]), some (.tuple #[vR σ.1, .int .i64 ec2]), some (vR σ.1), some (.int .i64 ec2), some (.pointer (some ⟨σ.2, 0, none⟩)), none, some (.int .i64 ec2)]) (fun (σ : Rs × Nat) D u => InvR w0 b ch s1 (bif D 3 then s2 else sr) (bif D 3 then σ.1 else r) ((bif D 7 then [(σ.2, (bif D 8 then cR σ.1 else cR zR), 32)] else []) ++ Lz) u ∧ (D 7 = true → w0.heap.size ≤ σ.2 ∧ ∀ y ∈ Lz, y.1 ≠ σ.2))) (AnyO.InvG.start (g := (zR, 0)) (⟨by show InvR w0 b ch s1 sr r Lz U.drew; exact HI.out.below (below_drew _), fun h => by cases h⟩)) ?_ ?_
  · intro i hi
    have hi2 : i = 0 ∨ i = 1 ∨ i = 2 ∨ i = 3 ∨ i = 4 ∨ i = 5 ∨ i = 6 ∨ i = 7 ∨ i = 8 ∨ i = 9 := by first | (simp only [List.size_toArray, List.length_cons, List.length_nil] at hi; omega) | (simp only [List.size_toArray, List.append_eq, List.length_append, List.length_cons, List.length_nil] at hi; omega)
    clear hi
    rcases hi2 with rfl | rfl | rfl | rfl | rfl | rfl | rfl | rfl | rfl | rfl
    · -- 0: Op.load 32 (Operand.tmp 4)
      refine AnyO.StepI.mk rfl [] (by kernel_rfl) ?_
      intro D vs u hI h0 hC hp ac hb K hK
      obtain ⟨σ, hP, hW⟩ := hI
      have s4 : ac.tmps[4]?.getD undef = .pointer (some ⟨g4, 0, none⟩) := by rw [hb]; kernel_rfl
      rw [if_pos (AnyO.wanted_none rfl)]
      clear hb hp
      have RR := hW.1.row (g := g4) (cs := cR r) (ty := 32) (List.mem_append_right _ HM4.out)
      obtain ⟨rr1, rr2⟩ := RR.okw (cR_length _)
      change rdA _ _ _ = vR r at rr2
      clear RR
      clear hC
      clear h0
      have HP := Lib.hid hP
      have HWq := Lib.hid hW
      clear hP hW
      go_simp
      have hP := HP.out
      have hW := HWq.out
      clear HP HWq
      exact hK _ _ (AnyO.InvG.step (g := σ) hP rfl hW)
    · -- 1: Op.load 45 (Operand.tmp 16)
      refine AnyO.StepI.mk rfl [] (by kernel_rfl) ?_
      intro D vs u hI h0 hC hp ac hb K hK
      obtain ⟨σ, hP, hW⟩ := hI
      have s16 : ac.tmps[16]?.getD undef = .pointer (some ⟨g16, 0, none⟩) := by rw [hb]; kernel_rfl
      rw [if_pos (AnyO.wanted_none rfl)]
      clear hb hp
      have RR := hW.1.row (g := g16) (cs := cC c) (ty := 45) (List.mem_append_right _ HM16.out)
      obtain ⟨rr1, rr2⟩ := RR.okw (cC_length _)
      change rdA _ _ _ = vC c at rr2
      clear RR
      clear hC
      clear h0
      have HP := Lib.hid hP
      have HWq := Lib.hid hW
      clear hP hW
      go_simp
      have hP := HP.out
      have hW := HWq.out
      clear HP HWq
      exact hK _ _ (AnyO.InvG.step (g := σ) hP rfl hW)
    · -- 2: Op.call { callee := Callee.value (Operand.func 44), args := 
      refine AnyO.StepI.mk rfl [1] (by kernel_rfl) ?_
      intro D vs u hI h0 hC hp ac hb K hK
      obtain ⟨σ, hP, hW⟩ := hI
      have s111 : ac.tmps[111]?.getD undef = vC c := by rw [hb]; exact (show _ = vs 1 by kernel_rfl).trans (show vs 1 = vC c from hP 1 (hp 1 (by decide)))
      rw [if_pos (AnyO.wanted_none rfl)]
      clear hb hp
      clear hC
      clear h0
      have HP := Lib.hid hP
      have HWq := Lib.hid hW
      clear hP hW
      go_simp
      have hP := HP.out
      have hW := HWq.out
      clear HP HWq
      go_at_call 44
      refine (of44 c u).mono ?_
      rintro e w2 ⟨rfl, hb⟩
      exact hK _ _ (AnyO.InvG.step (g := σ) hP rfl ⟨hW.1.below hb, hW.2⟩)
    · -- 3: Op.call { callee := Callee.value (Operand.func 45), args := 
      refine AnyO.StepI.mk rfl [0, 2, 2] (by kernel_rfl) ?_
      intro D vs u hI h0 hC hp ac hb K hK
      obtain ⟨σ, hP, hW⟩ := hI
      have s110 : ac.tmps[110]?.getD undef = vR r := by rw [hb]; exact (show _ = vs 0 by kernel_rfl).trans (show vs 0 = vR r from hP 0 (hp 0 (by decide)))
      have s112 : ac.tmps[112]?.getD undef = vK (ofS c) := by rw [hb]; exact (show _ = vs 2 by kernel_rfl).trans (show vs 2 = vK (ofS c) from hP 2 (hp 2 (by decide)))
      rw [if_pos (AnyO.wanted_none rfl)]
      clear hb hp
      have hf4 : D 4 = false := by
        rcases hd : D 4 with _ | _
        · rfl
        · have hz := hC 4 hd 3 (by rw [show AnyO.pre _ 4 = [3] from by kernel_rfl]; decide)
          rw [h0] at hz
          cases hz
      have hf5 : D 5 = false := by
        rcases hd : D 5 with _ | _
        · rfl
        · have hz := hC 5 hd 4 (by rw [show AnyO.pre _ 5 = [4] from by kernel_rfl]; decide)
          rw [hf4] at hz
          cases hz
      have hf6 : D 6 = false := by
        rcases hd : D 6 with _ | _
        · rfl
        · have hz := hC 6 hd 4 (by rw [show AnyO.pre _ 6 = [4] from by kernel_rfl]; decide)
          rw [hf4] at hz
          cases hz
      have hf8 : D 8 = false := by
        rcases hd : D 8 with _ | _
        · rfl
        · have hz := hC 8 hd 5 (by rw [show AnyO.pre _ 8 = [7, 5, 3, 0, 1, 2, 3, 4, 5, 7] from by kernel_rfl]; decide)
          rw [hf5] at hz
          cases hz
      have hf9 : D 9 = false := by
        rcases hd : D 9 with _ | _
        · rfl
        · have hz := hC 9 hd 6 (by rw [show AnyO.pre _ 9 = [6, 8, 0, 1, 2, 3, 4, 5, 6, 7, 8] from by kernel_rfl]; decide)
          rw [hf6] at hz
          cases hz
      clear hC
      have HP := Lib.hid hP
      have HWq := Lib.hid hW
      clear hP hW
      go_simp
      have hP := HP.out
      have hW := HWq.out
      clear HP HWq
      go_at_call 45
      rw [h0, hf8] at hW
      refine (InvR.ref (val := fun q => .tuple #[vR q, .int .i64 ec2]) (sr' := s2) hW.1 (fun F hF ha => by have hh := refHear45 F ch sr r c _ ha HX.out.2.2.2.2.1 hF HF.out.2.1 HX.out.2.2.2.2.2.2.2; rw [HF.out.2.2] at hh; exact hh)).mono ?_
      rintro e w2 ⟨r9, rfl, hI9⟩
      refine hK _ _ (AnyO.InvG.ghost (g := σ) (r9, σ.2) hP ?_ rfl ?_)
      · intro j hj hq
        rcases j with _ | _ | _ | _ | _ | _ | _ | _ | _ | _ | j
        · exact hq
        · exact hq
        · exact hq
        · exact absurd (show D 3 = true from hj) (by rw [h0]; decide)
        · exact absurd (show D 4 = true from hj) (by rw [hf4]; decide)
        · exact absurd (show D 5 = true from hj) (by rw [hf5]; decide)
        · exact absurd (show D 6 = true from hj) (by rw [hf6]; decide)
        · exact hq
        · exact absurd (show D 8 = true from hj) (by rw [hf8]; decide)
        · exact absurd (show D 9 = true from hj) (by rw [hf9]; decide)
        · exact hq
      · show InvR w0 b ch s1 s2 r9 ((bif D 7 then [(σ.2, (bif D 8 then cR r9 else cR zR), 32)] else []) ++ Lz) w2 ∧ (D 7 = true → w0.heap.size ≤ σ.2 ∧ ∀ y ∈ Lz, y.1 ≠ σ.2)
        rw [hf8]
        exact ⟨hI9, hW.2⟩
    · -- 4: Op.move (Operand.tmp 113)
      refine AnyO.StepI.mk rfl [3] (by kernel_rfl) ?_
      intro D vs u hI h0 hC hp ac hb K hK
      obtain ⟨σ, hP, hW⟩ := hI
      have s113 : ac.tmps[113]?.getD undef = .tuple #[vR σ.1, .int .i64 ec2] := by rw [hb]; exact (show _ = vs 3 by kernel_rfl).trans (show vs 3 = .tuple #[vR σ.1, .int .i64 ec2] from hP 3 (hp 3 (by decide)))
      rw [if_pos (AnyO.wanted_none rfl)]
      clear hb hp
      clear hC
      clear h0
      have HP := Lib.hid hP
      have HWq := Lib.hid hW
      clear hP hW
      go_simp
      have hP := HP.out
      have hW := HWq.out
      clear HP HWq
      exact hK _ _ (AnyO.InvG.step (g := σ) hP rfl hW)
    · -- 5: Op.extract (Operand.tmp 109) 0
      refine AnyO.StepI.mk rfl [4] (by kernel_rfl) ?_
      intro D vs u hI h0 hC hp ac hb K hK
      obtain ⟨σ, hP, hW⟩ := hI
      have s109 : ac.tmps[109]?.getD undef = .tuple #[vR σ.1, .int .i64 ec2] := by rw [hb]; exact (show _ = vs 4 by kernel_rfl).trans (show vs 4 = .tuple #[vR σ.1, .int .i64 ec2] from hP 4 (hp 4 (by decide)))
      rw [if_pos (AnyO.wanted_none rfl)]
      clear hb hp
      clear hC
      clear h0
      have HP := Lib.hid hP
      have HWq := Lib.hid hW
      clear hP hW
      go_simp
      have hP := HP.out
      have hW := HWq.out
      clear HP HWq
      exact hK _ _ (AnyO.InvG.step (g := σ) hP rfl hW)
    · -- 6: Op.extract (Operand.tmp 109) 1
      refine AnyO.StepI.mk rfl [4] (by kernel_rfl) ?_
      intro D vs u hI h0 hC hp ac hb K hK
      obtain ⟨σ, hP, hW⟩ := hI
      have s109 : ac.tmps[109]?.getD undef = .tuple #[vR σ.1, .int .i64 ec2] := by rw [hb]; exact (show _ = vs 4 by kernel_rfl).trans (show vs 4 = .tuple #[vR σ.1, .int .i64 ec2] from hP 4 (hp 4 (by decide)))
      rw [if_pos (AnyO.wanted_none rfl)]
      clear hb hp
      clear hC
      clear h0
      have HP := Lib.hid hP
      have HWq := Lib.hid hW
      clear hP hW
      go_simp
      have hP := HP.out
      have hW := HWq.out
      clear HP HWq
      exact hK _ _ (AnyO.InvG.step (g := σ) hP rfl hW)
    · -- 7: Op.alloc 32
      refine AnyO.StepI.mk rfl [] (by kernel_rfl) ?_
      intro D vs u hI h0 hC hp ac hb K hK
      obtain ⟨σ, hP, hW⟩ := hI
      rw [if_pos (AnyO.wanted_none rfl)]
      clear hb hp
      have hf8 : D 8 = false := by
        rcases hd : D 8 with _ | _
        · rfl
        · have hz := hC 8 hd 7 (by rw [show AnyO.pre _ 8 = [7, 5, 3, 0, 1, 2, 3, 4, 5, 7] from by kernel_rfl]; decide)
          rw [h0] at hz
          cases hz
      have hf9 : D 9 = false := by
        rcases hd : D 9 with _ | _
        · rfl
        · have hz := hC 9 hd 8 (by rw [show AnyO.pre _ 9 = [6, 8, 0, 1, 2, 3, 4, 5, 6, 7, 8] from by kernel_rfl]; decide)
          rw [hf8] at hz
          cases hz
      clear hC
      have HP := Lib.hid hP
      have HWq := Lib.hid hW
      clear hP hW
      go_simp
      have hP := HP.out
      have hW := HWq.out
      clear HP HWq
      rw [h0, hf8] at hW
      have hA := hW.1.alloc (cR zR) 32
      refine hK _ _ (AnyO.InvG.ghost (g := σ) (σ.1, u.heap.size) hP ?_ rfl ?_)
      · intro j hj hq
        rcases j with _ | _ | _ | _ | _ | _ | _ | _ | _ | _ | j
        · exact hq
        · exact hq
        · exact hq
        · exact hq
        · exact hq
        · exact hq
        · exact hq
        · exact absurd (show D 7 = true from hj) (by rw [h0]; decide)
        · exact absurd (show D 8 = true from hj) (by rw [hf8]; decide)
        · exact absurd (show D 9 = true from hj) (by rw [hf9]; decide)
        · exact hq
      · show InvR w0 b ch s1 (bif D 3 then s2 else sr) (bif D 3 then σ.1 else r) ([(u.heap.size, (bif D 8 then cR σ.1 else cR zR), 32)] ++ Lz) _ ∧ (true = true → w0.heap.size ≤ u.heap.size ∧ ∀ y ∈ Lz, y.1 ≠ u.heap.size)
        rw [hf8]
        exact ⟨hA, fun _ => ⟨hW.1.size, fun y hy => Nat.ne_of_lt (hW.1.lts y hy)⟩⟩
    · -- 8: Op.store 32 (Operand.tmp 19) (Operand.tmp 114)
      refine AnyO.StepI.mk rfl [7, 5, 3, 0, 1, 2, 3, 4, 5, 7] (by kernel_rfl) ?_
      intro D vs u hI h0 hC hp ac hb K hK
      obtain ⟨σ, hP, hW⟩ := hI
      have s19 : ac.tmps[19]?.getD undef = .pointer (some ⟨σ.2, 0, none⟩) := by rw [hb]; exact (show _ = vs 7 by kernel_rfl).trans (show vs 7 = .pointer (some ⟨σ.2, 0, none⟩) from hP 7 (hp 7 (by decide)))
      have s114 : ac.tmps[114]?.getD undef = vR σ.1 := by rw [hb]; exact (show _ = vs 5 by kernel_rfl).trans (show vs 5 = vR σ.1 from hP 5 (hp 5 (by decide)))
      rw [if_pos (AnyO.wanted_none rfl)]
      have hp3 : D 3 = true := hp 3 (by decide)
      have hp7 : D 7 = true := hp 7 (by decide)
      clear hb hp
      have h3 := hp3
      have h7 := hp7
      rw [h0, h3, h7] at hW
      have RR := hW.1.row (g := σ.2) (cs := cR zR) (ty := 32) List.mem_cons_self
      have rr := RR.rok (cR_length zR)
      clear RR
      clear hC
      have HP := Lib.hid hP
      have HWq := Lib.hid hW
      clear hP hW
      go_simp
      have hP := HP.out
      have hW := HWq.out
      clear HP HWq
      refine hK undef _ (AnyO.InvG.step (g := σ) hP trivial ?_)
      show InvR w0 b ch s1 (bif D 3 then s2 else sr) (bif D 3 then σ.1 else r) ((bif D 7 then [(σ.2, cR σ.1, 32)] else []) ++ Lz) _ ∧ (D 7 = true → w0.heap.size ≤ σ.2 ∧ ∀ y ∈ Lz, y.1 ≠ σ.2)
      rw [h3, h7]
      exact ⟨InvR.setRow (cs := cR zR) hW.1 (hW.2 rfl).1 (hW.2 rfl).2 (cR σ.1), hW.2⟩
    · -- 9: Op.assign (Operand.tmp 115)
      refine AnyO.StepI.mk rfl [6, 8, 0, 1, 2, 3, 4, 5, 6, 7, 8] (by kernel_rfl) ?_
      intro D vs u hI h0 hC hp ac hb K hK
      obtain ⟨σ, hP, hW⟩ := hI
      have s115 : ac.tmps[115]?.getD undef = .int .i64 ec2 := by rw [hb]; exact (show _ = vs 6 by kernel_rfl).trans (show vs 6 = .int .i64 ec2 from hP 6 (hp 6 (by decide)))
      rw [if_pos (AnyO.wanted_none rfl)]
      clear hb hp
      clear hC
      clear h0
      have HP := Lib.hid hP
      have HWq := Lib.hid hW
      clear hP hW
      go_simp
      have hP := HP.out
      have hW := HWq.out
      clear HP HWq
      exact hK _ _ (AnyO.InvG.step (g := σ) hP rfl hW)
  · intro D vs u hI hD
    obtain ⟨σ, hP, hW⟩ := hI
    have e0 : vs 0 = vR r := hP 0 (hD 0 (by decide))
    have e1 : vs 1 = vC c := hP 1 (hD 1 (by decide))
    have e2 : vs 2 = vK (ofS c) := hP 2 (hD 2 (by decide))
    have e3 : vs 3 = .tuple #[vR σ.1, .int .i64 ec2] := hP 3 (hD 3 (by decide))
    have e4 : vs 4 = .tuple #[vR σ.1, .int .i64 ec2] := hP 4 (hD 4 (by decide))
    have e5 : vs 5 = vR σ.1 := hP 5 (hD 5 (by decide))
    have e6 : vs 6 = .int .i64 ec2 := hP 6 (hD 6 (by decide))
    have e7 : vs 7 = .pointer (some ⟨σ.2, 0, none⟩) := hP 7 (hD 7 (by decide))
    have e9 : vs 9 = .int .i64 ec2 := hP 9 (hD 9 (by decide))
    rw [hD 3 (by decide), hD 7 (by decide), hD 8 (by decide)] at hW
    change InvR w0 b ch s1 s2 σ.1 ((σ.2, cR σ.1, 32) :: Lz) u ∧ _ at hW
    have HW := Lib.hid hW
    clear hW hP hD
    rw [puts_range [some 110, some 111, some 112, some 113, some 109, some 114, some 115, some 19, none, some 20] (by kernel_rfl)]
    simp only [putL, Nat.reduceAdd, e0, e1, e2, e3, e4, e5, e6, e7, e9]
    clear e0 e1 e2 e3 e4 e5 e6 e7 e9
    obtain ⟨r9, g19⟩ := σ
    dsimp only at HW ⊢
    have HN := Lib.hid (HW.out.2 rfl)
    have HI2 := Lib.hid (show InvR w0 b ch s1 s2 r9 ((g6, cR zR, 32) :: (g19, cR r9, 32) :: L) u from HW.out.1.sub fun y hy => by
      rw [hLz]
      simp only [List.mem_cons] at hy ⊢
      rcases hy with rfl | rfl | hy
      · simp
      · simp
      · simp [hy])
    obtain ⟨m19, m19'⟩ := (HI2.out.row (g := g19) (cs := cR r9) (ty := 32) (by with_reducible repeat (first | exact List.mem_cons_self | apply List.mem_cons_of_mem))).okw (cR_length _)
    change rdA _ _ _ = vR r9 at m19'
    have m6 := (HI2.out.row (g := g6) (cs := cR zR) (ty := 32) List.mem_cons_self).rok (cR_length zR)
    have e := HQ.out
    go_simp
    go_wp2
    have HZ := InvR.setRow (cs := cR zR) HI2.out HG6.out.1 (fun y hy => by
      rcases List.mem_cons.1 hy with rfl | hy
      · exact fun e => HN.out.2 (g6, cR zR, 32) (by rw [hLz]; exact List.mem_cons_self) e.symm
      · exact HG6.out.2 y (List.mem_cons_of_mem _ (List.mem_cons_of_mem _ hy))) (cR r9)
    exact bodyPost_ret (v := .tuple #[vR r9, .bool q]) (results_c2 (ad := ⟨g6, 0, none⟩) rfl rfl (load_R (HZ.row List.mem_cons_self)) rfl) rfl ⟨r9, q, rfl, HE.out, HZ.sub fun y hy => List.mem_cons_of_mem _ (List.mem_cons_of_mem _ hy)⟩


section
variable {w0 : BW} {w w' : World} {b : Nat} {ch : Int} {s s' sr sr' : St} {r r' : Rs} {L : List (Nat × List Value × TypeId)}
/-- A row beside the sender turns. -/
theorem InvR.turn {g : Nat} {cs ds : List Value} {ty : TypeId} (h : InvR w0 b ch s sr r ((g, cs, ty) :: L) w) (hg : w0.heap.size ≤ g) (hne : ∀ x ∈ L, x.1 ≠ g) (ho : ∀ k, k ≠ g → w'.heap[k]? = w.heap[k]?) (hrow : Row w' g ds ty) (hsz : w'.heap.size = w.heap.size) (hos : w'.os = w.os ∧ w'.tape = w.tape ∧ w'.output = w.output) : InvR w0 b ch s sr r ((g, ds, ty) :: L) w' := by
  obtain ⟨F, h1, h2, h3, h4⟩ := h.rep
  have hgF : g ∉ F := (h3 (g, cs, ty) List.mem_cons_self).2
  refine ⟨⟨hos.1.trans h.bel.os, hos.2.1.trans h.bel.tape, hos.2.2.trans h.bel.output, hsz ▸ h.bel.size, fun k hk => (ho k (by omega)).trans (h.bel.block k hk)⟩, F, ?_, fun k hk => by rw [hsz]; exact h2 k hk, fun x hx => ?_, ?_⟩
  · obtain ⟨vw, vo, q, h⟩ := h1
    exact ⟨vw, vo, q, h.same fun k hk => ho k (fun e => hgF (e ▸ hk))⟩
  · rcases List.mem_cons.1 hx with rfl | hx
    · exact ⟨hrow, hgF⟩
    · exact ⟨(h3 x (List.mem_cons_of_mem _ hx)).1.same (ho _ (hne x hx)), (h3 x (List.mem_cons_of_mem _ hx)).2⟩
  · exact RefA.same h4 (Nat.le_of_eq hsz.symm) fun k _ hk => ho k (fun e => hk (by rw [e]; exact List.mem_append_right _ List.mem_cons_self))
theorem InvR.reref (h : InvR w0 b ch s sr r L w) (hr : ∀ F, RefAt F ch sr r w → RefAt F ch sr' r' w) : InvR w0 b ch s sr' r' L w := by
  obtain ⟨F, h1, h2, h3, h4⟩ := h.rep
  exact ⟨h.bel, F, h1, h2, h3, ⟨hr _ h4.main, h4.oth⟩⟩
theorem InvR.outs (h : InvR w0 b ch s sr r L w) : Calls Tryd.prog 25 #[.pointer (some ⟨b, 0, none⟩)] w fun e w' => ∃ A n c, e = .returned (.slice A n c) ∧ s.outs.length = n ∧ Sl w' cO A s.outs ∧ InvR w0 b ch { s with outs := [] } sr r L w' := by
  obtain ⟨F, h1, h2, h3, h4⟩ := h.rep
  refine (outcomes25x b ch s F w h1).mono ?_
  rintro e w' ⟨A, n, c, rfl, F2, hs, hr, hk⟩
  exact ⟨A, n, c, rfl, hs.1, hs.2.2.1, InvR.of h.bel (fun k hk => (h2 k hk).1) h3 h4 hr hk⟩
theorem InvR.sl (h : InvR w0 b ch s sr r L w) : r.o.2.1 = sr.outs.length ∧ Sl w cO r.o.1 sr.outs := by
  obtain ⟨F, h1, h2, h3, h4⟩ := h.rep
  exact ⟨h4.main.os.1.symm, h4.main.os.2.2.1⟩
end
set_option maxRecDepth 100000 in
set_option maxHeartbeats 3200000 in
theorem do22_out (w0 : BW) (b : Nat) (ch : Int) (s : St) (r : Rs) (x : Rop) (L : List (Nat × List Value × TypeId)) (w : World) (h : InvR w0 b ch s s r L w) (hm : s.outs.length ≤ 100000) (hk : (x.kind.toNat : Int).tmod 5 = 4) : Calls Tryd.prog 22 #[.pointer (some ⟨b, 0, none⟩), vR r, vQ x] w (DoE w0 b ch { s with outs := [] } { s with outs := [] } True L) := by
  have hI := h.enterDo x
  have hlts := h.lts
  have hB := h.bel.size
  obtain ⟨W3, hW⟩ : ∃ W3, ((w.alloc (.cells (aR r) 32)).alloc (.cells (aQ x) 57)).alloc (.cells (aR zR) 32) = W3 := ⟨_, rfl⟩
  rw [hW] at hI
  have r4 := hI.row (g := w.heap.size) (cs := cR r) (ty := 32) (by unfold doL; simp)
  have r5 := hI.row (g := w.heap.size + 1) (cs := cQ x) (ty := 57) (by unfold doL; simp)
  have r6 := hI.row (g := w.heap.size + 1 + 1) (cs := cR zR) (ty := 32) (by unfold doL; simp)
  obtain ⟨k1, ⟨k2, k2'⟩, k3, ⟨k4, k4'⟩, k5⟩ := row_Q r5
  have n6 := r6.lt
  clear r4 r5 r6
  have HX := Lib.hid (And.intro hI (And.intro hlts (And.intro hB hm)))
  clear h hI hlts hB hm k2 k2' k3 k4 k4' k5
  have T0 : True := trivial
  go_enter Tryd.func22, Tryd.ntmps22
  go_wp2_with (have hh := T0; clear hh T0; go_at_call 25; refine HX.out.1.outs.mono ?_; rintro e U ⟨A, n, c, rfl, hn, hs, hI2⟩; obtain ⟨m0, m1, _, _, _, _, m36, m37, ⟨m4, m4'⟩, m4l⟩ := row_R (hI2.row (g := w.heap.size) (cs := cR r) (ty := 32) (by unfold doL; simp)); have m6 := (hI2.row (g := w.heap.size + 1 + 1) (cs := cR zR) (ty := 32) (by unfold doL; simp)).rok (cR_length zR); obtain ⟨hl2, hsl2⟩ := hI2.sl; obtain ⟨Ar, nr, cr, hro⟩ : ∃ Ar nr cr, r.o = (Ar, nr, cr) := ⟨_, _, _, rfl⟩; rw [hro] at m37 hl2 hsl2; dsimp only at m37 hl2 hsl2; rw [hl2, hn] at m37; have H2 := Lib.hid (And.intro hI2 (And.intro hn (And.intro hs (And.intro hsl2 hro)))); clear hI2 hn hs hl2 hsl2 hro m0 m1 m36 k1 hW n6)
  have HG := Lib.hid (And.intro HX.out.2.2.1 HX.out.2.1)
  go_loopw [22] (fun i wr => ∃ k : Nat, k ≤ n ∧ i = .int .i64 k ∧ Below U.heap.size U wr) (fun i _ => n - (intOf i).toNat)
  case atStart => exact ⟨0, Nat.zero_le _, rfl, Below.refl _ _⟩
  case round =>
    obtain ⟨k, hkn, rfl, hb⟩ := hrel
    clear m4 m4' m6
    have r37 := cell_below m37 hb
    have HB2 := Lib.hid hb
    clear m37 m4l hk
    by_cases hlt : k < n
    · have hl1 : k < s.outs.length := by rw [H2.out.2.1]; exact hlt
      have hkb : k ≤ 100000 := by have := HX.out.2.2.2; omega
      obtain ⟨ad1, rfl, ⟨ok1, rd1⟩, t1, t2, z1, z2⟩ := outAt (H2.out.2.2.1.keep hb) hl1
      obtain ⟨ad2, rfl, z3, z4, z5, ok2, rd2⟩ := outAt (H2.out.2.2.2.1.keep hb) hl1
      clear z1 z2 z3 z4 z5
      generalize (s.outs[k]'hl1) = y at rd1 t1 t2 rd2
      obtain ⟨y1, y2, y3⟩ := y
      dsimp only at rd1 t1 t2
      have t3 : wr.cell? ⟨(ad1.add (k * 34)).block, (ad1.add (k * 34)).off + 32, none⟩ = some (.int .i64 y2) := by have hh := t1; rw [← Addr.add_add, Addr.add_succ'] at hh; exact hh
      have t4 : wr.cell? ⟨(ad1.add (k * 34)).block, (ad1.add (k * 34)).off + 33, none⟩ = some (.int .i64 y3) := by have hh := t2; rw [← Addr.add_add, Addr.add_succ'] at hh; exact hh
      have hlk : (k : Int) < (n : Int) := by omega
      clear hb hl1
      go_wp2
      go_quiet (fail)
      go_wp2
      go_roundw
      case rel => exact ⟨k + 1, hlt, by go_num, Below.step HB2.out (below_drewN _ _)⟩
      case measure => simp [intOf] <;> omega
    · have hkn : k = n := by omega
      subst hkn
      have hR := (H2.out.1.below hb).row (g := w.heap.size) (cs := cR r) (ty := 32) (by unfold doL; simp)
      have f37 := hR.fz 37
      have hR2 : Row (wr.setCell ⟨w.heap.size, 37, none⟩ (.slice none 0 0)) w.heap.size (cR { r with o := (none, 0, 0) }) 32 := by rw [← cR_seto]; exact hR.set 37 _
      obtain ⟨m4, m4'⟩ := hR2.okw (cR_length _)
      change rdA _ _ _ = vR { r with o := (none, 0, 0) } at m4'
      generalize hr0 : ({ r with o := (none, 0, 0) } : Rs) = r0 at m4' hR2
      have hI5 : InvR w0 b ch { s with outs := [] } s r (doL w.heap.size r x zR L) wr := H2.out.1.below hb
      have hI6 : InvR w0 b ch { s with outs := [] } s r ((w.heap.size, cR r0, 32) :: (w.heap.size + 1 + 1, cR zR, 32) :: L) (wr.setCell ⟨w.heap.size, 37, none⟩ (.slice none 0 0)) :=
        InvR.turn (cs := cR r) (hI5.sub fun y hy => by
          unfold doL
          simp only [List.mem_cons] at hy ⊢
          rcases hy with rfl | rfl | hy
          · simp
          · simp
          · simp [hy]) HG.out.1 (fun y hy => by
            rcases List.mem_cons.1 hy with rfl | hy
            · show w.heap.size + 1 + 1 ≠ w.heap.size; omega
            · have := HG.out.2 y hy; omega) (fun k hk => heap_set_other wr _ 37 _ k hk) hR2 (by simp [World.setCell]) ⟨rfl, rfl, rfl⟩
      have hI7 : InvR w0 b ch { s with outs := [] } { s with outs := [] } r0 ((w.heap.size + 1 + 1, cR zR, 32) :: L) (wr.setCell ⟨w.heap.size, 37, none⟩ (.slice none 0 0)) :=
        (hI6.sub fun y hy => List.mem_cons_of_mem _ hy).reref fun F ha => by
          rw [← hr0]
          exact ⟨ha.ch, ha.st, ha.cur, ha.at_, ha.ws, SlF.nil _ _ _⟩
      have m6 := (hI7.row List.mem_cons_self).rok (cR_length zR)
      have H7 := Lib.hid hI7
      clear hI5 hI6 hI7 hR hR2 hb hr0
      go_wp2
      have HZ := InvR.setRow (cs := cR zR) H7.out (by have := HG.out.1; omega) (fun y hy => by have := HG.out.2 y hy; omega) (cR r0)
      exact bodyPost_ret (v := .tuple #[vR r0, .bool true]) (results_c2 (ad := ⟨w.heap.size + 1 + 1, 0, none⟩) rfl rfl (load_R (HZ.row List.mem_cons_self)) rfl) rfl ⟨r0, true, rfl, fun _ => rfl, HZ.sub fun y hy => List.mem_cons_of_mem _ hy⟩

def DoQ (w0 : BW) (b : Nat) (ch : Int) (s sr : St) (L : List (Nat × List Value × TypeId)) : Ending → World → Prop := fun e w' => ∃ r' ok, e = .returned (.tuple #[vR r', .bool ok]) ∧ InvR w0 b ch s sr r' L w'
/-- An operation: the sender and the reference's in one state. -/
theorem do22 (w0 : BW) (b : Nat) (ch : Int) (s : St) (r : Rs) (x : Rop) (L : List (Nat × List Value × TypeId)) (w : World) (h : InvR w0 b ch s s r L w) (g : Good ch s) (hL : Laid w0) (hm : s.outs.length ≤ 100000) :
    Calls Tryd.prog 22 #[.pointer (some ⟨b, 0, none⟩), vR r, vQ x] w fun e w' => ∃ r', e = .returned (.tuple #[vR r', .bool true]) ∧ InvR w0 b ch (opS ch s x) (opS ch s x) r' L w' := by
  have fin : ∀ {t : St} {E : Prop}, E → Calls Tryd.prog 22 #[.pointer (some ⟨b, 0, none⟩), vR r, vQ x] w (DoE w0 b ch t t E L) → Calls Tryd.prog 22 #[.pointer (some ⟨b, 0, none⟩), vR r, vQ x] w fun e w' => ∃ r', e = .returned (.tuple #[vR r', .bool true]) ∧ InvR w0 b ch t t r' L w' := fun hE hc => hc.mono fun e w' ⟨r', ok, h1, h2, h3⟩ => ⟨r', by rw [h1, h2 hE], h3⟩
  unfold opS
  by_cases h0 : x.kind.toNat % 5 = 0
  · rw [if_pos h0]
    exact fin rfl (do22_add w0 b ch s s r x L w h g g (kind_tmod _ 0 h0))
  · rw [if_neg h0]
    by_cases h1 : x.kind.toNat % 5 = 1
    · rw [if_pos h1]
      exact fin rfl (do22_say w0 b ch s s r x L w h g g hL.1 (kind_tmod _ 1 h1))
    · rw [if_neg h1]
      by_cases h2 : x.kind.toNat % 5 = 2
      · rw [if_pos h2]
        by_cases hc : chk (toS x.c) = 0
        · exact fin rfl (do22_hear_ok w0 b ch s s r x L w h g g hL hm hm (kind_tmod _ 2 h2) hc)
        · exact fin rfl (do22_hear_bad w0 b ch s s r x L w h g g hL hm (kind_tmod _ 2 h2) hc)
      · rw [if_neg h2]
        by_cases h3 : x.kind.toNat % 5 = 3
        · rw [if_pos h3]
          exact (do22_drop w0 b ch s s r x L w h g g (kind_tmod _ 3 h3)).mono fun e w' h => h
        · rw [if_neg h3]
          exact fin trivial (do22_out w0 b ch s r x L w h hm (kind_tmod _ 4 (by omega)))
/-- An operation that is neither Add nor Outcomes: the two in states that may differ. -/
theorem do22_two (w0 : BW) (b : Nat) (ch : Int) (s sr : St) (r : Rs) (x : Rop) (L : List (Nat × List Value × TypeId)) (w : World) (h : InvR w0 b ch s sr r L w) (g : Good ch s) (gr : Good ch sr) (hL : Laid w0) (hm : s.outs.length ≤ 100000) (hmr : sr.outs.length ≤ 100000) (hk : x.kind.toNat % 5 ≠ 0) (hk4 : x.kind.toNat % 5 ≠ 4) :
    Calls Tryd.prog 22 #[.pointer (some ⟨b, 0, none⟩), vR r, vQ x] w (DoQ w0 b ch (opS ch s x) (opS ch sr x) L) := by
  have fin : ∀ {t tr : St} {E : Prop}, Calls Tryd.prog 22 #[.pointer (some ⟨b, 0, none⟩), vR r, vQ x] w (DoE w0 b ch t tr E L) → Calls Tryd.prog 22 #[.pointer (some ⟨b, 0, none⟩), vR r, vQ x] w (DoQ w0 b ch t tr L) := fun hc => hc.mono fun e w' ⟨r', ok, h1, _, h3⟩ => ⟨r', ok, h1, h3⟩
  unfold opS
  rw [if_neg hk, if_neg hk]
  by_cases h1 : x.kind.toNat % 5 = 1
  · rw [if_pos h1, if_pos h1]
    exact fin (do22_say w0 b ch s sr r x L w h g gr hL.1 (kind_tmod _ 1 h1))
  · rw [if_neg h1, if_neg h1]
    by_cases h2 : x.kind.toNat % 5 = 2
    · rw [if_pos h2, if_pos h2]
      by_cases hc : chk (toS x.c) = 0
      · exact fin (do22_hear_ok w0 b ch s sr r x L w h g gr hL hm hmr (kind_tmod _ 2 h2) hc)
      · exact fin (do22_hear_bad w0 b ch s sr r x L w h g gr hL hm (kind_tmod _ 2 h2) hc)
    · rw [if_neg h2, if_neg h2, if_pos (by omega), if_pos (by omega)]
      exact (do22_drop w0 b ch s sr r x L w h g gr (kind_tmod _ 3 (by omega))).mono fun e w' ⟨r', h1, h2⟩ => ⟨r', true, h1, h2⟩

end K
end Go.Proofs.YtlelecnafdddhaaDoor
