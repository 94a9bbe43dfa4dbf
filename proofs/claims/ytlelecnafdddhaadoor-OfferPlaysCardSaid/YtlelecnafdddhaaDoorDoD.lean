/- do: Outcomes; do whole. -/
import Derived.Test.YtlelecnafdddhaaDoorDoC
namespace Go.Proofs.YtlelecnafdddhaaDoor
open Go.RowKit
section
variable {w0 w w' : World} {b : Nat} {ch : Int} {s s' sr sr' : St} {r r' : Rs} {L : List (Nat × List Value × TypeId)}
/-- A row beside the sender turns. -/
theorem InvR.turn {g : Nat} {cs ds : List Value} {ty : TypeId} (h : InvR w0 b ch s sr r ((g, cs, ty) :: L) w) (hg : w0.heap.size ≤ g) (hne : ∀ x ∈ L, x.1 ≠ g) (ho : ∀ k, k ≠ g → w'.heap[k]? = w.heap[k]?) (hrow : Row w' g ds ty) (hsz : w'.heap.size = w.heap.size) (hos : w'.os = w.os ∧ w'.tape = w.tape ∧ w'.output = w.output) : InvR w0 b ch s sr r ((g, ds, ty) :: L) w' := by
  obtain ⟨F, h1, h2, h3, h4⟩ := h.rep
  have hgF : g ∉ F := (h3 (g, cs, ty) List.mem_cons_self).2
  refine ⟨⟨hos.1.trans h.bel.os, hos.2.1.trans h.bel.tape, hos.2.2.trans h.bel.output, hsz ▸ h.bel.size, fun k hk => (ho k (by omega)).trans (h.bel.block k hk)⟩, F, ?_, fun k hk => by rw [hsz]; exact h2 k hk, fun x hx => ?_, ?_⟩
  · obtain ⟨vw, vo, q, h⟩ := h1
    exact ⟨vw, vo, q, h.same fun k hk => ho k (fun e => hgF (e ▸ hk))⟩
  · rcases List.mem_cons.1 hx with rfl | hx
    · exact ⟨hrow, hgF⟩
    · exact ⟨(h3 x (List.mem_cons_of_mem _ hx)).1.same (ho _ (hne x hx)), (h3 x (List.mem_cons_of_mem _ hx)).2⟩
  · exact RefAt.same h4 (Nat.le_of_eq hsz.symm) fun k _ hk => ho k (fun e => hk (by rw [e]; exact List.mem_append_right _ List.mem_cons_self))
theorem InvR.reref (h : InvR w0 b ch s sr r L w) (hr : ∀ F, RefAt F ch sr r w → RefAt F ch sr' r' w) : InvR w0 b ch s sr' r' L w := by
  obtain ⟨F, h1, h2, h3, h4⟩ := h.rep
  exact ⟨h.bel, F, h1, h2, h3, hr _ h4⟩
theorem InvR.outs (h : InvR w0 b ch s sr r L w) : Calls Tryd.prog 25 #[.pointer (some ⟨b, 0, none⟩)] w fun e w' => ∃ A n c, e = .returned (.slice A n c) ∧ s.outs.length = n ∧ Sl w' cO A s.outs ∧ InvR w0 b ch { s with outs := [] } sr r L w' := by
  obtain ⟨F, h1, h2, h3, h4⟩ := h.rep
  refine (outcomes25x b ch s F w h1).mono ?_
  rintro e w' ⟨A, n, c, rfl, F2, hs, hr, hk⟩
  exact ⟨A, n, c, rfl, hs.1, hs.2.2.1, InvR.of h.bel (fun k hk => (h2 k hk).1) h3 h4 hr hk⟩
theorem InvR.sl (h : InvR w0 b ch s sr r L w) : r.o.2.1 = sr.outs.length ∧ Sl w cO r.o.1 sr.outs := by
  obtain ⟨F, h1, h2, h3, h4⟩ := h.rep
  exact ⟨h4.os.1.symm, h4.os.2.2.1⟩
end
theorem outAt {w : World} {A : Option Addr} {xs : List Out} (h : Sl w cO A xs) {k : Nat} (hk : k < xs.length) : ∃ ad, A = some ad ∧ (okA w (ad.add (k * 34)) 32 = true ∧ rdA w (ad.add (k * 34)) 32 = vI xs[k].1) ∧ w.cell? (ad.add (k * 34 + 32)) = some (.int .i64 xs[k].2.1) ∧ w.cell? (ad.add (k * 34 + 33)) = some (.int .i64 xs[k].2.2) ∧ (okA w (ad.add (k * 34)) 34 = true ∧ rdA w (ad.add (k * 34)) 34 = vO xs[k]) := by
  obtain ⟨ad, rfl, hat⟩ := Sl.at_ cO_length h hk
  generalize xs[k] = x at hat ⊢
  have h1 := hat.ok
  have h2 := hat.rd
  rw [cO_length] at h1 h2
  have hc : ∀ j, w.cell? (ad.add (k * 34 + (32 + j))) = [Value.int .i64 x.2.1, Value.int .i64 x.2.2][j]? ∨ 2 ≤ j := fun j => by
    rcases Nat.lt_or_ge j 2 with hj | hj
    · left
      have hx := qO_hi x j
      rw [List.getElem?_toArray] at hx
      have hs : ∃ u, [Value.int .i64 x.2.1, Value.int .i64 x.2.2][j]? = some u := ⟨_, List.getElem?_eq_getElem (by simpa using hj)⟩
      obtain ⟨u, hu⟩ := hs
      rw [hu] at hx ⊢
      have := hat.2 (32 + j) u hx
      rwa [Addr.add_add] at this
    · exact Or.inr hj
  have hid : At w (ad.add (k * 34)) (cI x.1) := ⟨hat.1, fun j u hj => hat.2 j u (by unfold cO; rw [List.getElem?_append_left (by rw [cI_length]; have := (List.getElem?_eq_some_iff.1 hj).1; rw [cI_length] at this; exact this)]; exact hj)⟩
  have h3 := hid.ok
  have h4 := hid.rd
  rw [cI_length] at h3 h4
  refine ⟨ad, rfl, ⟨h3, h4⟩, ?_, ?_, h1, h2⟩
  · rcases hc 0 with h | h
    · exact h
    · omega
  · rcases hc 1 with h | h
    · exact h
    · omega

set_option maxRecDepth 100000 in
set_option maxHeartbeats 3200000 in
theorem do22_out (w0 : World) (b : Nat) (ch : Int) (s : St) (r : Rs) (x : Rop) (L : List (Nat × List Value × TypeId)) (w : World) (h : InvR w0 b ch s s r L w) (hm : s.outs.length ≤ 100000) (hk : (x.kind.toNat : Int).tmod 5 = 4) : Calls Tryd.prog 22 #[.pointer (some ⟨b, 0, none⟩), vR r, vQ x] w (DoE w0 b ch { s with outs := [] } { s with outs := [] } True L) := by
  have hI := h.enterDo x
  have hlts := h.lts
  have hB := h.bel.size
  obtain ⟨W3, hW⟩ : ∃ W3, ((w.alloc (.cells (aR r) 32)).alloc (.cells (aQ x) 57)).alloc (.cells (aR zR) 32) = W3 := ⟨_, rfl⟩
  rw [hW] at hI
  have r4 := hI.row (g := w.heap.size) (cs := cR r) (ty := 32) (by unfold doL; simp)
  have r5 := hI.row (g := w.heap.size + 1) (cs := cQ x) (ty := 57) (by unfold doL; simp)
  have r6 := hI.row (g := w.heap.size + 1 + 1) (cs := cR zR) (ty := 32) (by unfold doL; simp)
  obtain ⟨k1, ⟨k2, k2'⟩, k3, ⟨k4, k4'⟩, k5⟩ := row_Q r5
  have n6 := r6.lt
  clear r4 r5 r6
  have HX := Lib.hid (And.intro hI (And.intro hlts (And.intro hB hm)))
  clear h hI hlts hB hm k2 k2' k3 k4 k4' k5
  have T0 : True := trivial
  go_enter Tryd.func22, Tryd.ntmps22
  go_wp2_with (have hh := T0; clear hh T0; go_at_call 25; refine HX.out.1.outs.mono ?_; rintro e U ⟨A, n, c, rfl, hn, hs, hI2⟩; obtain ⟨m0, m1, _, _, _, _, m36, m37, ⟨m4, m4'⟩, m4l⟩ := row_R (hI2.row (g := w.heap.size) (cs := cR r) (ty := 32) (by unfold doL; simp)); have m6 := (hI2.row (g := w.heap.size + 1 + 1) (cs := cR zR) (ty := 32) (by unfold doL; simp)).rok (cR_length zR); obtain ⟨hl2, hsl2⟩ := hI2.sl; obtain ⟨Ar, nr, cr, hro⟩ : ∃ Ar nr cr, r.o = (Ar, nr, cr) := ⟨_, _, _, rfl⟩; rw [hro] at m37 hl2 hsl2; dsimp only at m37 hl2 hsl2; rw [hl2, hn] at m37; have H2 := Lib.hid (And.intro hI2 (And.intro hn (And.intro hs (And.intro hsl2 hro)))); clear hI2 hn hs hl2 hsl2 hro m0 m1 m36 k1 hW n6)
  have HG := Lib.hid (And.intro HX.out.2.2.1 HX.out.2.1)
  go_loopw [22] (fun i wr => ∃ k : Nat, k ≤ n ∧ i = .int .i64 k ∧ Below U.heap.size U wr) (fun i _ => n - (intOf i).toNat)
  case atStart => exact ⟨0, Nat.zero_le _, rfl, Below.refl _ _⟩
  case round =>
    obtain ⟨k, hkn, rfl, hb⟩ := hrel
    clear m4 m4' m6
    have r37 := cell_below m37 hb
    have HB2 := Lib.hid hb
    clear m37 m4l hk
    by_cases hlt : k < n
    · have hl1 : k < s.outs.length := by rw [H2.out.2.1]; exact hlt
      have hkb : k ≤ 100000 := by have := HX.out.2.2.2; omega
      obtain ⟨ad1, rfl, ⟨ok1, rd1⟩, t1, t2, z1, z2⟩ := outAt (H2.out.2.2.1.keep hb) hl1
      obtain ⟨ad2, rfl, z3, z4, z5, ok2, rd2⟩ := outAt (H2.out.2.2.2.1.keep hb) hl1
      clear z1 z2 z3 z4 z5
      generalize (s.outs[k]'hl1) = y at rd1 t1 t2 rd2
      obtain ⟨y1, y2, y3⟩ := y
      dsimp only at rd1 t1 t2
      have t3 : wr.cell? ⟨(ad1.add (k * 34)).block, (ad1.add (k * 34)).off + 32, none⟩ = some (.int .i64 y2) := by have hh := t1; rw [← Addr.add_add, Addr.add_succ'] at hh; exact hh
      have t4 : wr.cell? ⟨(ad1.add (k * 34)).block, (ad1.add (k * 34)).off + 33, none⟩ = some (.int .i64 y3) := by have hh := t2; rw [← Addr.add_add, Addr.add_succ'] at hh; exact hh
      have hlk : (k : Int) < (n : Int) := by omega
      clear hb hl1
      go_wp2
      go_quiet (fail)
      go_wp2
      go_roundw
      case rel => exact ⟨k + 1, hlt, by go_num, Below.step HB2.out (below_drewN _ _)⟩
      case measure => simp [intOf] <;> omega
    · have hkn : k = n := by omega
      subst hkn
      have hR := (H2.out.1.below hb).row (g := w.heap.size) (cs := cR r) (ty := 32) (by unfold doL; simp)
      have f37 := hR.fz 37
      have hR2 : Row (wr.setCell ⟨w.heap.size, 37, none⟩ (.slice none 0 0)) w.heap.size (cR { r with o := (none, 0, 0) }) 32 := by rw [← cR_seto]; exact hR.set 37 _
      obtain ⟨m4, m4'⟩ := hR2.okw (cR_length _)
      change rdA _ _ _ = vR { r with o := (none, 0, 0) } at m4'
      generalize hr0 : ({ r with o := (none, 0, 0) } : Rs) = r0 at m4' hR2
      have hI5 : InvR w0 b ch { s with outs := [] } s r (doL w.heap.size r x zR L) wr := H2.out.1.below hb
      have hI6 : InvR w0 b ch { s with outs := [] } s r ((w.heap.size, cR r0, 32) :: (w.heap.size + 1 + 1, cR zR, 32) :: L) (wr.setCell ⟨w.heap.size, 37, none⟩ (.slice none 0 0)) :=
        InvR.turn (cs := cR r) (hI5.sub fun y hy => by
          unfold doL
          simp only [List.mem_cons] at hy ⊢
          rcases hy with rfl | rfl | hy
          · simp
          · simp
          · simp [hy]) HG.out.1 (fun y hy => by
            rcases List.mem_cons.1 hy with rfl | hy
            · show w.heap.size + 1 + 1 ≠ w.heap.size; omega
            · have := HG.out.2 y hy; omega) (fun k hk => heap_set_other wr _ 37 _ k hk) hR2 (by simp [World.setCell]) ⟨rfl, rfl, rfl⟩
      have hI7 : InvR w0 b ch { s with outs := [] } { s with outs := [] } r0 ((w.heap.size + 1 + 1, cR zR, 32) :: L) (wr.setCell ⟨w.heap.size, 37, none⟩ (.slice none 0 0)) :=
        (hI6.sub fun y hy => List.mem_cons_of_mem _ hy).reref fun F ha => by
          rw [← hr0]
          exact ⟨ha.ch, ha.st, ha.cur, ha.at_, ha.ws, SlF.nil _ _ _⟩
      have m6 := (hI7.row List.mem_cons_self).rok (cR_length zR)
      have H7 := Lib.hid hI7
      clear hI5 hI6 hI7 hR hR2 hb hr0
      go_wp2
      have HZ := InvR.setRow (cs := cR zR) H7.out (by have := HG.out.1; omega) (fun y hy => by have := HG.out.2 y hy; omega) (cR r0)
      exact bodyPost_ret (v := .tuple #[vR r0, .bool true]) (results_c2 (ad := ⟨w.heap.size + 1 + 1, 0, none⟩) rfl rfl (load_R (HZ.row List.mem_cons_self)) rfl) rfl ⟨r0, true, rfl, fun _ => rfl, HZ.sub fun y hy => List.mem_cons_of_mem _ hy⟩
end Go.Proofs.YtlelecnafdddhaaDoor
