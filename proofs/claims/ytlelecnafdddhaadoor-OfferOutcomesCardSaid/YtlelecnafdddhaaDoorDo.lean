/- do: Drop. -/
import Derived.Test.YtlelecnafdddhaaDoorOut
namespace Go.Proofs.YtlelecnafdddhaaDoor
open Go.RowKit
theorem InvR.lts {w0 w : World} {b : Nat} {ch : Int} {s sr : St} {r : Rs} {L : List (Nat × List Value × TypeId)} (h : InvR w0 b ch s sr r L w) : ∀ x ∈ L, x.1 < w.heap.size := fun x hx => by
  obtain ⟨F, _, _, h3, _⟩ := h.rep
  exact (h3 x hx).1.lt
/-- The rows that do lays for itself. -/
def doL (g : Nat) (r : Rs) (x : Rop) (z : Rs) (L : List (Nat × List Value × TypeId)) : List (Nat × List Value × TypeId) := (g + 1 + 1, cR z, 32) :: (g + 1, cQ x, 57) :: (g, cR r, 32) :: L
theorem InvR.enterDo {w0 w : World} {b : Nat} {ch : Int} {s sr : St} {r : Rs} {L : List (Nat × List Value × TypeId)} (h : InvR w0 b ch s sr r L w) (x : Rop) : InvR w0 b ch s sr r (doL w.heap.size r x zR L) (((w.alloc (.cells (aR r) 32)).alloc (.cells (aQ x) 57)).alloc (.cells (aR zR) 32)) := by
  have h3 := ((h.alloc (cR r) 32).alloc (cQ x) 57).alloc (cR zR) 32
  rw [show ((w.alloc (.cells (cR r).toArray 32)).alloc (.cells (cQ x).toArray 57)).heap.size = w.heap.size + 1 + 1 by simp, show (w.alloc (.cells (cR r).toArray 32)).heap.size = w.heap.size + 1 by simp] at h3
  exact h3
/-- The result that do stores. -/
theorem InvR.leaveDo {w0 w W : World} {b : Nat} {ch : Int} {s sr : St} {r r' z : Rs} {x : Rop} {L : List (Nat × List Value × TypeId)} {g : Nat} (h : InvR w0 b ch s sr r' (doL g r x z L) w) (hg : w0.heap.size ≤ g) (hL : ∀ y ∈ L, y.1 < g) (hW : W = w.setRow (g + 1 + 1) (aR r')) : Row W (g + 1 + 1) (cR r') 32 ∧ InvR w0 b ch s sr r' L W := by
  subst hW
  have h2 := InvR.setRow (g := g + 1 + 1) (cs := cR z) (ty := 32) h (by omega) (fun y hy => by
    rcases List.mem_cons.1 hy with rfl | hy
    · show g + 1 ≠ g + 1 + 1; omega
    · rcases List.mem_cons.1 hy with rfl | hy
      · show g ≠ g + 1 + 1; omega
      · have := hL y hy; omega) (cR r')
  exact ⟨h2.row List.mem_cons_self, h2.sub fun y hy => List.mem_cons_of_mem _ (List.mem_cons_of_mem _ (List.mem_cons_of_mem _ hy))⟩
def DoP (w0 : World) (b : Nat) (ch : Int) (s sr : St) (ok : Bool) (L : List (Nat × List Value × TypeId)) : Ending → World → Prop := fun e w' => ∃ r', e = .returned (.tuple #[vR r', .bool ok]) ∧ InvR w0 b ch s sr r' L w'
set_option maxRecDepth 100000 in
set_option maxHeartbeats 3200000 in
theorem do22_drop (w0 : World) (b : Nat) (ch : Int) (s sr : St) (r : Rs) (x : Rop) (L : List (Nat × List Value × TypeId)) (w : World) (h : InvR w0 b ch s sr r L w) (g : Good ch s) (gr : Good ch sr) (hk : (x.kind.toNat : Int).tmod 5 = 3) : Calls Tryd.prog 22 #[.pointer (some ⟨b, 0, none⟩), vR r, vQ x] w (DoP w0 b ch (dropS s) (dropS sr) true L) := by
  have hI := h.enterDo x
  have hlts := h.lts
  have hB := h.bel.size
  obtain ⟨W3, hW⟩ : ∃ W3, ((w.alloc (.cells (aR r) 32)).alloc (.cells (aQ x) 57)).alloc (.cells (aR zR) 32) = W3 := ⟨_, rfl⟩
  rw [hW] at hI
  obtain ⟨r1, r1'⟩ := (hI.row (g := w.heap.size) (cs := cR r) (ty := 32) (by unfold doL; simp)).okw (cR_length r)
  have r2 := (hI.row (g := w.heap.size + 1) (cs := cQ x) (ty := 57) (by unfold doL; simp)).cell 0
  rw [show (cQ x)[0]? = some (.int .u8 (x.kind.toNat : Int)) from rfl] at r2
  change rdA _ _ 38 = vR r at r1'
  have HX := Lib.hid (And.intro hI (And.intro hlts (And.intro hB (And.intro g gr))))
  clear h hI hlts hB g gr
  have T0 : True := trivial
  go_enter Tryd.func22, Tryd.ntmps22
  go_wp2_with (first
    | (have hh := T0; clear hh T0; go_at_call 46; refine (HX.out.1.ref (val := vR) (sr' := dropS sr) (fun F hF ha => refDrop46 F ch sr r _ ha HX.out.2.2.2.2 hF)).mono ?_; rintro e w2 ⟨r2', rfl, hI2⟩; have H2 := Lib.hid hI2; clear hI2; have T1 : True := trivial)
    | (have hh := T1; clear hh T1; go_at_call 31; refine (H2.out.call (fun F hF => drop31_all b ch s F _ hF HX.out.2.2.2.1)).mono ?_; rintro e w3 ⟨rfl, hI3⟩; have j3 := (hI3.row (g := w.heap.size + 1 + 1) (cs := cR zR) (ty := 32) (by unfold doL; simp)).rok (cR_length zR); have H3 := Lib.hid hI3; clear hI3))
  obtain ⟨q1, q2⟩ := H3.out.leaveDo HX.out.2.2.1 HX.out.2.1 rfl
  exact bodyPost_ret (v := .tuple #[vR r2', .bool true]) (results_c2 (ad := ⟨w.heap.size + 1 + 1, 0, none⟩) rfl rfl (load_R q1) rfl) rfl ⟨r2', rfl, q2⟩
end Go.Proofs.YtlelecnafdddhaaDoor
