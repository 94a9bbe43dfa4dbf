/- bulletinlaw33.OfferNew. -/
import Derived.Test.YtlelecnafdddhaaDoorRefB
namespace Go.Proofs.YtlelecnafdddhaaDoor
open Go.RowKit
def Laid (w : World) : Prop := FormsAt w ∧ EffAt w
theorem Laid.keep {w w' : World} (h : Laid w) (hb : Below w.heap.size w w') : Laid w' := ⟨h.1.keep hb, At.keep h.2 hb⟩
def cutN (t : ByteArray) (n : Nat) : ByteArray := t.extract 0 (min t.size n)
set_option maxRecDepth 100000 in
set_option maxHeartbeats 1600000 in
theorem law3_no (ch : Int) (h : ch < 1 ∨ 4096 < ch) (x : Id) (t : ByteArray) (w : World) (hL : Laid w) : Calls Tryd.prog 3 #[.int .i64 ch, vI x, .string t] w fun e w' => e = .returned (.bool true) ∧ Below w.heap.size w w' := by
  have HX := Lib.hid hL
  clear hL
  go_enter Tryd.func3, Tryd.ntmps3
  go_wp2_with (first
    | (go_at_call 11; refine (new11_no ch h _).mono ?_; rintro e w1 ⟨rfl, rfl⟩)
    | (go_at_call 12; refine (refNew12_no ch h _).mono ?_; rintro e w2 ⟨rfl, hb⟩; have H2 := Lib.hid (Below.step (below_alloc w (.cells (aI x) 22)) hb); clear hb)
    | (go_at_call 13; refine (known13 _ (HX.out.keep (Below.step H2.out (below_alloc _ _))).1 (HX.out.keep (Below.step H2.out (below_alloc _ _))).2).mono ?_; rintro e w3 ⟨rfl, hb⟩; have H3 := Lib.hid (Below.step (Below.step H2.out (below_alloc _ _)) hb); clear hb))
  go_ret
  exact ⟨rfl, H3.out⟩
set_option maxRecDepth 100000 in
set_option maxHeartbeats 1600000 in
theorem law3_ok (ch : Int) (h1 : 1 ≤ ch) (h2 : ch ≤ 4096) (x : Id) (t : ByteArray) (w : World) (hL : Laid w) : Calls Tryd.prog 3 #[.int .i64 ch, vI x, .string t] w fun e w' => e = .returned (.bool true) ∧ Below w.heap.size w w' := by
  have HX := Lib.hid hL
  clear hL
  have hs1 : (w.alloc (.cells (aI x) 22)).heap.size = w.heap.size + 1 := by simp
  have hF1 : ∀ u : World, w.heap.size + 1 < u.heap.size → ∀ k ∈ [w.heap.size + 1], k < u.heap.size := fun u hu k hk => by rw [List.mem_singleton.1 hk]; exact hu
  have HF1 := Lib.hid hF1
  have HR0 := Lib.hid (Row.new w (cI x) 22)
  have HS1 := Lib.hid hs1
  have T0 : True := trivial
  clear hF1 hs1
  go_enter Tryd.func3, Tryd.ntmps3
  go_wp2_with (first
    | (have hh := T0; clear hh T0; go_at_call 11; refine (new11_ok ch h1 h2 _).mono ?_; rintro e w1 ⟨rfl, hr, hb⟩; rw [HS1.out] at hr; have H1 := Lib.hid (And.intro hr (And.intro (Below.step (below_alloc w (.cells (aI x) 22)) hb) (HR0.out.keep hb))); clear hr hb; have T1 : True := trivial)
    | (have hh := T1; clear hh T1; go_at_call 12; refine (refNew12_ok [w.heap.size + 1] ch h1 h2 _).mono ?_; rintro e w2 ⟨r, rfl, hr, hb⟩; obtain ⟨x1, x2⟩ := (H1.out.2.2.keep hb).idI; have x3 := (H1.out.2.2.keep hb).lt; have H2 := Lib.hid (And.intro hr (And.intro (H1.out.1.keep hb) (And.intro (Below.step H1.out.2.1 hb) (H1.out.2.2.keep hb)))); clear hr hb; have T2 : True := trivial)
    | (have hh := T2; clear hh T2; go_at_call 14; refine (refAdd14 [w.heap.size + 1] ch St.zero r x _ _ (H2.out.1.keep (below_alloc w2 (.cells (aR r) 32))) (HF1.out _ (Nat.lt_of_lt_of_le H2.out.2.1.lt (below_alloc w2 (.cells (aR r) 32)).size)) (by decide)).mono ?_; rintro e w3 ⟨r2, rfl, hr, hb⟩; have hb2 := Below.step (below_alloc w2 (.cells (aR r) 32)) hb; have H3 := Lib.hid (And.intro (H2.out.2.1.keep hb2) (And.intro (Below.step H2.out.2.2.1 hb2) (H2.out.2.2.2.keep hb2))); clear hr hb hb2; have T3 : True := trivial)
    | (have hh := T3; clear hh T3; go_at_call 13; refine (known13 _ (HX.out.keep (Below.step H3.out.2.1 (below_alloc w3 (.cells (aR r2) 32)))).1 (HX.out.keep (Below.step H3.out.2.1 (below_alloc w3 (.cells (aR r2) 32)))).2).mono ?_; rintro e w4 ⟨rfl, hb⟩; have hb2 := Below.step (below_alloc w3 (.cells (aR r2) 32)) hb; obtain ⟨x4, x5⟩ := (H3.out.2.2.keep hb2).idI; have H4 := Lib.hid (And.intro (H3.out.1.keep hb2) (Below.step H3.out.2.1 hb2)); clear hb hb2; have T4 : True := trivial)
    | (have hh := T4; clear hh T4; go_at_call 15; refine (add15 (w.heap.size + 1) ch St.zero [w.heap.size + 1] x _ _ H4.out.1 (by decide)).mono ?_; rintro e w5 ⟨rfl, F5, hr, hk⟩; have H5 := Lib.hid (hk.below (B := w.heap.size) (fun k hm => by rw [List.mem_singleton.1 hm]; omega) H4.out.2.size); clear hr hk))
  go_ret
  exact ⟨by simp, ⟨H5.out.os.trans H4.out.2.os, H5.out.tape.trans H4.out.2.tape, H5.out.output.trans H4.out.2.output, Nat.le_trans H4.out.2.size (Nat.le_trans (Nat.le_refl _) H5.out.size), fun k hk => (H5.out.block k hk).trans (H4.out.2.block k hk)⟩⟩
theorem law3 (ch : Int) (x : Id) (t : ByteArray) (w : World) (hL : Laid w) : Calls Tryd.prog 3 #[.int .i64 ch, vI x, .string t] w fun e w' => e = .returned (.bool true) ∧ Below w.heap.size w w' := by
  by_cases h : ch < 1 ∨ 4096 < ch
  · exact law3_no ch h x t w hL
  · exact law3_ok ch (by omega) (by omega) x t w hL
end Go.Proofs.YtlelecnafdddhaaDoor
