/- bulletinlaw30.CommandUnstuff: whatever the bytes, the law returns true. -/
import Derived.Test.YtfbpipknhghneaaDoorKno30
namespace Go.Proofs.YtfbpipknhghneaaDoor
open Go.RowKit
set_option maxRecDepth 100000 in
set_option maxHeartbeats 1600000 in
theorem law7 (s : ByteArray) (w : World) (hL : Laid w) : Calls Tryd.prog 7 #[.string s] w fun e w' => e = .returned (.bool true) ∧ Below w.heap.size w w' := by
  have HL := Lib.hid hL
  by_cases hl : 1000 < s.size
  · have T0 : True := trivial
    go_enter Tryd.func7, Tryd.ntmps7
    go_wp2_with (first
      | (have hh := T0; clear hh T0; go_at_call 11; refine (known11 _ HL.out).mono ?_; rintro e w1 ⟨rfl, hb1⟩; have H1 := Lib.hid hb1; clear hb1)
      | (go_at_call 11; refine (known11 _ (HL.out.keep H1.out)).mono ?_; rintro e w2 ⟨rfl, hb2⟩; have H2 := Lib.hid hb2; clear hb2))
    go_ret
    exact ⟨rfl, Below.step H1.out H2.out⟩
  · have H19 := Lib.hid (fun w1 => unstuff19 s w1 (by omega))
    have H20 := Lib.hid (fun w1 => refUnstuff20 s w1 (by omega))
    obtain ⟨⟨ul, un, ue⟩, hu⟩ : ∃ r, unL (bl s) = r := ⟨_, rfl⟩
    rw [hu] at H19 H20
    clear hu
    go_enter Tryd.func7, Tryd.ntmps7
    go_wp2_with (first
      | (go_at_call 11; refine (known11 _ HL.out).mono ?_; rintro e w1 ⟨rfl, hb1⟩; have H1 := Lib.hid hb1; clear hb1)
      | (go_at_call 19; refine (H19.out _).mono ?_; rintro e w2 ⟨t, rfl, ht, hb2⟩; have H2 := Lib.hid (And.intro ht hb2); clear ht hb2)
      | (go_at_call 20; refine (H20.out _).mono ?_; rintro e w3 ⟨t2, rfl, ht2, rfl⟩; obtain rfl : t2 = t := bl_inj (ht2.trans H2.out.1.symm); clear ht2))
    go_ret
    exact ⟨by simp, Below.step H1.out H2.out.2⟩
end Go.Proofs.YtfbpipknhghneaaDoor
