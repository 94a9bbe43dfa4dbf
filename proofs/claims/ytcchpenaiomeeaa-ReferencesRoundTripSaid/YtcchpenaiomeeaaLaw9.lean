/- The law of Parse: it agrees with the reference. -/
import Derived.Test.YtcchpenaiomeeaaParseR
namespace Go.Proofs.Ytcchpenaiomeeaa
open Go.RowKit
theorem parseF_len : ∀ (n : Nat) (l : List UInt8) (i : Nat) (out : List Id), (parseF n l i out).1.length ≤ out.length + n
  | 0, _, _, out => by simp [parseF]
  | n + 1, [], _, out => by simp [parseF]
  | n + 1, c :: r, i, out => by
    rw [parseF_cons]
    split
    · have := parseF_len n r (i + 1) out; omega
    · split
      · simp
      · split
        · simp
        · split
          · simp
          · have := parseF_len n ((c :: r).drop (tokL (c :: r))) (i + tokL (c :: r)) (out ++ [midL ((c :: r).take (tokL (c :: r)))])
            rw [List.length_append, List.length_singleton] at this
            omega
theorem parse_p2 (s : ByteArray) (w : World) (xs : List Id) (a no : Int) (hs : s.size ≤ 4294967296) (h : parseL (bl s) = (xs, a, no)) : Calls Try.prog 28 #[.string s] w (OutP w (xs, a, no)) := by
  have := parse_p s w hs
  rwa [h] at this
theorem parse_r2 (s : ByteArray) (w : World) (xs : List Id) (a no : Int) (hs : s.size ≤ 4294967296) (h : parseL (bl s) = (xs, a, no)) : Calls Try.prog 29 #[.string s] w (OutP w (xs, a, no)) := by
  have := parse_r s w hs
  rwa [h] at this
set_option maxRecDepth 100000 in
set_option maxHeartbeats 1600000 in
theorem law9 (s : ByteArray) (w : World) : Calls Try.prog 9 #[.string s] w fun e w' => e = .returned (.bool true) ∧ Below w.heap.size w w' := by
  have HB := Lib.hid (Below.refl w.heap.size w)
  by_cases hl : 3000 < s.size
  · have h1 : (3000 : Int) < (s.size : Int) := by omega
    clear hl
    go_enter Try.func9, Try.ntmps9
    go_wp2_with (go_at_call 12; refine (known12 _).mono ?_; rintro e w1 ⟨rfl, hb1⟩; replace HB := Lib.hid (Below.step HB.out hb1); clear hb1)
    go_ret
    exact ⟨rfl, HB.out⟩
  · have h1 : ¬ (3000 : Int) < (s.size : Int) := by omega
    rcases hr : parseL (bl s) with ⟨xs, a, no⟩
    have hln := parseF_len ((bl s).length + 1) (bl s) 0 []
    rw [show parseF ((bl s).length + 1) (bl s) 0 [] = parseL (bl s) from rfl, hr] at hln
    have HR := Lib.hid (And.intro (show s.size ≤ 4294967296 by omega) (And.intro hr (show xs.length ≤ 4294967296 by simp only [bl_length, List.length_nil] at hln; omega)))
    clear hl hr hln
    go_enter Try.func9, Try.ntmps9
    go_wp2_with (first
      | (go_at_call 12; refine (known12 _).mono ?_; rintro e w1 ⟨rfl, hb1⟩; replace HB := Lib.hid (Below.step HB.out hb1); clear hb1)
      | (go_at_call 28; refine (parse_p2 s _ xs a no HR.out.1 HR.out.2.1).mono ?_; rintro e w1 ⟨A1, n1, c1, rfl, hl1, hc1, hb1, ho1⟩; have F1 := Lib.hid (And.intro hl1 (And.intro hc1 ho1)); replace HB := Lib.hid (Below.step HB.out hb1); clear hl1 hc1 hb1 ho1)
      | (go_at_call 29; refine (parse_r2 s _ xs a no HR.out.1 HR.out.2.1).mono ?_; rintro e w1 ⟨A2, n2, c2, rfl, hl1, hc1, hb1, ho1⟩; have F2 := Lib.hid (And.intro hl1 (And.intro hc1 ho1)); replace F1 := SlF.carry F1 hb1; replace HB := Lib.hid (Below.step HB.out hb1); clear hl1 hc1 hb1 ho1)
      | (go_at_call 16; refine (same16t _ _ _ _ _ _ xs _ F1.out.1 F2.out.1 F1.out.2.2 F2.out.2.2 HR.out.2.2).mono ?_; rintro e w1 ⟨rfl, hb1⟩; replace HB := Lib.hid (Below.step HB.out hb1); clear hb1))
    go_ret
    exact ⟨rfl, HB.out⟩
end Go.Proofs.Ytcchpenaiomeeaa
