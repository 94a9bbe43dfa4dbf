/- The law of Print: Check and Print agree with the reference. -/
import Derived.Test.YtcchpenaiomeeaaPrintR
namespace Go.Proofs.Ytcchpenaiomeeaa
open Go.RowKit
theorem print_p2 (A : Option Addr) (c n : Nat) (xs : List Id) (t : ByteArray) (no : Int) (w : World) (h : ((⟨(printE xs).1.toArray⟩ : ByteArray), (printE xs).2) = (t, no)) (hl : xs.length = n) (hx : Sl w cI A xs) :
    Calls Try.prog 30 #[.slice A n c] w fun e w' => e = .returned (.tuple #[.string t, .int .i64 no]) ∧ Below w.heap.size w w' := by
  injection h with h1 h2
  subst h1 h2
  exact print_p A c n xs w hl hx
theorem print_r2 (A : Option Addr) (c n : Nat) (xs : List Id) (t : ByteArray) (no : Int) (w : World) (h : ((⟨(printE xs).1.toArray⟩ : ByteArray), (printE xs).2) = (t, no)) (hl : xs.length = n) (hc : n ≤ c) (hx : Sl w cI A xs) :
    Calls Try.prog 31 #[.slice A n c] w fun e w' => e = .returned (.tuple #[.string t, .int .i64 no]) ∧ Below w.heap.size w w' := by
  injection h with h1 h2
  subst h1 h2
  exact print_r A c n xs w hl hc hx
theorem printE_code (xs : List Id) : (printE xs).2 = chk xs := by
  unfold printE
  by_cases h : chk xs = 0
  · rw [if_neg (by simp [h])]; exact h.symm
  · rw [if_pos h]
set_option maxRecDepth 100000 in
set_option maxHeartbeats 1600000 in
theorem law10 (A : Option Addr) (c : Nat) (xs : List Id) (w : World) (hx : Sl w cI A xs) (hc : xs.length ≤ c) :
    Calls Try.prog 10 #[.slice A xs.length c] w fun e w' => e = .returned (.bool true) ∧ Below w.heap.size w w' := by
  have HB := Lib.hid (Below.refl w.heap.size w)
  have T0 := Lib.hid trivial
  by_cases hl : 30 < xs.length
  · have h1 : (30 : Int) < (xs.length : Int) := by omega
    clear hl hx hc
    go_enter Try.func10, Try.ntmps10
    go_wp2_with (go_at_call 12; refine (known12 _).mono ?_; rintro e w1 ⟨rfl, hb1⟩; replace HB := Lib.hid (Below.step HB.out hb1); clear hb1)
    go_ret
    exact ⟨rfl, HB.out⟩
  · have h1 : ¬ (30 : Int) < (xs.length : Int) := by omega
    rcases hE : ((⟨(printE xs).1.toArray⟩ : ByteArray), (printE xs).2) with ⟨t, no⟩
    have hno : chk xs = no := by rw [← printE_code]; injection hE
    have HX := Lib.hid (And.intro hx (And.intro (show xs.length * 32 ≤ 140737488355328 by omega) (And.intro hE (And.intro hno hc))))
    clear hx hE hno hl hc
    go_enter Try.func10, Try.ntmps10
    go_wp2_with (first
      | (go_at_call 12; have hh := T0; clear hh; refine (known12 _).mono ?_; rintro e w1 ⟨rfl, hb1⟩; replace HB := Lib.hid (Below.step HB.out hb1); clear hb1 T0; have T1 := Lib.hid trivial)
      | (go_at_call 14; have hh := T1; clear hh; refine (own14 _ _ _ xs _ rfl (HX.out.1.keep HB.out) HX.out.2.1).mono ?_; rintro e w1 ⟨AF1, nF1, cF1, rfl, hl1, hc1, hb1, ho1⟩; have F1 := Lib.hid (And.intro hl1 (And.intro hc1 ho1)); clear hl1 hc1 ho1; replace HB := Lib.hid (Below.step HB.out hb1); clear hb1 T1; have T2 := Lib.hid trivial)
      | (go_at_call 30; have hh := T2; clear hh; refine (print_p2 _ _ _ xs t no _ HX.out.2.2.1 F1.out.1 F1.out.2.2).mono ?_; rintro e w1 ⟨rfl, hb1⟩; clear F1; replace HB := Lib.hid (Below.step HB.out hb1); clear hb1 T2; have T3 := Lib.hid trivial)
      | (go_at_call 31; have hh := T3; clear hh; refine (print_r2 _ _ _ xs t no _ HX.out.2.2.1 rfl HX.out.2.2.2.2 (HX.out.1.keep HB.out)).mono ?_; rintro e w1 ⟨rfl, hb1⟩; replace HB := Lib.hid (Below.step HB.out hb1); clear hb1 T3; have T4 := Lib.hid trivial)
      | (go_at_call 14; have hh := T4; clear hh; refine (own14 _ _ _ xs _ rfl (HX.out.1.keep HB.out) HX.out.2.1).mono ?_; rintro e w1 ⟨AF2, nF2, cF2, rfl, hl1, hc1, hb1, ho1⟩; have F2 := Lib.hid (And.intro hl1 (And.intro hc1 ho1)); clear hl1 hc1 ho1; replace HB := Lib.hid (Below.step HB.out hb1); clear hb1 T4; have T5 := Lib.hid trivial)
      | (go_at_call 25; have hh := T5; clear hh; refine (check25c _ _ _ no xs _ HX.out.2.2.2.1 F2.out.1 F2.out.2.2).mono ?_; rintro e w1 ⟨rfl, hb1⟩; replace HB := Lib.hid (Below.step HB.out hb1); clear hb1 T5; have T6 := Lib.hid trivial))
    go_ret
    exact ⟨rfl, HB.out⟩
end Go.Proofs.Ytcchpenaiomeeaa
