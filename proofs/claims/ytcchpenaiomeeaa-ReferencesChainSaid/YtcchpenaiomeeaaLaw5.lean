/- The law of Merge: IsTrimmed and Merge agree with the reference, and Merge does not depend on the order. -/
import Derived.Test.YtcchpenaiomeeaaMerge
import Derived.Test.YtcchpenaiomeeaaLaw3
namespace Go.Proofs.Ytcchpenaiomeeaa
open Go.RowKit
/-- The slice reads as the list. -/
abbrev SlF (w : World) (A : Option Addr) (n c : Nat) (xs : List Id) : Prop := xs.length = n ∧ n ≤ c ∧ Sl w cI A xs
theorem SlF.carry {w w' : World} {A : Option Addr} {n c : Nat} {xs : List Id} (h : Hid (xs.length = n ∧ n ≤ c ∧ Sl w cI A xs)) (hb : Below w.heap.size w w') : Hid (xs.length = n ∧ n ≤ c ∧ Sl w' cI A xs) :=
  Lib.hid ⟨h.out.1, h.out.2.1, h.out.2.2.keep hb⟩
theorem merge21b (A B : Option Addr) (c d n m : Nat) (xs ys r : List Id) (no : Int) (w : World) (he : mergeE xs ys = (r, no)) (hl : xs.length = n) (hl2 : ys.length = m) (hx : Sl w cI A xs) (hy : Sl w cI B ys) (hc : n ≤ c) (hd : m ≤ d) (hn : xs.length ≤ 1000) (hm : ys.length ≤ 1000) :
    Calls Try.prog 21 #[.slice A n c, .slice B m d] w (OutE w r no) := by
  have h := merge21 A B c d n m xs ys w hl hl2 hx hy hc hd hn hm
  rwa [he] at h
theorem merge22b (A B : Option Addr) (c d n m : Nat) (xs ys r : List Id) (no : Int) (w : World) (he : mergeE xs ys = (r, no)) (hl : xs.length = n) (hl2 : ys.length = m) (hx : Sl w cI A xs) (hy : Sl w cI B ys) (hc : n ≤ c) (hd : m ≤ d) (hn : xs.length ≤ 1000) (hm : ys.length ≤ 1000) :
    Calls Try.prog 22 #[.slice A n c, .slice B m d] w (OutE w r no) := by
  have h := merge22 A B c d n m xs ys w hl hl2 hx hy hc hd hn hm
  rwa [he] at h
theorem isTr_eq (xs ys : List Id) (h : isTr xs ys = true) (hl : xs.length = ys.length) : xs = ys := by
  unfold isTr at h
  by_cases h0 : xs.length = 0
  · rw [List.length_eq_zero_iff.1 h0, List.length_eq_zero_iff.1 (hl.symm.trans h0)]
  · rw [if_neg h0, trimL, if_pos (by omega)] at h
    simpa using h
theorem mergeE_len (xs ys : List Id) : (mergeE xs ys).1.length ≤ xs.length + ys.length := by
  unfold mergeE
  split
  · simp
  · split
    · simp
    · split
      · simp
      · split
        · simp
        · simp
theorem mergeE_comm (xs ys : List Id) : ((mergeE xs ys).2 = 0 ↔ (mergeE ys xs).2 = 0) ∧ ((mergeE xs ys).2 = 0 → (mergeE ys xs).1 = (mergeE xs ys).1) := by
  unfold mergeE
  by_cases h1 : chk xs = 0
  · by_cases h2 : chk ys = 0
    · simp only [h1, h2, ne_eq, not_true, if_false]
      by_cases h3 : isTr xs ys = false ∧ isTr ys xs = false
      · rw [if_pos h3, if_pos h3.symm]
        simp
      · have h3' : ¬ (isTr ys xs = false ∧ isTr xs ys = false) := fun h => h3 ⟨h.2, h.1⟩
        rw [if_neg h3, if_neg h3']
        by_cases h4 : xs.length < ys.length
        · rw [if_pos h4, if_neg (by omega)]
          simp
        · rw [if_neg h4]
          by_cases h5 : ys.length < xs.length
          · rw [if_pos h5]
            simp
          · rw [if_neg h5]
            have hl : xs.length = ys.length := by omega
            refine ⟨by simp, fun _ => ?_⟩
            cases hq : isTr xs ys with
            | true => exact (isTr_eq xs ys hq hl).symm
            | false =>
              cases hr : isTr ys xs with
              | true => exact isTr_eq ys xs hr hl.symm
              | false => exact absurd ⟨hq, hr⟩ h3
    · simp [h1, h2]
  · by_cases h2 : chk ys = 0
    · simp [h1, h2]
    · simp [h1, h2]
set_option maxRecDepth 100000 in
set_option maxHeartbeats 1600000 in
theorem law5 (A B : Option Addr) (c d : Nat) (xs ys : List Id) (w : World) (hx : Sl w cI A xs) (hc : xs.length ≤ c) (hy : Sl w cI B ys) (hd : ys.length ≤ d) :
    Calls Try.prog 5 #[.slice A xs.length c, .slice B ys.length d] w fun e w' => e = .returned (.bool true) ∧ Below w.heap.size w w' := by
  by_cases hl : 30 < xs.length
  · have h1 : (30 : Int) < (xs.length : Int) := by omega
    clear hl
    have HB := Lib.hid (Below.refl w.heap.size w)
    have T0 := Lib.hid trivial
    clear hx hc hy hd
    go_enter Try.func5, Try.ntmps5
    go_wp2_with (first
      | (go_at_call 12; have hh := T0; clear hh; refine (known12 _).mono ?_; rintro e w1 ⟨rfl, hb1⟩; replace HB := Lib.hid (Below.step HB.out hb1); clear hb1 T0; have T1 := Lib.hid trivial)
      | (go_at_call 12; have hh := T1; clear hh; refine (known12 _).mono ?_; rintro e w1 ⟨rfl, hb1⟩; replace HB := Lib.hid (Below.step HB.out hb1); clear hb1 T1; have T2 := Lib.hid trivial))
    go_ret
    exact ⟨rfl, HB.out⟩
  · have h1 : ¬ (30 : Int) < (xs.length : Int) := by omega
    by_cases hm : 30 < ys.length
    · have h2 : (30 : Int) < (ys.length : Int) := by omega
      clear hl hm
      have HB := Lib.hid (Below.refl w.heap.size w)
      have T0 := Lib.hid trivial
      clear hx hc hy hd
      go_enter Try.func5, Try.ntmps5
      go_wp2_with (first
        | (go_at_call 12; have hh := T0; clear hh; refine (known12 _).mono ?_; rintro e w1 ⟨rfl, hb1⟩; replace HB := Lib.hid (Below.step HB.out hb1); clear hb1 T0; have T1 := Lib.hid trivial)
        | (go_at_call 12; have hh := T1; clear hh; refine (known12 _).mono ?_; rintro e w1 ⟨rfl, hb1⟩; replace HB := Lib.hid (Below.step HB.out hb1); clear hb1 T1; have T2 := Lib.hid trivial))
      go_ret
      exact ⟨rfl, HB.out⟩
    · have h2 : ¬ (30 : Int) < (ys.length : Int) := by omega
      have hcm := mergeE_comm xs ys
      have hln := mergeE_len xs ys
      rcases hE : mergeE xs ys with ⟨r, no⟩
      rcases hE2 : mergeE ys xs with ⟨r2, no2⟩
      rw [hE, hE2] at hcm
      rw [hE] at hln
      simp only at hcm hln
      have HX := Lib.hid (And.intro hx (And.intro hy (And.intro hc (And.intro hd (And.intro (show xs.length ≤ 1000 by omega) (show ys.length ≤ 1000 by omega))))))
      have HZ := Lib.hid (And.intro (show xs.length * 32 ≤ 140737488355328 by omega) (And.intro (show ys.length * 32 ≤ 140737488355328 by omega) (show r.length ≤ 4294967296 by omega)))
      have HB := Lib.hid (Below.refl w.heap.size w)
      have T0 := Lib.hid trivial
      have HE := Lib.hid (And.intro hE hE2)
      clear hx hy hc hd hl hm hE hE2 hln
      by_cases h3 : no = 0
      · have h4 : no2 = 0 := hcm.1.1 h3
        have h5 : r = r2 := (hcm.2 h3).symm
        subst h3
        subst h4
        subst h5
        clear hcm
        go_enter Try.func5, Try.ntmps5
        go_wp2_with (first
          | (go_at_call 12; have hh := T0; clear hh; refine (known12 _).mono ?_; rintro e w1 ⟨rfl, hb1⟩; replace HB := Lib.hid (Below.step HB.out hb1); clear hb1 T0; have T1 := Lib.hid trivial)
          | (go_at_call 14; have hh := T1; clear hh; refine (own14 _ _ _ xs _ rfl (HX.out.1.keep HB.out) HZ.out.1).mono ?_; rintro e w1 ⟨AF1, nF1, cF1, rfl, hl1, hc1, hb1, ho1⟩; have F1 := Lib.hid (And.intro hl1 (And.intro hc1 ho1)); clear hl1 hc1 ho1; replace HB := Lib.hid (Below.step HB.out hb1); clear hb1 T1; have T2 := Lib.hid trivial)
          | (go_at_call 14; have hh := T2; clear hh; refine (own14 _ _ _ ys _ rfl (HX.out.2.1.keep HB.out) HZ.out.2.1).mono ?_; rintro e w1 ⟨AF2, nF2, cF2, rfl, hl1, hc1, hb1, ho1⟩; have F2 := Lib.hid (And.intro hl1 (And.intro hc1 ho1)); clear hl1 hc1 ho1; replace F1 := SlF.carry F1 hb1; replace HB := Lib.hid (Below.step HB.out hb1); clear hb1 T2; have T3 := Lib.hid trivial)
          | (go_at_call 21; have hh := T3; clear hh; refine (merge21b _ _ _ _ _ _ xs ys _ _ _ HE.out.1 F1.out.1 F2.out.1 F1.out.2.2 F2.out.2.2 F1.out.2.1 F2.out.2.1 HX.out.2.2.2.2.1 HX.out.2.2.2.2.2).mono ?_; rintro e w1 ⟨AF3, nF3, cF3, rfl, hl1, hc1, hb1, ho1⟩; have F3 := Lib.hid (And.intro hl1 (And.intro hc1 ho1)); clear hl1 hc1 ho1; clear F1; clear F2; replace HB := Lib.hid (Below.step HB.out hb1); clear hb1 T3; have T4 := Lib.hid trivial)
          | (go_at_call 22; have hh := T4; clear hh; refine (merge22b _ _ _ _ _ _ xs ys _ _ _ HE.out.1 rfl rfl (HX.out.1.keep HB.out) (HX.out.2.1.keep HB.out) HX.out.2.2.1 HX.out.2.2.2.1 HX.out.2.2.2.2.1 HX.out.2.2.2.2.2).mono ?_; rintro e w1 ⟨AF4, nF4, cF4, rfl, hl1, hc1, hb1, ho1⟩; have F4 := Lib.hid (And.intro hl1 (And.intro hc1 ho1)); clear hl1 hc1 ho1; replace F3 := SlF.carry F3 hb1; replace HB := Lib.hid (Below.step HB.out hb1); clear hb1 T4; have T5 := Lib.hid trivial)
          | (go_at_call 14; have hh := T5; clear hh; refine (own14 _ _ _ ys _ rfl (HX.out.2.1.keep HB.out) HZ.out.2.1).mono ?_; rintro e w1 ⟨AF5, nF5, cF5, rfl, hl1, hc1, hb1, ho1⟩; have F5 := Lib.hid (And.intro hl1 (And.intro hc1 ho1)); clear hl1 hc1 ho1; replace F3 := SlF.carry F3 hb1; replace F4 := SlF.carry F4 hb1; replace HB := Lib.hid (Below.step HB.out hb1); clear hb1 T5; have T6 := Lib.hid trivial)
          | (go_at_call 14; have hh := T6; clear hh; refine (own14 _ _ _ xs _ rfl (HX.out.1.keep HB.out) HZ.out.1).mono ?_; rintro e w1 ⟨AF6, nF6, cF6, rfl, hl1, hc1, hb1, ho1⟩; have F6 := Lib.hid (And.intro hl1 (And.intro hc1 ho1)); clear hl1 hc1 ho1; replace F3 := SlF.carry F3 hb1; replace F4 := SlF.carry F4 hb1; replace F5 := SlF.carry F5 hb1; replace HB := Lib.hid (Below.step HB.out hb1); clear hb1 T6; have T7 := Lib.hid trivial)
          | (go_at_call 21; have hh := T7; clear hh; refine (merge21b _ _ _ _ _ _ ys xs _ _ _ HE.out.2 F5.out.1 F6.out.1 F5.out.2.2 F6.out.2.2 F5.out.2.1 F6.out.2.1 HX.out.2.2.2.2.2 HX.out.2.2.2.2.1).mono ?_; rintro e w1 ⟨AF7, nF7, cF7, rfl, hl1, hc1, hb1, ho1⟩; have F7 := Lib.hid (And.intro hl1 (And.intro hc1 ho1)); clear hl1 hc1 ho1; clear F5; clear F6; replace F3 := SlF.carry F3 hb1; replace F4 := SlF.carry F4 hb1; replace HB := Lib.hid (Below.step HB.out hb1); clear hb1 T7; have T8 := Lib.hid trivial)
          | (go_at_call 16; have hh := T8; clear hh; refine (same16t _ _ _ _ _ _ _ _ F3.out.1 F4.out.1 F3.out.2.2 F4.out.2.2 HZ.out.2.2).mono ?_; rintro e w1 ⟨rfl, hb1⟩; clear F3; replace F4 := SlF.carry F4 hb1; replace F7 := SlF.carry F7 hb1; replace HB := Lib.hid (Below.step HB.out hb1); clear hb1 T8; have T9 := Lib.hid trivial)
          | (go_at_call 14; have hh := T9; clear hh; refine (own14 _ _ _ xs _ rfl (HX.out.1.keep HB.out) HZ.out.1).mono ?_; rintro e w1 ⟨AF8, nF8, cF8, rfl, hl1, hc1, hb1, ho1⟩; have F8 := Lib.hid (And.intro hl1 (And.intro hc1 ho1)); clear hl1 hc1 ho1; replace F4 := SlF.carry F4 hb1; replace F7 := SlF.carry F7 hb1; replace HB := Lib.hid (Below.step HB.out hb1); clear hb1 T9; have T10 := Lib.hid trivial)
          | (go_at_call 14; have hh := T10; clear hh; refine (own14 _ _ _ ys _ rfl (HX.out.2.1.keep HB.out) HZ.out.2.1).mono ?_; rintro e w1 ⟨AF9, nF9, cF9, rfl, hl1, hc1, hb1, ho1⟩; have F9 := Lib.hid (And.intro hl1 (And.intro hc1 ho1)); clear hl1 hc1 ho1; replace F4 := SlF.carry F4 hb1; replace F7 := SlF.carry F7 hb1; replace F8 := SlF.carry F8 hb1; replace HB := Lib.hid (Below.step HB.out hb1); clear hb1 T10; have T11 := Lib.hid trivial)
          | (go_at_call 23; have hh := T11; clear hh; refine (istr23' _ _ _ _ _ _ xs ys _ F8.out.1 F9.out.1 F8.out.2.2 F9.out.2.2 F9.out.2.1 HX.out.2.2.2.2.1 HX.out.2.2.2.2.2).mono ?_; rintro e w1 ⟨rfl, hb1⟩; clear F8; clear F9; replace F4 := SlF.carry F4 hb1; replace F7 := SlF.carry F7 hb1; replace HB := Lib.hid (Below.step HB.out hb1); clear hb1 T11; have T12 := Lib.hid trivial)
          | (go_at_call 24; have hh := T12; clear hh; refine (istr24 _ _ _ _ _ _ xs ys _ rfl rfl (HX.out.1.keep HB.out) (HX.out.2.1.keep HB.out) HX.out.2.2.2.1 HX.out.2.2.2.2.1 HX.out.2.2.2.2.2).mono ?_; rintro e w1 ⟨rfl, hb1⟩; replace F4 := SlF.carry F4 hb1; replace F7 := SlF.carry F7 hb1; replace HB := Lib.hid (Below.step HB.out hb1); clear hb1 T12; have T13 := Lib.hid trivial)
          | (go_at_call 16; have hh := T13; clear hh; refine (same16t _ _ _ _ _ _ _ _ F7.out.1 F4.out.1 F7.out.2.2 F4.out.2.2 HZ.out.2.2).mono ?_; rintro e w1 ⟨rfl, hb1⟩; clear F7; clear F4; replace HB := Lib.hid (Below.step HB.out hb1); clear hb1 T13; have T14 := Lib.hid trivial))
        go_ret
        exact ⟨rfl, HB.out⟩
      · have h4 : ¬ no2 = 0 := fun h => h3 (hcm.1.2 h)
        have h5 : (no == 0) = false := by simp [h3]
        have h6 : (no2 == 0) = false := by simp [h4]
        have h7 : (no != 0) = true := by simp [h3]
        clear hcm h3 h4
        go_enter Try.func5, Try.ntmps5
        go_wp2_with (first
          | (go_at_call 12; have hh := T0; clear hh; refine (known12 _).mono ?_; rintro e w1 ⟨rfl, hb1⟩; replace HB := Lib.hid (Below.step HB.out hb1); clear hb1 T0; have T1 := Lib.hid trivial)
          | (go_at_call 14; have hh := T1; clear hh; refine (own14 _ _ _ xs _ rfl (HX.out.1.keep HB.out) HZ.out.1).mono ?_; rintro e w1 ⟨AF1, nF1, cF1, rfl, hl1, hc1, hb1, ho1⟩; have F1 := Lib.hid (And.intro hl1 (And.intro hc1 ho1)); clear hl1 hc1 ho1; replace HB := Lib.hid (Below.step HB.out hb1); clear hb1 T1; have T2 := Lib.hid trivial)
          | (go_at_call 14; have hh := T2; clear hh; refine (own14 _ _ _ ys _ rfl (HX.out.2.1.keep HB.out) HZ.out.2.1).mono ?_; rintro e w1 ⟨AF2, nF2, cF2, rfl, hl1, hc1, hb1, ho1⟩; have F2 := Lib.hid (And.intro hl1 (And.intro hc1 ho1)); clear hl1 hc1 ho1; replace F1 := SlF.carry F1 hb1; replace HB := Lib.hid (Below.step HB.out hb1); clear hb1 T2; have T3 := Lib.hid trivial)
          | (go_at_call 21; have hh := T3; clear hh; refine (merge21b _ _ _ _ _ _ xs ys _ _ _ HE.out.1 F1.out.1 F2.out.1 F1.out.2.2 F2.out.2.2 F1.out.2.1 F2.out.2.1 HX.out.2.2.2.2.1 HX.out.2.2.2.2.2).mono ?_; rintro e w1 ⟨AF3, nF3, cF3, rfl, hl1, hc1, hb1, ho1⟩; have F3 := Lib.hid (And.intro hl1 (And.intro hc1 ho1)); clear hl1 hc1 ho1; clear F1; clear F2; replace HB := Lib.hid (Below.step HB.out hb1); clear hb1 T3; have T4 := Lib.hid trivial)
          | (go_at_call 22; have hh := T4; clear hh; refine (merge22b _ _ _ _ _ _ xs ys _ _ _ HE.out.1 rfl rfl (HX.out.1.keep HB.out) (HX.out.2.1.keep HB.out) HX.out.2.2.1 HX.out.2.2.2.1 HX.out.2.2.2.2.1 HX.out.2.2.2.2.2).mono ?_; rintro e w1 ⟨AF4, nF4, cF4, rfl, hl1, hc1, hb1, ho1⟩; have F4 := Lib.hid (And.intro hl1 (And.intro hc1 ho1)); clear hl1 hc1 ho1; replace F3 := SlF.carry F3 hb1; replace HB := Lib.hid (Below.step HB.out hb1); clear hb1 T4; have T5 := Lib.hid trivial)
          | (go_at_call 14; have hh := T5; clear hh; refine (own14 _ _ _ ys _ rfl (HX.out.2.1.keep HB.out) HZ.out.2.1).mono ?_; rintro e w1 ⟨AF5, nF5, cF5, rfl, hl1, hc1, hb1, ho1⟩; have F5 := Lib.hid (And.intro hl1 (And.intro hc1 ho1)); clear hl1 hc1 ho1; replace F3 := SlF.carry F3 hb1; replace F4 := SlF.carry F4 hb1; replace HB := Lib.hid (Below.step HB.out hb1); clear hb1 T5; have T6 := Lib.hid trivial)
          | (go_at_call 14; have hh := T6; clear hh; refine (own14 _ _ _ xs _ rfl (HX.out.1.keep HB.out) HZ.out.1).mono ?_; rintro e w1 ⟨AF6, nF6, cF6, rfl, hl1, hc1, hb1, ho1⟩; have F6 := Lib.hid (And.intro hl1 (And.intro hc1 ho1)); clear hl1 hc1 ho1; replace F3 := SlF.carry F3 hb1; replace F4 := SlF.carry F4 hb1; replace F5 := SlF.carry F5 hb1; replace HB := Lib.hid (Below.step HB.out hb1); clear hb1 T6; have T7 := Lib.hid trivial)
          | (go_at_call 21; have hh := T7; clear hh; refine (merge21b _ _ _ _ _ _ ys xs _ _ _ HE.out.2 F5.out.1 F6.out.1 F5.out.2.2 F6.out.2.2 F5.out.2.1 F6.out.2.1 HX.out.2.2.2.2.2 HX.out.2.2.2.2.1).mono ?_; rintro e w1 ⟨AF7, nF7, cF7, rfl, hl1, hc1, hb1, ho1⟩; have F7 := Lib.hid (And.intro hl1 (And.intro hc1 ho1)); clear hl1 hc1 ho1; clear F5; clear F6; replace F3 := SlF.carry F3 hb1; replace F4 := SlF.carry F4 hb1; replace HB := Lib.hid (Below.step HB.out hb1); clear hb1 T7; have T8 := Lib.hid trivial)
          | (go_at_call 16; have hh := T8; clear hh; refine (same16t _ _ _ _ _ _ _ _ F3.out.1 F4.out.1 F3.out.2.2 F4.out.2.2 HZ.out.2.2).mono ?_; rintro e w1 ⟨rfl, hb1⟩; clear F3; replace F4 := SlF.carry F4 hb1; replace F7 := SlF.carry F7 hb1; replace HB := Lib.hid (Below.step HB.out hb1); clear hb1 T8; have T9 := Lib.hid trivial)
          | (go_at_call 14; have hh := T9; clear hh; refine (own14 _ _ _ xs _ rfl (HX.out.1.keep HB.out) HZ.out.1).mono ?_; rintro e w1 ⟨AF8, nF8, cF8, rfl, hl1, hc1, hb1, ho1⟩; have F8 := Lib.hid (And.intro hl1 (And.intro hc1 ho1)); clear hl1 hc1 ho1; replace F4 := SlF.carry F4 hb1; replace F7 := SlF.carry F7 hb1; replace HB := Lib.hid (Below.step HB.out hb1); clear hb1 T9; have T10 := Lib.hid trivial)
          | (go_at_call 14; have hh := T10; clear hh; refine (own14 _ _ _ ys _ rfl (HX.out.2.1.keep HB.out) HZ.out.2.1).mono ?_; rintro e w1 ⟨AF9, nF9, cF9, rfl, hl1, hc1, hb1, ho1⟩; have F9 := Lib.hid (And.intro hl1 (And.intro hc1 ho1)); clear hl1 hc1 ho1; replace F4 := SlF.carry F4 hb1; replace F7 := SlF.carry F7 hb1; replace F8 := SlF.carry F8 hb1; replace HB := Lib.hid (Below.step HB.out hb1); clear hb1 T10; have T11 := Lib.hid trivial)
          | (go_at_call 23; have hh := T11; clear hh; refine (istr23' _ _ _ _ _ _ xs ys _ F8.out.1 F9.out.1 F8.out.2.2 F9.out.2.2 F9.out.2.1 HX.out.2.2.2.2.1 HX.out.2.2.2.2.2).mono ?_; rintro e w1 ⟨rfl, hb1⟩; clear F8; clear F9; replace F4 := SlF.carry F4 hb1; replace F7 := SlF.carry F7 hb1; replace HB := Lib.hid (Below.step HB.out hb1); clear hb1 T11; have T12 := Lib.hid trivial)
          | (go_at_call 24; have hh := T12; clear hh; refine (istr24 _ _ _ _ _ _ xs ys _ rfl rfl (HX.out.1.keep HB.out) (HX.out.2.1.keep HB.out) HX.out.2.2.2.1 HX.out.2.2.2.2.1 HX.out.2.2.2.2.2).mono ?_; rintro e w1 ⟨rfl, hb1⟩; replace F4 := SlF.carry F4 hb1; replace F7 := SlF.carry F7 hb1; replace HB := Lib.hid (Below.step HB.out hb1); clear hb1 T12; have T13 := Lib.hid trivial)
          | (go_at_call 16; have hh := T13; clear hh; refine (same16t _ _ _ _ _ _ _ _ F7.out.1 F4.out.1 F7.out.2.2 F4.out.2.2 HZ.out.2.2).mono ?_; rintro e w1 ⟨rfl, hb1⟩; clear F7; clear F4; replace HB := Lib.hid (Below.step HB.out hb1); clear hb1 T13; have T14 := Lib.hid trivial))
        go_ret
        exact ⟨rfl, HB.out⟩
end Go.Proofs.Ytcchpenaiomeeaa
