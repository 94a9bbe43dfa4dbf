/- The law of Trim: it agrees with the reference, and trimming twice is trimming to the smaller number. -/
import Derived.Test.YtcchpenaiomeeaaKnown
import Derived.Test.YtcchpenaiomeeaaOpen
import Derived.Test.YtcchpenaiomeeaaOwn
import Derived.BigQuiet
namespace Go.Proofs.Ytcchpenaiomeeaa
open Go.RowKit
theorem own14 (A : Option Addr) (c n : Nat) (xs : List Id) (w : World) (hl : xs.length = n) (hx : Sl w cI A xs) (hn : xs.length * 32 ≤ 140737488355328) :
    Calls Try.prog 14 #[.slice A n c] w (Out w xs) := by
  subst hl
  refine (own_any A c xs w hx hn).mono ?_
  rintro e w1 ⟨v, rfl, hb, ho⟩
  exact Out.mk hb ho
theorem trim13' (A : Option Addr) (c n : Nat) (m : Int) (xs : List Id) (w : World) (hl : xs.length = n) (hx : Sl w cI A xs) (hc : n ≤ c) (hn : xs.length * 32 ≤ 140737488355328) :
    Calls Try.prog 13 #[.slice A n c, .int .i64 m] w (OutE w (trimE xs m).1 (trimE xs m).2) := by
  subst hl
  exact trim13 A c m xs w hx hc hn
theorem trim13b (A : Option Addr) (c n : Nat) (m : Int) (r : List Id) (no : Int) (xs : List Id) (w : World) (he : trimE xs m = (r, no)) (hl : xs.length = n) (hx : Sl w cI A xs) (hc : n ≤ c) (hn : xs.length * 32 ≤ 140737488355328) :
    Calls Try.prog 13 #[.slice A n c, .int .i64 m] w (OutE w r no) := by
  have h := trim13' A c n m xs w hl hx hc hn
  rwa [he] at h
theorem trim15b (A : Option Addr) (c n : Nat) (m : Int) (r : List Id) (no : Int) (xs : List Id) (w : World) (he : trimE xs m = (r, no)) (hl : xs.length = n) (hx : Sl w cI A xs) (hc : xs.length ≤ c) (hn : xs.length * 32 ≤ 140737488355328) :
    Calls Try.prog 15 #[.slice A n c, .int .i64 m] w (OutE w r no) := by
  subst hl
  have h := trim15 A c m xs w hx hc hn
  rwa [he] at h
theorem same16t (A B : Option Addr) (c d n n2 : Nat) (xs : List Id) (w : World) (hl : xs.length = n) (hl2 : xs.length = n2) (hx : Sl w cI A xs) (hy : Sl w cI B xs) (hn : xs.length ≤ 4294967296) :
    Calls Try.prog 16 #[.slice A n c, .slice B n2 d] w fun e w' => e = .returned (.bool true) ∧ Below w.heap.size w w' := by
  subst hl
  subst hl2
  refine (same16 A B c d xs xs w hx hy hn hn).mono ?_
  rintro e w1 ⟨rfl, n, rfl⟩
  exact ⟨by simp, below_drewN _ _⟩
theorem trimE_length_le (l : List Id) (m : Int) : (trimE l m).1.length ≤ l.length := by
  unfold trimE
  split
  · simp
  · split
    · simp
    · exact trimL_length_le l _ (by omega)
theorem trimL_trimL (l : List Id) (m n : Nat) (hn : 1 ≤ n) (h : n ≤ m) : trimL (trimL l m) n = trimL l n := by
  unfold trimL
  by_cases h1 : l.length ≤ m
  · rw [if_pos h1]
  · rw [if_neg h1]
    by_cases h2 : m = 1
    · subst h2
      obtain rfl : n = 1 := by omega
      simp only [if_true]
      rw [if_pos (by simp; omega), if_neg h1]
    · rw [if_neg h2]
      have hl : (l.take 1 ++ l.drop (l.length - (m - 1))).length = m := by simp; omega
      rw [hl]
      by_cases h3 : m ≤ n
      · obtain rfl : m = n := by omega
        rw [if_pos (Nat.le_refl _), if_neg h1, if_neg h2]
      · rw [if_neg h3, if_neg (show ¬ l.length ≤ n by omega)]
        by_cases h4 : n = 1
        · subst h4
          rw [if_pos rfl, if_pos rfl, List.drop_append, List.drop_drop]
          have e1 : (l.take 1).length = 1 := by simp; omega
          rw [e1, List.drop_eq_nil_of_le (by rw [e1]; omega), List.nil_append]
          congr 1
          omega
        · rw [if_neg h4, if_neg h4, List.drop_append, List.drop_drop, List.take_append]
          have e1 : (l.take 1).length = 1 := by simp; omega
          have e2 : List.drop (m - (n - 1)) (l.take 1) = [] := List.drop_eq_nil_of_le (by rw [e1]; omega)
          rw [e1, e2, List.nil_append, Nat.sub_self, List.take_zero, List.append_nil, List.take_take]
          congr 1
          congr 1
          omega
theorem trimE_trimE (l : List Id) (m n : Int) (h0 : (trimE l m).2 = 0) (hn : ¬ n < 1) (h : ¬ m < n) : trimE (trimE l m).1 n = (trimL l n.toNat, 0) ∧ trimE l n = (trimL l n.toNat, 0) := by
  unfold trimE at *
  by_cases h1 : m < 1 ∨ 20 < m
  · rw [if_pos h1] at h0; cases h0
  · rw [if_neg h1] at h0 ⊢
    by_cases h2 : 1000 < l.length
    · rw [if_pos h2] at h0; cases h0
    · rw [if_neg h2] at h0 ⊢
      have h3 : ¬ (n < 1 ∨ 20 < n) := by omega
      rw [if_neg h3, if_neg h3, if_neg h2]
      have := trimL_length_le l m.toNat (by omega)
      simp only
      rw [if_neg (by omega), trimL_trimL _ _ _ (by omega) (by omega)]
      simp
set_option maxRecDepth 100000 in
set_option maxHeartbeats 1600000 in
theorem law3 (A : Option Addr) (c : Nat) (m n : Int) (xs : List Id) (w : World) (hx : Sl w cI A xs) (hc : xs.length ≤ c) :
    Calls Try.prog 3 #[.slice A xs.length c, .int .i64 m, .int .i64 n] w fun e w' => e = .returned (.bool true) ∧ Below w.heap.size w w' := by
  by_cases hl : 60 < xs.length
  · have h1 : (60 : Int) < (xs.length : Int) := by omega
    have HB := Lib.hid (Below.refl w.heap.size w)
    clear hl hx hc
    go_enter Try.func3, Try.ntmps3
    go_wp2_with (go_at_call 12; refine (known12 _).mono ?_; rintro e w1 ⟨rfl, hb1⟩; have H12 := Lib.hid (Below.step HB.out hb1); clear HB hb1; have HB := H12; clear H12)
    go_ret
    exact ⟨rfl, HB.out⟩
  · have h1 : ¬ (60 : Int) < (xs.length : Int) := by omega
    rcases hE : trimE xs m with ⟨r, no⟩
    have hE2 := trimE_trimE xs m n
    have hle := trimE_length_le xs m
    rw [hE] at hE2 hle
    simp only at hE2 hle
    have HX := Lib.hid (And.intro hx (And.intro hc (And.intro (show xs.length * 32 ≤ 140737488355328 by omega) (show r.length ≤ 4294967296 by omega))))
    have HB := Lib.hid (Below.refl w.heap.size w)
    have Q1 := Lib.hid hE
    have HE := Lib.hid (And.intro hE2 (And.intro hle hl))
    clear hx hc hE hE2 hle hl
    by_cases h2 : no = 0
    · have h2' : (no != 0) = false := by simp [h2]
      by_cases h3 : n < 1
      · clear h2
        go_enter Try.func3, Try.ntmps3
        go_wp2_with (first
          | (go_at_call 12; refine (known12 _).mono ?_; rintro e w1 ⟨rfl, hb1⟩; have H12 := Lib.hid (Below.step HB.out hb1); clear HB hb1; have HB := H12; clear H12)
          | (go_at_call 14; have hh := H13b; clear hh; refine (own14 _ _ _ xs _ rfl (HX.out.1.keep HB.out) HX.out.2.2.1).mono ?_; rintro e w1 ⟨A1, n1, c1, rfl, hl1, hc1, hb1, ho1⟩; have H14 := Lib.hid (And.intro hl1 (And.intro hc1 ho1)); have H13' := Lib.hid (And.intro H13b.out.1 (H13b.out.2.keep hb1)); have H12 := Lib.hid (Below.step HB.out hb1); clear H13b HB hl1 hc1 hb1 ho1; have HB := H12; have H13b := H13'; clear H12 H13')
          | (go_at_call 14; refine (own14 _ _ _ xs _ rfl (HX.out.1.keep HB.out) HX.out.2.2.1).mono ?_; rintro e w1 ⟨A1, n1, c1, rfl, hl1, hc1, hb1, ho1⟩; have H14 := Lib.hid (And.intro hl1 (And.intro hc1 ho1)); have H12 := Lib.hid (Below.step HB.out hb1); clear HB hl1 hc1 hb1 ho1; have HB := H12; clear H12)
          | (go_at_call 13; have hh := H13; clear hh; refine (trim13b _ _ _ _ r2 0 _ _ Q2.out.1 H13.out.1 H13.out.2.2 H13.out.2.1 Q2.out.2.1).mono ?_; rintro e w1 ⟨A4, n4, c4, rfl, rfl, hc4, hb4, ho4⟩; have H13b := Lib.hid (And.intro hc4 ho4); have H12 := Lib.hid (Below.step HB.out hb4); clear HB H13 H14 hc4 hb4 ho4; have HB := H12; clear H12)
          | (go_at_call 13; have hh := H13b; clear hh; refine (trim13b _ _ _ _ r2 0 _ _ Q3.out H14.out.1 H14.out.2.2 H14.out.2.1 HX.out.2.2.1).mono ?_; rintro e w1 ⟨A5, n5, c5, rfl, rfl, hc5, hb5, ho5⟩; have H13c := Lib.hid (And.intro hc5 (And.intro ho5 (H13b.out.2.keep hb5))); have H12 := Lib.hid (Below.step HB.out hb5); clear HB H13b H14 hc5 hb5 ho5; have HB := H12; clear H12)
          | (go_at_call 13; refine (trim13b _ _ _ _ r _ _ _ Q1.out H14.out.1 H14.out.2.2 H14.out.2.1 HX.out.2.2.1).mono ?_; rintro e w1 ⟨A2, n2, c2, rfl, hl2, hc2, hb2, ho2⟩; have H13 := Lib.hid (And.intro hl2 (And.intro hc2 ho2)); have H12 := Lib.hid (Below.step HB.out hb2); clear HB hl2 hc2 hb2 ho2; have HB := H12; clear H12)
          | (go_at_call 15; refine (trim15b _ _ _ _ r _ _ _ Q1.out rfl (HX.out.1.keep HB.out) HX.out.2.1 HX.out.2.2.1).mono ?_; rintro e w1 ⟨A3, n3, c3, rfl, hl3, hc3, hb3, ho3⟩; have H15 := Lib.hid (And.intro hl3 (And.intro ho3 (H13.out.2.2.keep hb3))); have H13' := Lib.hid (And.intro H13.out.1 (And.intro H13.out.2.1 (H13.out.2.2.keep hb3))); have H12 := Lib.hid (Below.step HB.out hb3); clear HB H13 hl3 hc3 hb3 ho3; have HB := H12; have H13 := H13'; clear H12 H13')
          | (go_at_call 16; refine (same16t _ _ _ _ _ _ r _ H13.out.1 H15.out.1 H15.out.2.2 H15.out.2.1 HX.out.2.2.2).mono ?_; rintro e w1 ⟨rfl, hb6⟩; have H13' := Lib.hid (And.intro H13.out.1 (And.intro H13.out.2.1 (H13.out.2.2.keep hb6))); have H12 := Lib.hid (Below.step HB.out hb6); clear HB H13 H15 hb6; have HB := H12; have H13 := H13'; clear H12 H13'))
        go_ret
        exact ⟨rfl, HB.out⟩
      · by_cases h4 : m < n
        · clear h2
          go_enter Try.func3, Try.ntmps3
          go_wp2_with (first
            | (go_at_call 12; refine (known12 _).mono ?_; rintro e w1 ⟨rfl, hb1⟩; have H12 := Lib.hid (Below.step HB.out hb1); clear HB hb1; have HB := H12; clear H12)
            | (go_at_call 14; have hh := H13b; clear hh; refine (own14 _ _ _ xs _ rfl (HX.out.1.keep HB.out) HX.out.2.2.1).mono ?_; rintro e w1 ⟨A1, n1, c1, rfl, hl1, hc1, hb1, ho1⟩; have H14 := Lib.hid (And.intro hl1 (And.intro hc1 ho1)); have H13' := Lib.hid (And.intro H13b.out.1 (H13b.out.2.keep hb1)); have H12 := Lib.hid (Below.step HB.out hb1); clear H13b HB hl1 hc1 hb1 ho1; have HB := H12; have H13b := H13'; clear H12 H13')
            | (go_at_call 14; refine (own14 _ _ _ xs _ rfl (HX.out.1.keep HB.out) HX.out.2.2.1).mono ?_; rintro e w1 ⟨A1, n1, c1, rfl, hl1, hc1, hb1, ho1⟩; have H14 := Lib.hid (And.intro hl1 (And.intro hc1 ho1)); have H12 := Lib.hid (Below.step HB.out hb1); clear HB hl1 hc1 hb1 ho1; have HB := H12; clear H12)
            | (go_at_call 13; have hh := H13; clear hh; refine (trim13b _ _ _ _ r2 0 _ _ Q2.out.1 H13.out.1 H13.out.2.2 H13.out.2.1 Q2.out.2.1).mono ?_; rintro e w1 ⟨A4, n4, c4, rfl, rfl, hc4, hb4, ho4⟩; have H13b := Lib.hid (And.intro hc4 ho4); have H12 := Lib.hid (Below.step HB.out hb4); clear HB H13 H14 hc4 hb4 ho4; have HB := H12; clear H12)
            | (go_at_call 13; have hh := H13b; clear hh; refine (trim13b _ _ _ _ r2 0 _ _ Q3.out H14.out.1 H14.out.2.2 H14.out.2.1 HX.out.2.2.1).mono ?_; rintro e w1 ⟨A5, n5, c5, rfl, rfl, hc5, hb5, ho5⟩; have H13c := Lib.hid (And.intro hc5 (And.intro ho5 (H13b.out.2.keep hb5))); have H12 := Lib.hid (Below.step HB.out hb5); clear HB H13b H14 hc5 hb5 ho5; have HB := H12; clear H12)
            | (go_at_call 13; refine (trim13b _ _ _ _ r _ _ _ Q1.out H14.out.1 H14.out.2.2 H14.out.2.1 HX.out.2.2.1).mono ?_; rintro e w1 ⟨A2, n2, c2, rfl, hl2, hc2, hb2, ho2⟩; have H13 := Lib.hid (And.intro hl2 (And.intro hc2 ho2)); have H12 := Lib.hid (Below.step HB.out hb2); clear HB hl2 hc2 hb2 ho2; have HB := H12; clear H12)
            | (go_at_call 15; refine (trim15b _ _ _ _ r _ _ _ Q1.out rfl (HX.out.1.keep HB.out) HX.out.2.1 HX.out.2.2.1).mono ?_; rintro e w1 ⟨A3, n3, c3, rfl, hl3, hc3, hb3, ho3⟩; have H15 := Lib.hid (And.intro hl3 (And.intro ho3 (H13.out.2.2.keep hb3))); have H13' := Lib.hid (And.intro H13.out.1 (And.intro H13.out.2.1 (H13.out.2.2.keep hb3))); have H12 := Lib.hid (Below.step HB.out hb3); clear HB H13 hl3 hc3 hb3 ho3; have HB := H12; have H13 := H13'; clear H12 H13')
            | (go_at_call 16; refine (same16t _ _ _ _ _ _ r _ H13.out.1 H15.out.1 H15.out.2.2 H15.out.2.1 HX.out.2.2.2).mono ?_; rintro e w1 ⟨rfl, hb6⟩; have H13' := Lib.hid (And.intro H13.out.1 (And.intro H13.out.2.1 (H13.out.2.2.keep hb6))); have H12 := Lib.hid (Below.step HB.out hb6); clear HB H13 H15 hb6; have HB := H12; have H13 := H13'; clear H12 H13'))
          go_ret
          exact ⟨rfl, HB.out⟩
        · have hT := HE.out.1 h2 h3 h4
          have hr2 := trimL_length_le xs n.toNat (by omega)
          generalize trimL xs n.toNat = r2 at hT hr2
          have Q2 := Lib.hid (And.intro hT.1 (And.intro (show r.length * 32 ≤ 140737488355328 by have := HE.out.2; omega) (show r2.length ≤ 60 by have := HE.out.2; omega)))
          have Q3 := Lib.hid hT.2
          subst h2
          clear hT hr2
          go_enter Try.func3, Try.ntmps3
          go_wp2_with (first
            | (go_at_call 12; refine (known12 _).mono ?_; rintro e w1 ⟨rfl, hb1⟩; have H12 := Lib.hid (Below.step HB.out hb1); clear HB hb1; have HB := H12; clear H12)
            | (go_at_call 14; have hh := H13b; clear hh; refine (own14 _ _ _ xs _ rfl (HX.out.1.keep HB.out) HX.out.2.2.1).mono ?_; rintro e w1 ⟨A1, n1, c1, rfl, hl1, hc1, hb1, ho1⟩; have H14 := Lib.hid (And.intro hl1 (And.intro hc1 ho1)); have H13' := Lib.hid (And.intro H13b.out.1 (H13b.out.2.keep hb1)); have H12 := Lib.hid (Below.step HB.out hb1); clear H13b HB hl1 hc1 hb1 ho1; have HB := H12; have H13b := H13'; clear H12 H13')
            | (go_at_call 14; refine (own14 _ _ _ xs _ rfl (HX.out.1.keep HB.out) HX.out.2.2.1).mono ?_; rintro e w1 ⟨A1, n1, c1, rfl, hl1, hc1, hb1, ho1⟩; have H14 := Lib.hid (And.intro hl1 (And.intro hc1 ho1)); have H12 := Lib.hid (Below.step HB.out hb1); clear HB hl1 hc1 hb1 ho1; have HB := H12; clear H12)
            | (go_at_call 13; have hh := H13; clear hh; refine (trim13b _ _ _ _ r2 0 _ _ Q2.out.1 H13.out.1 H13.out.2.2 H13.out.2.1 Q2.out.2.1).mono ?_; rintro e w1 ⟨A4, n4, c4, rfl, rfl, hc4, hb4, ho4⟩; have H13b := Lib.hid (And.intro hc4 ho4); have H12 := Lib.hid (Below.step HB.out hb4); clear HB H13 H14 hc4 hb4 ho4; have HB := H12; clear H12)
            | (go_at_call 13; have hh := H13b; clear hh; refine (trim13b _ _ _ _ r2 0 _ _ Q3.out H14.out.1 H14.out.2.2 H14.out.2.1 HX.out.2.2.1).mono ?_; rintro e w1 ⟨A5, n5, c5, rfl, rfl, hc5, hb5, ho5⟩; have H13c := Lib.hid (And.intro hc5 (And.intro ho5 (H13b.out.2.keep hb5))); have H12 := Lib.hid (Below.step HB.out hb5); clear HB H13b H14 hc5 hb5 ho5; have HB := H12; clear H12)
            | (go_at_call 13; refine (trim13b _ _ _ _ r _ _ _ Q1.out H14.out.1 H14.out.2.2 H14.out.2.1 HX.out.2.2.1).mono ?_; rintro e w1 ⟨A2, n2, c2, rfl, hl2, hc2, hb2, ho2⟩; have H13 := Lib.hid (And.intro hl2 (And.intro hc2 ho2)); have H12 := Lib.hid (Below.step HB.out hb2); clear HB hl2 hc2 hb2 ho2; have HB := H12; clear H12)
            | (go_at_call 15; refine (trim15b _ _ _ _ r _ _ _ Q1.out rfl (HX.out.1.keep HB.out) HX.out.2.1 HX.out.2.2.1).mono ?_; rintro e w1 ⟨A3, n3, c3, rfl, hl3, hc3, hb3, ho3⟩; have H15 := Lib.hid (And.intro hl3 (And.intro ho3 (H13.out.2.2.keep hb3))); have H13' := Lib.hid (And.intro H13.out.1 (And.intro H13.out.2.1 (H13.out.2.2.keep hb3))); have H12 := Lib.hid (Below.step HB.out hb3); clear HB H13 hl3 hc3 hb3 ho3; have HB := H12; have H13 := H13'; clear H12 H13')
            | (go_at_call 16; refine (same16t _ _ _ _ _ _ r _ H13.out.1 H15.out.1 H15.out.2.2 H15.out.2.1 HX.out.2.2.2).mono ?_; rintro e w1 ⟨rfl, hb6⟩; have H13' := Lib.hid (And.intro H13.out.1 (And.intro H13.out.2.1 (H13.out.2.2.keep hb6))); have H12 := Lib.hid (Below.step HB.out hb6); clear HB H13 H15 hb6; have HB := H12; have H13 := H13'; clear H12 H13'))
          go_loopw [15] (fun i wr => ∃ k m : Nat, k ≤ r2.length ∧ i = .int .i64 k ∧ wr = w1.drewN m) (fun i _ => r2.length - (intOf i).toNat)
          case atStart => exact ⟨0, 0, Nat.zero_le _, rfl, rfl⟩
          case round =>
            obtain ⟨k, q, hk, rfl, rfl⟩ := hrel
            have hr60 := Q2.out.2.2
            by_cases hlt : k < r2.length
            · obtain ⟨ad, rfl, hok, hrd⟩ := Sl.rd H13c.out.2.1 hlt
              obtain ⟨bd, rfl, hok', hrd'⟩ := Sl.rd H13c.out.2.2 hlt
              have hb1 : (0 : Int) ≤ (k : Int) := by omega
              have hb2 : (k : Int) < (r2.length : Int) := by omega
              have hd : decide (r2[k] = r2[k]) = true := by simp
              go_wp2
              go_quiet (fail)
              go_wp2
              go_roundw
              case rel => exact ⟨k + 1, q + nq, hlt, by go_num, by first | rfl | exact World.drewN_drewN _ _ _⟩
              case measure => simp [intOf]; omega
            · have hb2 : ¬ (k : Int) < (r2.length : Int) := by omega
              go_wp2
              go_ret
              exact ⟨rfl, Below.step HB.out (below_drewN _ _)⟩

    · have h2' : (no != 0) = true := by simp [h2]
      clear h2
      go_enter Try.func3, Try.ntmps3
      go_wp2_with (first
        | (go_at_call 12; refine (known12 _).mono ?_; rintro e w1 ⟨rfl, hb1⟩; have H12 := Lib.hid (Below.step HB.out hb1); clear HB hb1; have HB := H12; clear H12)
        | (go_at_call 14; have hh := H13b; clear hh; refine (own14 _ _ _ xs _ rfl (HX.out.1.keep HB.out) HX.out.2.2.1).mono ?_; rintro e w1 ⟨A1, n1, c1, rfl, hl1, hc1, hb1, ho1⟩; have H14 := Lib.hid (And.intro hl1 (And.intro hc1 ho1)); have H13' := Lib.hid (And.intro H13b.out.1 (H13b.out.2.keep hb1)); have H12 := Lib.hid (Below.step HB.out hb1); clear H13b HB hl1 hc1 hb1 ho1; have HB := H12; have H13b := H13'; clear H12 H13')
        | (go_at_call 14; refine (own14 _ _ _ xs _ rfl (HX.out.1.keep HB.out) HX.out.2.2.1).mono ?_; rintro e w1 ⟨A1, n1, c1, rfl, hl1, hc1, hb1, ho1⟩; have H14 := Lib.hid (And.intro hl1 (And.intro hc1 ho1)); have H12 := Lib.hid (Below.step HB.out hb1); clear HB hl1 hc1 hb1 ho1; have HB := H12; clear H12)
        | (go_at_call 13; have hh := H13; clear hh; refine (trim13b _ _ _ _ r2 0 _ _ Q2.out.1 H13.out.1 H13.out.2.2 H13.out.2.1 Q2.out.2.1).mono ?_; rintro e w1 ⟨A4, n4, c4, rfl, rfl, hc4, hb4, ho4⟩; have H13b := Lib.hid (And.intro hc4 ho4); have H12 := Lib.hid (Below.step HB.out hb4); clear HB H13 H14 hc4 hb4 ho4; have HB := H12; clear H12)
        | (go_at_call 13; have hh := H13b; clear hh; refine (trim13b _ _ _ _ r2 0 _ _ Q3.out H14.out.1 H14.out.2.2 H14.out.2.1 HX.out.2.2.1).mono ?_; rintro e w1 ⟨A5, n5, c5, rfl, rfl, hc5, hb5, ho5⟩; have H13c := Lib.hid (And.intro hc5 (And.intro ho5 (H13b.out.2.keep hb5))); have H12 := Lib.hid (Below.step HB.out hb5); clear HB H13b H14 hc5 hb5 ho5; have HB := H12; clear H12)
        | (go_at_call 13; refine (trim13b _ _ _ _ r _ _ _ Q1.out H14.out.1 H14.out.2.2 H14.out.2.1 HX.out.2.2.1).mono ?_; rintro e w1 ⟨A2, n2, c2, rfl, hl2, hc2, hb2, ho2⟩; have H13 := Lib.hid (And.intro hl2 (And.intro hc2 ho2)); have H12 := Lib.hid (Below.step HB.out hb2); clear HB hl2 hc2 hb2 ho2; have HB := H12; clear H12)
        | (go_at_call 15; refine (trim15b _ _ _ _ r _ _ _ Q1.out rfl (HX.out.1.keep HB.out) HX.out.2.1 HX.out.2.2.1).mono ?_; rintro e w1 ⟨A3, n3, c3, rfl, hl3, hc3, hb3, ho3⟩; have H15 := Lib.hid (And.intro hl3 (And.intro ho3 (H13.out.2.2.keep hb3))); have H13' := Lib.hid (And.intro H13.out.1 (And.intro H13.out.2.1 (H13.out.2.2.keep hb3))); have H12 := Lib.hid (Below.step HB.out hb3); clear HB H13 hl3 hc3 hb3 ho3; have HB := H12; have H13 := H13'; clear H12 H13')
        | (go_at_call 16; refine (same16t _ _ _ _ _ _ r _ H13.out.1 H15.out.1 H15.out.2.2 H15.out.2.1 HX.out.2.2.2).mono ?_; rintro e w1 ⟨rfl, hb6⟩; have H13' := Lib.hid (And.intro H13.out.1 (And.intro H13.out.2.1 (H13.out.2.2.keep hb6))); have H12 := Lib.hid (Below.step HB.out hb6); clear HB H13 H15 hb6; have HB := H12; have H13 := H13'; clear H12 H13'))
      go_ret
      exact ⟨rfl, HB.out⟩
end Go.Proofs.Ytcchpenaiomeeaa
