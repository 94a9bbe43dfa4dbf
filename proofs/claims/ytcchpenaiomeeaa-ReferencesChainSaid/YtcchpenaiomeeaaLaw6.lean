/- The law of kept lists: a trimmed list is recognized, and merging it with the whole list returns the whole list. -/
import Derived.Test.YtcchpenaiomeeaaLaw5
namespace Go.Proofs.Ytcchpenaiomeeaa
open Go.RowKit
theorem nextE_zero (seen : List Id) (x : Id) : nextE seen x = 0 ↔ x ≠ zI ∧ ¬ x ∈ seen := by
  unfold nextE
  by_cases h1 : x = zI
  · simp [h1]
  · by_cases h2 : x ∈ seen
    · simp [h1, h2]
    · simp [h1, h2]
theorem chkL_zero : ∀ (l seen : List Id), chkL seen l = 0 ↔ (∀ x ∈ l, x ≠ zI ∧ ¬ x ∈ seen) ∧ l.Nodup
  | [], seen => by simp [chkL]
  | x :: r, seen => by
    unfold chkL
    by_cases h : nextE seen x = 0
    · rw [if_pos h, chkL_zero r]
      rw [nextE_zero] at h
      constructor
      · rintro ⟨h1, h2⟩
        refine ⟨fun y hy => ?_, List.nodup_cons.2 ⟨fun hm => ?_, h2⟩⟩
        · rcases List.mem_cons.1 hy with rfl | hy
          · exact h
          · exact ⟨(h1 y hy).1, fun hs => (h1 y hy).2 (List.mem_append_left _ hs)⟩
        · exact (h1 x hm).2 (List.mem_append_right _ (List.mem_singleton.2 rfl))
      · rintro ⟨h1, h2⟩
        obtain ⟨h3, h4⟩ := List.nodup_cons.1 h2
        refine ⟨fun y hy => ⟨(h1 y (List.mem_cons_of_mem _ hy)).1, fun hm => ?_⟩, h4⟩
        rcases List.mem_append.1 hm with hm | hm
        · exact (h1 y (List.mem_cons_of_mem _ hy)).2 hm
        · exact h3 (List.mem_singleton.1 hm ▸ hy)
    · rw [if_neg h]
      refine ⟨fun h2 => absurd h2 h, fun h2 => absurd ((nextE_zero _ _).2 (h2.1 x (List.mem_cons_self ..))) h⟩
theorem chk_len (l : List Id) (h : chk l = 0) : l.length ≤ 20 := by
  unfold chk at h
  by_cases h1 : 20 < l.length
  · rw [if_pos h1] at h; cases h
  · omega
theorem chk_zero (l : List Id) : chk l = 0 ↔ l.length ≤ 20 ∧ (∀ x ∈ l, x ≠ zI) ∧ l.Nodup := by
  unfold chk
  by_cases h1 : 20 < l.length
  · rw [if_pos h1]
    constructor
    · intro h; cases h
    · rintro ⟨h, _⟩; omega
  · rw [if_neg h1, chkL_zero]
    simp
    omega
theorem trimL_sub (l : List Id) (m : Nat) : (trimL l m).Sublist l := by
  unfold trimL
  by_cases h1 : l.length ≤ m
  · rw [if_pos h1]
    exact List.Sublist.refl _
  · rw [if_neg h1]
    by_cases h2 : m = 1
    · rw [if_pos h2]
      exact List.drop_sublist _ _
    · rw [if_neg h2]
      by_cases h3 : m = 0
      · subst h3
        simp
        exact List.take_sublist _ _
      · have e : l.take 1 ++ l.drop (l.length - (m - 1)) = l.take 1 ++ (l.drop 1).drop (l.length - (m - 1) - 1) := by
          rw [List.drop_drop]
          congr 2
          omega
        rw [e]
        have := List.Sublist.append (List.Sublist.refl (l.take 1)) (List.drop_sublist (l.length - (m - 1) - 1) (l.drop 1))
        rwa [List.take_append_drop] at this
theorem chk_trimL (l : List Id) (m : Nat) (h : chk l = 0) : chk (trimL l m) = 0 := by
  rw [chk_zero] at *
  have hs := trimL_sub l m
  exact ⟨Nat.le_trans hs.length_le h.1, fun x hx => h.2.1 x (hs.subset hx), hs.nodup h.2.2⟩
theorem trimL_len (l : List Id) (m : Nat) (hm : 1 ≤ m) : (trimL l m).length = min l.length m := by
  unfold trimL
  by_cases h1 : l.length ≤ m
  · rw [if_pos h1]; omega
  · rw [if_neg h1]
    by_cases h2 : m = 1
    · rw [if_pos h2, List.length_drop]; omega
    · rw [if_neg h2, List.length_append, List.length_take, List.length_drop]; omega
theorem isTr_trimL (l : List Id) (m : Nat) (hm : 1 ≤ m) (hl : ¬ l.length = 0) : isTr (trimL l m) l = true := by
  have e := trimL_len l m hm
  rw [isTr_pos _ _ (by omega), e]
  by_cases h : l.length ≤ m
  · rw [Nat.min_eq_left h]
    unfold trimL
    rw [if_pos h, if_pos (Nat.le_refl _)]
    simp
  · rw [Nat.min_eq_right (by omega)]
    simp
theorem mergeE_trimL (l : List Id) (m : Nat) (hm : 1 ≤ m) (hl : ¬ l.length = 0) (h : chk l = 0) : mergeE (trimL l m) l = (l, 0) := by
  unfold mergeE
  rw [if_neg (by simp [chk_trimL l m h]), if_neg (by simp [h]), if_neg (by simp [isTr_trimL l m hm hl])]
  by_cases h2 : (trimL l m).length < l.length
  · rw [if_pos h2]
  · rw [if_neg h2]
    rw [trimL_len l m hm] at h2
    unfold trimL
    rw [if_pos (by omega)]
theorem istr23t (A B : Option Addr) (c d n m : Nat) (xs ys : List Id) (w : World) (he : isTr xs ys = true) (hl : xs.length = n) (hl2 : ys.length = m) (hx : Sl w cI A xs) (hy : Sl w cI B ys) (hd : m ≤ d) (hn : xs.length ≤ 1000) (hm : ys.length ≤ 1000) :
    Calls Try.prog 23 #[.slice A n c, .slice B m d] w fun e w' => e = .returned (.bool true) ∧ Below w.heap.size w w' := by
  have h := istr23' A B c d n m xs ys w hl hl2 hx hy hd hn hm
  rwa [he] at h
theorem check25c (A : Option Addr) (c n : Nat) (no : Int) (xs : List Id) (w : World) (he : chk xs = no) (hl : xs.length = n) (hx : Sl w cI A xs) :
    Calls Try.prog 25 #[.slice A n c] w fun e w' => e = .returned (.int .i64 no) ∧ Below w.heap.size w w' := by
  subst he
  exact check25 A c n xs w hl hx
set_option maxRecDepth 100000 in
set_option maxHeartbeats 1600000 in
theorem law6 (A : Option Addr) (c : Nat) (m : Int) (xs : List Id) (w : World) (hx : Sl w cI A xs) (hc : xs.length ≤ c) (hr : xs.length * 32 ≤ 140737488355328) :
    Calls Try.prog 6 #[.slice A xs.length c, .int .i64 m] w fun e w' => e = .returned (.bool true) ∧ Below w.heap.size w w' := by
  have HX := Lib.hid (And.intro hx (And.intro hc hr))
  have HB := Lib.hid (Below.refl w.heap.size w)
  have T0 := Lib.hid trivial
  clear hx hc hr
  by_cases hk : chk xs = 0
  · have HK := Lib.hid hk
    have h20 := chk_len xs hk
    by_cases h1 : m < 1 ∨ 20 < m
    · have HE := Lib.hid (show trimE xs m = ([], 2) by unfold trimE; rw [if_pos h1])
      clear hk h20 h1
      go_enter Try.func6, Try.ntmps6
      go_wp2_with (first
        | (go_at_call 12; have hh := T0; clear hh; refine (known12 _).mono ?_; rintro e w1 ⟨rfl, hb1⟩; replace HB := Lib.hid (Below.step HB.out hb1); clear hb1 T0; have T1 := Lib.hid trivial)
        | (go_at_call 14; have hh := T1; clear hh; refine (own14 _ _ _ xs _ rfl (HX.out.1.keep HB.out) HX.out.2.2).mono ?_; rintro e w1 ⟨AF1, nF1, cF1, rfl, hl1, hc1, hb1, ho1⟩; have F1 := Lib.hid (And.intro hl1 (And.intro hc1 ho1)); clear hl1 hc1 ho1; replace HB := Lib.hid (Below.step HB.out hb1); clear hb1 T1; have T2 := Lib.hid trivial)
        | (go_at_call 25; have hh := T2; clear hh; refine (check25c _ _ _ _ xs _ HK.out F1.out.1 F1.out.2.2).mono ?_; rintro e w1 ⟨rfl, hb1⟩; clear F1; replace HB := Lib.hid (Below.step HB.out hb1); clear hb1 T2; have T3 := Lib.hid trivial)
        | (go_at_call 14; have hh := T3; clear hh; refine (own14 _ _ _ xs _ rfl (HX.out.1.keep HB.out) HX.out.2.2).mono ?_; rintro e w1 ⟨AF1, nF1, cF1, rfl, hl1, hc1, hb1, ho1⟩; have F1 := Lib.hid (And.intro hl1 (And.intro hc1 ho1)); clear hl1 hc1 ho1; replace HB := Lib.hid (Below.step HB.out hb1); clear hb1 T3; have T4 := Lib.hid trivial)
        | (go_at_call 13; have hh := T4; clear hh; refine (trim13b _ _ _ _ _ _ _ _ HE.out F1.out.1 F1.out.2.2 F1.out.2.1 HX.out.2.2).mono ?_; rintro e w1 ⟨AF2, nF2, cF2, rfl, hl1, hc1, hb1, ho1⟩; have F2 := Lib.hid (And.intro hl1 (And.intro hc1 ho1)); clear hl1 hc1 ho1; clear F1; replace HB := Lib.hid (Below.step HB.out hb1); clear hb1 T4; have T5 := Lib.hid trivial))
      go_ret
      exact ⟨rfl, HB.out⟩
    · have he : trimE xs m = (trimL xs m.toNat, 0) := by unfold trimE; rw [if_neg h1, if_neg (by omega)]
      have HE := Lib.hid he
      have hm1 : 1 ≤ m.toNat := by omega
      by_cases h0 : xs.length = 0
      · have h2 : ((xs.length : Int) == 0) = true := beq_iff_eq.2 (by omega)
        have h3 : (((trimL xs m.toNat).length : Int) == 0) = true := beq_iff_eq.2 (by have := trimL_length_le xs m.toNat (by omega); omega)
        clear hk h20 h1 he hm1 h0
        go_enter Try.func6, Try.ntmps6
        go_wp2_with (first
          | (go_at_call 12; have hh := T0; clear hh; refine (known12 _).mono ?_; rintro e w1 ⟨rfl, hb1⟩; replace HB := Lib.hid (Below.step HB.out hb1); clear hb1 T0; have T1 := Lib.hid trivial)
          | (go_at_call 14; have hh := T1; clear hh; refine (own14 _ _ _ xs _ rfl (HX.out.1.keep HB.out) HX.out.2.2).mono ?_; rintro e w1 ⟨AF1, nF1, cF1, rfl, hl1, hc1, hb1, ho1⟩; have F1 := Lib.hid (And.intro hl1 (And.intro hc1 ho1)); clear hl1 hc1 ho1; replace HB := Lib.hid (Below.step HB.out hb1); clear hb1 T1; have T2 := Lib.hid trivial)
          | (go_at_call 25; have hh := T2; clear hh; refine (check25c _ _ _ _ xs _ HK.out F1.out.1 F1.out.2.2).mono ?_; rintro e w1 ⟨rfl, hb1⟩; clear F1; replace HB := Lib.hid (Below.step HB.out hb1); clear hb1 T2; have T3 := Lib.hid trivial)
          | (go_at_call 14; have hh := T3; clear hh; refine (own14 _ _ _ xs _ rfl (HX.out.1.keep HB.out) HX.out.2.2).mono ?_; rintro e w1 ⟨AF1, nF1, cF1, rfl, hl1, hc1, hb1, ho1⟩; have F1 := Lib.hid (And.intro hl1 (And.intro hc1 ho1)); clear hl1 hc1 ho1; replace HB := Lib.hid (Below.step HB.out hb1); clear hb1 T3; have T4 := Lib.hid trivial)
          | (go_at_call 13; have hh := T4; clear hh; refine (trim13b _ _ _ _ _ _ _ _ HE.out F1.out.1 F1.out.2.2 F1.out.2.1 HX.out.2.2).mono ?_; rintro e w1 ⟨AF2, nF2, cF2, rfl, rfl, hc1, hb1, ho1⟩; clear hc1 ho1; clear F1; replace HB := Lib.hid (Below.step HB.out hb1); clear hb1 T4; have T5 := Lib.hid trivial))
        go_ret
        exact ⟨rfl, HB.out⟩
      · have h2 : ((xs.length : Int) == 0) = false := beq_eq_false_iff_ne.2 (by omega)
        have HM := Lib.hid (And.intro (mergeE_trimL xs m.toNat hm1 h0 hk) (And.intro (isTr_trimL xs m.toNat hm1 h0) (And.intro (show (trimL xs m.toNat).length ≤ 1000 by have := trimL_length_le xs m.toNat (by omega); omega) (show xs.length ≤ 1000 by omega))))
        clear hk h20 h1 he hm1 h0
        go_enter Try.func6, Try.ntmps6
        go_wp2_with (first
          | (go_at_call 12; have hh := T0; clear hh; refine (known12 _).mono ?_; rintro e w1 ⟨rfl, hb1⟩; replace HB := Lib.hid (Below.step HB.out hb1); clear hb1 T0; have T1 := Lib.hid trivial)
          | (go_at_call 14; have hh := T1; clear hh; refine (own14 _ _ _ xs _ rfl (HX.out.1.keep HB.out) HX.out.2.2).mono ?_; rintro e w1 ⟨AF1, nF1, cF1, rfl, hl1, hc1, hb1, ho1⟩; have F1 := Lib.hid (And.intro hl1 (And.intro hc1 ho1)); clear hl1 hc1 ho1; replace HB := Lib.hid (Below.step HB.out hb1); clear hb1 T1; have T2 := Lib.hid trivial)
          | (go_at_call 25; have hh := T2; clear hh; refine (check25c _ _ _ _ xs _ HK.out F1.out.1 F1.out.2.2).mono ?_; rintro e w1 ⟨rfl, hb1⟩; clear F1; replace HB := Lib.hid (Below.step HB.out hb1); clear hb1 T2; have T3 := Lib.hid trivial)
          | (go_at_call 14; have hh := T3; clear hh; refine (own14 _ _ _ xs _ rfl (HX.out.1.keep HB.out) HX.out.2.2).mono ?_; rintro e w1 ⟨AF1, nF1, cF1, rfl, hl1, hc1, hb1, ho1⟩; have F1 := Lib.hid (And.intro hl1 (And.intro hc1 ho1)); clear hl1 hc1 ho1; replace HB := Lib.hid (Below.step HB.out hb1); clear hb1 T3; have T4 := Lib.hid trivial)
          | (go_at_call 13; have hh := T4; clear hh; refine (trim13b _ _ _ _ _ _ _ _ HE.out F1.out.1 F1.out.2.2 F1.out.2.1 HX.out.2.2).mono ?_; rintro e w1 ⟨AF2, nF2, cF2, rfl, hl1, hc1, hb1, ho1⟩; have F2 := Lib.hid (And.intro hl1 (And.intro hc1 ho1)); clear hl1 hc1 ho1; clear F1; replace HB := Lib.hid (Below.step HB.out hb1); clear hb1 T4; have T5 := Lib.hid trivial)
          | (go_at_call 14; have hh := T5; clear hh; refine (own14 _ _ _ xs _ rfl (HX.out.1.keep HB.out) HX.out.2.2).mono ?_; rintro e w1 ⟨AF3, nF3, cF3, rfl, hl1, hc1, hb1, ho1⟩; have F3 := Lib.hid (And.intro hl1 (And.intro hc1 ho1)); clear hl1 hc1 ho1; replace F2 := SlF.carry F2 hb1; replace HB := Lib.hid (Below.step HB.out hb1); clear hb1 T5; have T6 := Lib.hid trivial)
          | (go_at_call 21; have hh := T6; clear hh; refine (merge21b _ _ _ _ _ _ _ xs _ _ _ HM.out.1 F2.out.1 F3.out.1 F2.out.2.2 F3.out.2.2 F2.out.2.1 F3.out.2.1 HM.out.2.2.1 HM.out.2.2.2).mono ?_; rintro e w1 ⟨AF4, nF4, cF4, rfl, hl1, hc1, hb1, ho1⟩; have F4 := Lib.hid (And.intro hl1 (And.intro hc1 ho1)); clear hl1 hc1 ho1; clear F3; replace F2 := SlF.carry F2 hb1; replace HB := Lib.hid (Below.step HB.out hb1); clear hb1 T6; have T7 := Lib.hid trivial)
          | (go_at_call 14; have hh := T7; clear hh; refine (own14 _ _ _ xs _ rfl (HX.out.1.keep HB.out) HX.out.2.2).mono ?_; rintro e w1 ⟨AF5, nF5, cF5, rfl, hl1, hc1, hb1, ho1⟩; have F5 := Lib.hid (And.intro hl1 (And.intro hc1 ho1)); clear hl1 hc1 ho1; replace F2 := SlF.carry F2 hb1; replace F4 := SlF.carry F4 hb1; replace HB := Lib.hid (Below.step HB.out hb1); clear hb1 T7; have T8 := Lib.hid trivial)
          | (go_at_call 23; have hh := T8; clear hh; refine (istr23t _ _ _ _ _ _ _ xs _ HM.out.2.1 F2.out.1 F5.out.1 F2.out.2.2 F5.out.2.2 F5.out.2.1 HM.out.2.2.1 HM.out.2.2.2).mono ?_; rintro e w1 ⟨rfl, hb1⟩; clear F2; clear F5; replace F4 := SlF.carry F4 hb1; replace HB := Lib.hid (Below.step HB.out hb1); clear hb1 T8; have T9 := Lib.hid trivial)
          | (go_at_call 16; have hh := T9; clear hh; refine (same16t _ _ _ _ _ _ xs _ F4.out.1 rfl F4.out.2.2 (HX.out.1.keep HB.out) (by have := HM.out.2.2.2; omega)).mono ?_; rintro e w1 ⟨rfl, hb1⟩; clear F4; replace HB := Lib.hid (Below.step HB.out hb1); clear hb1 T9; have T10 := Lib.hid trivial))
        go_ret
        exact ⟨rfl, HB.out⟩
  · have h1 : (chk xs != 0) = true := by simp [hk]
    have HK := Lib.hid (rfl : chk xs = chk xs)
    clear hk
    go_enter Try.func6, Try.ntmps6
    go_wp2_with (first
      | (go_at_call 12; have hh := T0; clear hh; refine (known12 _).mono ?_; rintro e w1 ⟨rfl, hb1⟩; replace HB := Lib.hid (Below.step HB.out hb1); clear hb1 T0; have T1 := Lib.hid trivial)
      | (go_at_call 14; have hh := T1; clear hh; refine (own14 _ _ _ xs _ rfl (HX.out.1.keep HB.out) HX.out.2.2).mono ?_; rintro e w1 ⟨AF1, nF1, cF1, rfl, hl1, hc1, hb1, ho1⟩; have F1 := Lib.hid (And.intro hl1 (And.intro hc1 ho1)); clear hl1 hc1 ho1; replace HB := Lib.hid (Below.step HB.out hb1); clear hb1 T1; have T2 := Lib.hid trivial)
      | (go_at_call 25; have hh := T2; clear hh; refine (check25 _ _ _ xs _ F1.out.1 F1.out.2.2).mono ?_; rintro e w1 ⟨rfl, hb1⟩; clear F1; replace HB := Lib.hid (Below.step HB.out hb1); clear hb1 T2; have T3 := Lib.hid trivial)
      | (go_at_call 12; have hh := T3; clear hh; refine (known12 _).mono ?_; rintro e w1 ⟨rfl, hb1⟩; replace HB := Lib.hid (Below.step HB.out hb1); clear hb1 T3; have T4 := Lib.hid trivial))
    go_ret
    exact ⟨rfl, HB.out⟩
end Go.Proofs.Ytcchpenaiomeeaa
