/- IsTrimmed of the reference and Merge of both packages: what they hand back. -/
import Derived.Test.YtcchpenaiomeeaaCheck
import Derived.Test.YtcchpenaiomeeaaIsTr
namespace Go.Proofs.Ytcchpenaiomeeaa
open Go.RowKit
theorem istr23' (A B : Option Addr) (c d n m : Nat) (xs ys : List Id) (w : World) (hl : xs.length = n) (hl2 : ys.length = m) (hx : Sl w cI A xs) (hy : Sl w cI B ys) (hd : m ≤ d) (hn : xs.length ≤ 1000) (hm : ys.length ≤ 1000) :
    Calls Try.prog 23 #[.slice A n c, .slice B m d] w fun e w' => e = .returned (.bool (isTr xs ys)) ∧ Below w.heap.size w w' := by
  subst hl
  subst hl2
  exact istr23 A B c d xs ys w hx hy hd (by omega) (by omega)
theorem same39' (A B : Option Addr) (c d n m : Nat) (xs ys : List Id) (w : World) (hl : xs.length = n) (hl2 : ys.length = m) (hx : Sl w cI A xs) (hy : Sl w cI B ys) (hn : xs.length ≤ 1000) (hm : ys.length ≤ 1000) :
    Calls Try.prog 39 #[.slice A n c, .slice B m d] w fun e w' => e = .returned (.bool (decide (xs = ys))) ∧ Below w.heap.size w w' := by
  subst hl
  subst hl2
  refine (same39 A B c d xs ys w hx hy (by omega) (by omega)).mono ?_
  rintro e w1 ⟨rfl, n, rfl⟩
  exact ⟨rfl, below_drewN _ _⟩
theorem isTr_self (xs ys : List Id) (h : xs = ys) : isTr xs ys = true := by
  subst h
  unfold isTr
  by_cases h0 : xs.length = 0
  · rw [if_pos h0, h0]; rfl
  · rw [if_neg h0]; unfold trimL; rw [if_pos (Nat.le_refl _)]; simp
theorem isTr_ne (xs ys : List Id) (h0 : ¬ xs = ys) (h : ¬ 0 < xs.length) : isTr xs ys = false := by
  obtain rfl : xs = [] := List.length_eq_zero_iff.1 (by omega)
  cases ys with
  | nil => exact absurd rfl h0
  | cons y ys => rfl
theorem isTr_pos (xs ys : List Id) (h : 0 < xs.length) : isTr xs ys = decide (xs = trimL ys xs.length) := by
  unfold isTr; rw [if_neg (by omega)]

set_option maxRecDepth 100000 in
set_option maxHeartbeats 800000 in
theorem istr24 (A B : Option Addr) (c d n m : Nat) (xs ys : List Id) (w : World) (hl : xs.length = n) (hl2 : ys.length = m) (hx : Sl w cI A xs) (hy : Sl w cI B ys) (hd : m ≤ d) (hn : xs.length ≤ 1000) (hm : ys.length ≤ 1000) :
    Calls Try.prog 24 #[.slice A n c, .slice B m d] w fun e w' => e = .returned (.bool (isTr xs ys)) ∧ Below w.heap.size w w' := by
  subst hl
  subst hl2
  have HX := Lib.hid (And.intro hx (And.intro hy (And.intro hd (And.intro hn hm))))
  have HB := Lib.hid (Below.refl w.heap.size w)
  by_cases h1 : xs = ys
  · rw [isTr_self xs ys h1]
    have hd1 : decide (xs = ys) = true := by simp [h1]
    clear h1 hx hy hd hn hm
    go_enter Try.func24, Try.ntmps24
    go_wp2_with (go_at_call 39; refine (same39' _ _ _ _ _ _ xs ys _ rfl rfl (HX.out.1.keep HB.out) (HX.out.2.1.keep HB.out) HX.out.2.2.2.1 HX.out.2.2.2.2).mono ?_; rintro e w1 ⟨rfl, hb1⟩; have H12 := Lib.hid (Below.step HB.out hb1); clear HB hb1; have HB := H12; clear H12)
    go_ret
    exact ⟨rfl, HB.out⟩
  · have hd1 : decide (xs = ys) = false := by simp [h1]
    by_cases h2 : 0 < xs.length
    · have h3 : (0 : Int) < (xs.length : Int) := by omega
      rw [isTr_pos xs ys h2]
      have HT := Lib.hid (And.intro (show 1 ≤ xs.length by omega) (And.intro (show xs.length ≤ 4294967296 by omega) (trimL_length_le ys xs.length (by omega))))
      have HY := Lib.hid (show ys.length * 32 ≤ 140737488355328 by omega)
      clear h1 h2 hx hy hd hn hm
      go_enter Try.func24, Try.ntmps24
      go_wp2_with (first
        | (go_at_call 39; have hh := H33; clear hh; refine (same39' _ _ _ _ _ _ xs (trimL ys xs.length) _ rfl H33.out.1 (HX.out.1.keep HB.out) H33.out.2 HX.out.2.2.2.1 (Nat.le_trans HT.out.2.2 HX.out.2.2.2.2)).mono ?_; rintro e w1 ⟨rfl, hb1⟩; have H12 := Lib.hid (Below.step HB.out hb1); clear HB hb1; have HB := H12; clear H12)
        | (go_at_call 39; refine (same39' _ _ _ _ _ _ xs ys _ rfl rfl (HX.out.1.keep HB.out) (HX.out.2.1.keep HB.out) HX.out.2.2.2.1 HX.out.2.2.2.2).mono ?_; rintro e w1 ⟨rfl, hb1⟩; have H12 := Lib.hid (Below.step HB.out hb1); clear HB hb1; have HB := H12; clear H12)
        | (go_at_call 33; refine (cut33 _ _ xs.length ys _ (HX.out.2.1.keep HB.out) HX.out.2.2.1 HY.out HT.out.1 HT.out.2.1).mono ?_; rintro e w1 ⟨A1, n1, c1, rfl, hl1, hc1, hb1, ho1⟩; have H33 := Lib.hid (And.intro hl1 ho1); clear hl1 ho1 hc1; have H12 := Lib.hid (Below.step HB.out hb1); clear HB hb1; have HB := H12; clear H12))
      go_ret
      exact ⟨rfl, HB.out⟩
    · have h3 : ¬ (0 : Int) < (xs.length : Int) := by omega
      rw [isTr_ne xs ys h1 h2]
      clear h1 h2 hx hy hd hn hm
      go_enter Try.func24, Try.ntmps24
      go_wp2_with (go_at_call 39; refine (same39' _ _ _ _ _ _ xs ys _ rfl rfl (HX.out.1.keep HB.out) (HX.out.2.1.keep HB.out) HX.out.2.2.2.1 HX.out.2.2.2.2).mono ?_; rintro e w1 ⟨rfl, hb1⟩; have H12 := Lib.hid (Below.step HB.out hb1); clear HB hb1; have HB := H12; clear H12)
      go_ret
      exact ⟨rfl, HB.out⟩

/-- What Merge gives: the list and the code of the error. -/
def mergeE (xs ys : List Id) : List Id × Int := if chk xs ≠ 0 then ([], chk xs) else if chk ys ≠ 0 then ([], chk ys) else if isTr xs ys = false ∧ isTr ys xs = false then ([], 31) else if xs.length < ys.length then (ys, 0) else (xs, 0)

theorem OutE.mk {w w' : World} {v : Value} {xs : List Id} {base : Nat} {e : TypeId} {code : Int} (hb : Below w.heap.size w w') (ho : Own w' base e 32 cI v xs) : OutE w xs code (.returned (.tuple #[v, .int .i64 code])) w' := by
  obtain ⟨A, c, rfl, hc, h⟩ := ho.sl
  exact ⟨A, _, c, rfl, rfl, hc, hb, h⟩

set_option maxRecDepth 100000 in
set_option maxHeartbeats 1600000 in
theorem merge21 (A B : Option Addr) (c d n m : Nat) (xs ys : List Id) (w : World) (hl : xs.length = n) (hl2 : ys.length = m) (hx : Sl w cI A xs) (hy : Sl w cI B ys) (hc : n ≤ c) (hd : m ≤ d) (hn : xs.length ≤ 1000) (hm : ys.length ≤ 1000) :
    Calls Try.prog 21 #[.slice A n c, .slice B m d] w (OutE w (mergeE xs ys).1 (mergeE xs ys).2) := by
  subst hl
  subst hl2
  have HX := Lib.hid (And.intro hx (And.intro hy (And.intro hc (And.intro hd (And.intro hn hm)))))
  have HB := Lib.hid (Below.refl w.heap.size w)
  have HZ := Lib.hid (And.intro (show xs.length * 32 ≤ 140737488355328 by omega) (show ys.length * 32 ≤ 140737488355328 by omega))
  clear hx hy hc hd hn hm
  by_cases h1 : chk xs = 0
  · have q1 : (chk xs != 0) = false := by simp [h1]
    by_cases h2 : chk ys = 0
    · have q2 : (chk ys != 0) = false := by simp [h2]
      by_cases h3 : isTr xs ys = false ∧ isTr ys xs = false
      · have e : mergeE xs ys = ([], 31) := by unfold mergeE; rw [if_neg (by simp [h1]), if_neg (by simp [h2]), if_pos h3]
        rw [e]
        obtain ⟨q3, q4⟩ := h3
        clear e h1 h2
        go_enter Try.func21, Try.ntmps21
        go_wp2_with (first
          | (go_at_call 25; have hh := C1; clear hh; refine (check25 _ _ _ ys _ rfl (HX.out.2.1.keep HB.out)).mono ?_; rintro e w1 ⟨rfl, hb1⟩; have H12 := Lib.hid (Below.step HB.out hb1); clear HB hb1; have HB := H12; clear H12; clear C1)
          | (go_at_call 25; refine (check25 _ _ _ xs _ rfl (HX.out.1.keep HB.out)).mono ?_; rintro e w1 ⟨rfl, hb1⟩; have H12 := Lib.hid (Below.step HB.out hb1); clear HB hb1; have HB := H12; clear H12; have C1 := Lib.hid trivial)
          | (go_at_call 23; have hh := I1; clear hh; refine (istr23' _ _ _ _ _ _ ys xs _ rfl rfl (HX.out.2.1.keep HB.out) (HX.out.1.keep HB.out) HX.out.2.2.1 HX.out.2.2.2.2.2 HX.out.2.2.2.2.1).mono ?_; rintro e w1 ⟨rfl, hb1⟩; have H12 := Lib.hid (Below.step HB.out hb1); clear HB hb1; have HB := H12; clear H12; clear I1)
          | (go_at_call 23; refine (istr23' _ _ _ _ _ _ xs ys _ rfl rfl (HX.out.1.keep HB.out) (HX.out.2.1.keep HB.out) HX.out.2.2.2.1 HX.out.2.2.2.2.1 HX.out.2.2.2.2.2).mono ?_; rintro e w1 ⟨rfl, hb1⟩; have H12 := Lib.hid (Below.step HB.out hb1); clear HB hb1; have HB := H12; clear H12; have I1 := Lib.hid trivial)
          | (go_at_call 34; refine (clone34' _ _ _ xs _ rfl (HX.out.1.keep HB.out) HZ.out.1).mono ?_; rintro e w1 ⟨A1, n1, c1, rfl, hl1, hc1, hb1, ho1⟩; have H34 := Lib.hid (And.intro hl1 (And.intro hc1 (And.intro (Below.step HB.out hb1) ho1))); clear hl1 hc1 hb1 ho1))
        go_ret2
        exact ⟨none, 0, 0, rfl, rfl, Nat.le_refl _, HB.out, Sl.nil _ _ _⟩
      · by_cases h4 : xs.length < ys.length
        · have e : mergeE xs ys = (ys, 0) := by unfold mergeE; rw [if_neg (by simp [h1]), if_neg (by simp [h2]), if_neg h3, if_pos h4]
          rw [e]
          have h6 : decide (xs.length < ys.length) = true := by simp [h4]
          by_cases h5 : isTr xs ys = true
          · clear e h1 h2 h3 h4
            go_enter Try.func21, Try.ntmps21
            go_wp2_with (first
              | (go_at_call 25; have hh := C1; clear hh; refine (check25 _ _ _ ys _ rfl (HX.out.2.1.keep HB.out)).mono ?_; rintro e w1 ⟨rfl, hb1⟩; have H12 := Lib.hid (Below.step HB.out hb1); clear HB hb1; have HB := H12; clear H12; clear C1)
              | (go_at_call 25; refine (check25 _ _ _ xs _ rfl (HX.out.1.keep HB.out)).mono ?_; rintro e w1 ⟨rfl, hb1⟩; have H12 := Lib.hid (Below.step HB.out hb1); clear HB hb1; have HB := H12; clear H12; have C1 := Lib.hid trivial)
              | (go_at_call 23; have hh := I1; clear hh; refine (istr23' _ _ _ _ _ _ ys xs _ rfl rfl (HX.out.2.1.keep HB.out) (HX.out.1.keep HB.out) HX.out.2.2.1 HX.out.2.2.2.2.2 HX.out.2.2.2.2.1).mono ?_; rintro e w1 ⟨rfl, hb1⟩; have H12 := Lib.hid (Below.step HB.out hb1); clear HB hb1; have HB := H12; clear H12; clear I1)
              | (go_at_call 23; refine (istr23' _ _ _ _ _ _ xs ys _ rfl rfl (HX.out.1.keep HB.out) (HX.out.2.1.keep HB.out) HX.out.2.2.2.1 HX.out.2.2.2.2.1 HX.out.2.2.2.2.2).mono ?_; rintro e w1 ⟨rfl, hb1⟩; have H12 := Lib.hid (Below.step HB.out hb1); clear HB hb1; have HB := H12; clear H12; have I1 := Lib.hid trivial)
              | (go_at_call 34; refine (clone34' _ _ _ ys _ rfl (HX.out.2.1.keep HB.out) HZ.out.2).mono ?_; rintro e w1 ⟨A1, n1, c1, rfl, hl1, hc1, hb1, ho1⟩; have H34 := Lib.hid (And.intro hl1 (And.intro hc1 (And.intro (Below.step HB.out hb1) ho1))); clear hl1 hc1 hb1 ho1))
            go_ret2
            exact ⟨_, _, _, rfl, H34.out⟩
          · have q5 : isTr xs ys = false := by simpa using h5
            have q6 : isTr ys xs = true := by
              cases hq : isTr ys xs with
              | true => rfl
              | false => exact absurd ⟨q5, hq⟩ h3
            clear h5
            clear e h1 h2 h3 h4
            go_enter Try.func21, Try.ntmps21
            go_wp2_with (first
              | (go_at_call 25; have hh := C1; clear hh; refine (check25 _ _ _ ys _ rfl (HX.out.2.1.keep HB.out)).mono ?_; rintro e w1 ⟨rfl, hb1⟩; have H12 := Lib.hid (Below.step HB.out hb1); clear HB hb1; have HB := H12; clear H12; clear C1)
              | (go_at_call 25; refine (check25 _ _ _ xs _ rfl (HX.out.1.keep HB.out)).mono ?_; rintro e w1 ⟨rfl, hb1⟩; have H12 := Lib.hid (Below.step HB.out hb1); clear HB hb1; have HB := H12; clear H12; have C1 := Lib.hid trivial)
              | (go_at_call 23; have hh := I1; clear hh; refine (istr23' _ _ _ _ _ _ ys xs _ rfl rfl (HX.out.2.1.keep HB.out) (HX.out.1.keep HB.out) HX.out.2.2.1 HX.out.2.2.2.2.2 HX.out.2.2.2.2.1).mono ?_; rintro e w1 ⟨rfl, hb1⟩; have H12 := Lib.hid (Below.step HB.out hb1); clear HB hb1; have HB := H12; clear H12; clear I1)
              | (go_at_call 23; refine (istr23' _ _ _ _ _ _ xs ys _ rfl rfl (HX.out.1.keep HB.out) (HX.out.2.1.keep HB.out) HX.out.2.2.2.1 HX.out.2.2.2.2.1 HX.out.2.2.2.2.2).mono ?_; rintro e w1 ⟨rfl, hb1⟩; have H12 := Lib.hid (Below.step HB.out hb1); clear HB hb1; have HB := H12; clear H12; have I1 := Lib.hid trivial)
              | (go_at_call 34; refine (clone34' _ _ _ ys _ rfl (HX.out.2.1.keep HB.out) HZ.out.2).mono ?_; rintro e w1 ⟨A1, n1, c1, rfl, hl1, hc1, hb1, ho1⟩; have H34 := Lib.hid (And.intro hl1 (And.intro hc1 (And.intro (Below.step HB.out hb1) ho1))); clear hl1 hc1 hb1 ho1))
            go_ret2
            exact ⟨_, _, _, rfl, H34.out⟩
        · have e : mergeE xs ys = (xs, 0) := by unfold mergeE; rw [if_neg (by simp [h1]), if_neg (by simp [h2]), if_neg h3, if_neg h4]
          rw [e]
          have h6 : decide (xs.length < ys.length) = false := by simp; omega
          by_cases h5 : isTr xs ys = true
          · clear e h1 h2 h3 h4
            go_enter Try.func21, Try.ntmps21
            go_wp2_with (first
              | (go_at_call 25; have hh := C1; clear hh; refine (check25 _ _ _ ys _ rfl (HX.out.2.1.keep HB.out)).mono ?_; rintro e w1 ⟨rfl, hb1⟩; have H12 := Lib.hid (Below.step HB.out hb1); clear HB hb1; have HB := H12; clear H12; clear C1)
              | (go_at_call 25; refine (check25 _ _ _ xs _ rfl (HX.out.1.keep HB.out)).mono ?_; rintro e w1 ⟨rfl, hb1⟩; have H12 := Lib.hid (Below.step HB.out hb1); clear HB hb1; have HB := H12; clear H12; have C1 := Lib.hid trivial)
              | (go_at_call 23; have hh := I1; clear hh; refine (istr23' _ _ _ _ _ _ ys xs _ rfl rfl (HX.out.2.1.keep HB.out) (HX.out.1.keep HB.out) HX.out.2.2.1 HX.out.2.2.2.2.2 HX.out.2.2.2.2.1).mono ?_; rintro e w1 ⟨rfl, hb1⟩; have H12 := Lib.hid (Below.step HB.out hb1); clear HB hb1; have HB := H12; clear H12; clear I1)
              | (go_at_call 23; refine (istr23' _ _ _ _ _ _ xs ys _ rfl rfl (HX.out.1.keep HB.out) (HX.out.2.1.keep HB.out) HX.out.2.2.2.1 HX.out.2.2.2.2.1 HX.out.2.2.2.2.2).mono ?_; rintro e w1 ⟨rfl, hb1⟩; have H12 := Lib.hid (Below.step HB.out hb1); clear HB hb1; have HB := H12; clear H12; have I1 := Lib.hid trivial)
              | (go_at_call 34; refine (clone34' _ _ _ xs _ rfl (HX.out.1.keep HB.out) HZ.out.1).mono ?_; rintro e w1 ⟨A1, n1, c1, rfl, hl1, hc1, hb1, ho1⟩; have H34 := Lib.hid (And.intro hl1 (And.intro hc1 (And.intro (Below.step HB.out hb1) ho1))); clear hl1 hc1 hb1 ho1))
            go_ret2
            exact ⟨_, _, _, rfl, H34.out⟩
          · have q5 : isTr xs ys = false := by simpa using h5
            have q6 : isTr ys xs = true := by
              cases hq : isTr ys xs with
              | true => rfl
              | false => exact absurd ⟨q5, hq⟩ h3
            clear h5
            clear e h1 h2 h3 h4
            go_enter Try.func21, Try.ntmps21
            go_wp2_with (first
              | (go_at_call 25; have hh := C1; clear hh; refine (check25 _ _ _ ys _ rfl (HX.out.2.1.keep HB.out)).mono ?_; rintro e w1 ⟨rfl, hb1⟩; have H12 := Lib.hid (Below.step HB.out hb1); clear HB hb1; have HB := H12; clear H12; clear C1)
              | (go_at_call 25; refine (check25 _ _ _ xs _ rfl (HX.out.1.keep HB.out)).mono ?_; rintro e w1 ⟨rfl, hb1⟩; have H12 := Lib.hid (Below.step HB.out hb1); clear HB hb1; have HB := H12; clear H12; have C1 := Lib.hid trivial)
              | (go_at_call 23; have hh := I1; clear hh; refine (istr23' _ _ _ _ _ _ ys xs _ rfl rfl (HX.out.2.1.keep HB.out) (HX.out.1.keep HB.out) HX.out.2.2.1 HX.out.2.2.2.2.2 HX.out.2.2.2.2.1).mono ?_; rintro e w1 ⟨rfl, hb1⟩; have H12 := Lib.hid (Below.step HB.out hb1); clear HB hb1; have HB := H12; clear H12; clear I1)
              | (go_at_call 23; refine (istr23' _ _ _ _ _ _ xs ys _ rfl rfl (HX.out.1.keep HB.out) (HX.out.2.1.keep HB.out) HX.out.2.2.2.1 HX.out.2.2.2.2.1 HX.out.2.2.2.2.2).mono ?_; rintro e w1 ⟨rfl, hb1⟩; have H12 := Lib.hid (Below.step HB.out hb1); clear HB hb1; have HB := H12; clear H12; have I1 := Lib.hid trivial)
              | (go_at_call 34; refine (clone34' _ _ _ xs _ rfl (HX.out.1.keep HB.out) HZ.out.1).mono ?_; rintro e w1 ⟨A1, n1, c1, rfl, hl1, hc1, hb1, ho1⟩; have H34 := Lib.hid (And.intro hl1 (And.intro hc1 (And.intro (Below.step HB.out hb1) ho1))); clear hl1 hc1 hb1 ho1))
            go_ret2
            exact ⟨_, _, _, rfl, H34.out⟩
    · have q2 : (chk ys != 0) = true := by simp [h2]
      have e : mergeE xs ys = ([], chk ys) := by unfold mergeE; rw [if_neg (by simp [h1]), if_pos h2]
      rw [e]
      clear e h1 h2
      go_enter Try.func21, Try.ntmps21
      go_wp2_with (first
        | (go_at_call 25; have hh := C1; clear hh; refine (check25 _ _ _ ys _ rfl (HX.out.2.1.keep HB.out)).mono ?_; rintro e w1 ⟨rfl, hb1⟩; have H12 := Lib.hid (Below.step HB.out hb1); clear HB hb1; have HB := H12; clear H12; clear C1)
        | (go_at_call 25; refine (check25 _ _ _ xs _ rfl (HX.out.1.keep HB.out)).mono ?_; rintro e w1 ⟨rfl, hb1⟩; have H12 := Lib.hid (Below.step HB.out hb1); clear HB hb1; have HB := H12; clear H12; have C1 := Lib.hid trivial)
        | (go_at_call 23; have hh := I1; clear hh; refine (istr23' _ _ _ _ _ _ ys xs _ rfl rfl (HX.out.2.1.keep HB.out) (HX.out.1.keep HB.out) HX.out.2.2.1 HX.out.2.2.2.2.2 HX.out.2.2.2.2.1).mono ?_; rintro e w1 ⟨rfl, hb1⟩; have H12 := Lib.hid (Below.step HB.out hb1); clear HB hb1; have HB := H12; clear H12; clear I1)
        | (go_at_call 23; refine (istr23' _ _ _ _ _ _ xs ys _ rfl rfl (HX.out.1.keep HB.out) (HX.out.2.1.keep HB.out) HX.out.2.2.2.1 HX.out.2.2.2.2.1 HX.out.2.2.2.2.2).mono ?_; rintro e w1 ⟨rfl, hb1⟩; have H12 := Lib.hid (Below.step HB.out hb1); clear HB hb1; have HB := H12; clear H12; have I1 := Lib.hid trivial)
        | (go_at_call 34; refine (clone34' _ _ _ xs _ rfl (HX.out.1.keep HB.out) HZ.out.1).mono ?_; rintro e w1 ⟨A1, n1, c1, rfl, hl1, hc1, hb1, ho1⟩; have H34 := Lib.hid (And.intro hl1 (And.intro hc1 (And.intro (Below.step HB.out hb1) ho1))); clear hl1 hc1 hb1 ho1))
      go_ret2
      exact ⟨none, 0, 0, rfl, rfl, Nat.le_refl _, HB.out, Sl.nil _ _ _⟩
  · have q1 : (chk xs != 0) = true := by simp [h1]
    have e : mergeE xs ys = ([], chk xs) := by unfold mergeE; rw [if_pos h1]
    rw [e]
    clear e h1
    go_enter Try.func21, Try.ntmps21
    go_wp2_with (first
      | (go_at_call 25; have hh := C1; clear hh; refine (check25 _ _ _ ys _ rfl (HX.out.2.1.keep HB.out)).mono ?_; rintro e w1 ⟨rfl, hb1⟩; have H12 := Lib.hid (Below.step HB.out hb1); clear HB hb1; have HB := H12; clear H12; clear C1)
      | (go_at_call 25; refine (check25 _ _ _ xs _ rfl (HX.out.1.keep HB.out)).mono ?_; rintro e w1 ⟨rfl, hb1⟩; have H12 := Lib.hid (Below.step HB.out hb1); clear HB hb1; have HB := H12; clear H12; have C1 := Lib.hid trivial)
      | (go_at_call 23; have hh := I1; clear hh; refine (istr23' _ _ _ _ _ _ ys xs _ rfl rfl (HX.out.2.1.keep HB.out) (HX.out.1.keep HB.out) HX.out.2.2.1 HX.out.2.2.2.2.2 HX.out.2.2.2.2.1).mono ?_; rintro e w1 ⟨rfl, hb1⟩; have H12 := Lib.hid (Below.step HB.out hb1); clear HB hb1; have HB := H12; clear H12; clear I1)
      | (go_at_call 23; refine (istr23' _ _ _ _ _ _ xs ys _ rfl rfl (HX.out.1.keep HB.out) (HX.out.2.1.keep HB.out) HX.out.2.2.2.1 HX.out.2.2.2.2.1 HX.out.2.2.2.2.2).mono ?_; rintro e w1 ⟨rfl, hb1⟩; have H12 := Lib.hid (Below.step HB.out hb1); clear HB hb1; have HB := H12; clear H12; have I1 := Lib.hid trivial)
      | (go_at_call 34; refine (clone34' _ _ _ xs _ rfl (HX.out.1.keep HB.out) HZ.out.1).mono ?_; rintro e w1 ⟨A1, n1, c1, rfl, hl1, hc1, hb1, ho1⟩; have H34 := Lib.hid (And.intro hl1 (And.intro hc1 (And.intro (Below.step HB.out hb1) ho1))); clear hl1 hc1 hb1 ho1))
    go_ret2
    exact ⟨none, 0, 0, rfl, rfl, Nat.le_refl _, HB.out, Sl.nil _ _ _⟩

set_option maxRecDepth 100000 in
set_option maxHeartbeats 1600000 in
theorem merge22 (A B : Option Addr) (c d n m : Nat) (xs ys : List Id) (w : World) (hl : xs.length = n) (hl2 : ys.length = m) (hx : Sl w cI A xs) (hy : Sl w cI B ys) (hc : n ≤ c) (hd : m ≤ d) (hn : xs.length ≤ 1000) (hm : ys.length ≤ 1000) :
    Calls Try.prog 22 #[.slice A n c, .slice B m d] w (OutE w (mergeE xs ys).1 (mergeE xs ys).2) := by
  subst hl
  subst hl2
  have HX := Lib.hid (And.intro hx (And.intro hy (And.intro hc (And.intro hd (And.intro hn hm)))))
  have HB := Lib.hid (Below.refl w.heap.size w)
  have HZ := Lib.hid (And.intro (show xs.length * 32 ≤ 140737488355328 by omega) (show ys.length * 32 ≤ 140737488355328 by omega))
  clear hx hy hc hd hn hm
  by_cases h1 : chk xs = 0
  · have q1 : (chk xs != 0) = false := by simp [h1]
    by_cases h2 : chk ys = 0
    · have q2 : (chk ys != 0) = false := by simp [h2]
      by_cases h3 : isTr xs ys = false ∧ isTr ys xs = false
      · have e : mergeE xs ys = ([], 31) := by unfold mergeE; rw [if_neg (by simp [h1]), if_neg (by simp [h2]), if_pos h3]
        rw [e]
        obtain ⟨q3, q4⟩ := h3
        clear e h1 h2
        go_enter Try.func22, Try.ntmps22
        go_wp2_with (first
          | (go_at_call 37; have hh := C1; clear hh; refine (check37 _ _ _ ys _ rfl HX.out.2.2.2.1 (HX.out.2.1.keep HB.out)).mono ?_; rintro e w1 ⟨rfl, hb1⟩; have H12 := Lib.hid (Below.step HB.out hb1); clear HB hb1; have HB := H12; clear H12; clear C1)
          | (go_at_call 37; refine (check37 _ _ _ xs _ rfl HX.out.2.2.1 (HX.out.1.keep HB.out)).mono ?_; rintro e w1 ⟨rfl, hb1⟩; have H12 := Lib.hid (Below.step HB.out hb1); clear HB hb1; have HB := H12; clear H12; have C1 := Lib.hid trivial)
          | (go_at_call 24; have hh := I1; clear hh; refine (istr24 _ _ _ _ _ _ ys xs _ rfl rfl (HX.out.2.1.keep HB.out) (HX.out.1.keep HB.out) HX.out.2.2.1 HX.out.2.2.2.2.2 HX.out.2.2.2.2.1).mono ?_; rintro e w1 ⟨rfl, hb1⟩; have H12 := Lib.hid (Below.step HB.out hb1); clear HB hb1; have HB := H12; clear H12; clear I1)
          | (go_at_call 24; refine (istr24 _ _ _ _ _ _ xs ys _ rfl rfl (HX.out.1.keep HB.out) (HX.out.2.1.keep HB.out) HX.out.2.2.2.1 HX.out.2.2.2.2.1 HX.out.2.2.2.2.2).mono ?_; rintro e w1 ⟨rfl, hb1⟩; have H12 := Lib.hid (Below.step HB.out hb1); clear HB hb1; have HB := H12; clear H12; have I1 := Lib.hid trivial))
        go_ret2
        exact ⟨none, 0, 0, rfl, rfl, Nat.le_refl _, HB.out, Sl.nil _ _ _⟩
      · by_cases h4 : xs.length < ys.length
        · have e : mergeE xs ys = (ys, 0) := by unfold mergeE; rw [if_neg (by simp [h1]), if_neg (by simp [h2]), if_neg h3, if_pos h4]
          rw [e]
          have h6 : decide (xs.length < ys.length) = true := by simp [h4]
          by_cases h5 : isTr xs ys = true
          · clear e h1 h2 h3 h4
            go_enter Try.func22, Try.ntmps22
            go_wp2_with (first
              | (go_at_call 37; have hh := C1; clear hh; refine (check37 _ _ _ ys _ rfl HX.out.2.2.2.1 (HX.out.2.1.keep HB.out)).mono ?_; rintro e w1 ⟨rfl, hb1⟩; have H12 := Lib.hid (Below.step HB.out hb1); clear HB hb1; have HB := H12; clear H12; clear C1)
              | (go_at_call 37; refine (check37 _ _ _ xs _ rfl HX.out.2.2.1 (HX.out.1.keep HB.out)).mono ?_; rintro e w1 ⟨rfl, hb1⟩; have H12 := Lib.hid (Below.step HB.out hb1); clear HB hb1; have HB := H12; clear H12; have C1 := Lib.hid trivial)
              | (go_at_call 24; have hh := I1; clear hh; refine (istr24 _ _ _ _ _ _ ys xs _ rfl rfl (HX.out.2.1.keep HB.out) (HX.out.1.keep HB.out) HX.out.2.2.1 HX.out.2.2.2.2.2 HX.out.2.2.2.2.1).mono ?_; rintro e w1 ⟨rfl, hb1⟩; have H12 := Lib.hid (Below.step HB.out hb1); clear HB hb1; have HB := H12; clear H12; clear I1)
              | (go_at_call 24; refine (istr24 _ _ _ _ _ _ xs ys _ rfl rfl (HX.out.1.keep HB.out) (HX.out.2.1.keep HB.out) HX.out.2.2.2.1 HX.out.2.2.2.2.1 HX.out.2.2.2.2.2).mono ?_; rintro e w1 ⟨rfl, hb1⟩; have H12 := Lib.hid (Below.step HB.out hb1); clear HB hb1; have HB := H12; clear H12; have I1 := Lib.hid trivial)
              | (at_builtin; refine wpList_append_sl _ rfl (.tmp 33) (.tmp 34) 22 rfl w.heap.size 38 32 32 cI under22 row38 (by decide) cI_length cI_one _ [] rfl ?hown _ _ _ ys rfl rfl ?hsl ?h1 ?h2 ?h3 ?_))
            case hown => exact Own.newI _ w.heap.size 38 [] HB.out.size (by simp)
            case hsl => exact (HX.out.2.1.keep HB.out).keep (below_alloc _ _)
            case h1 => have := HZ.out.2; simp; omega
            case h2 => have := HZ.out.2; simp; omega
            case h3 => have := HB.out.size; simp; omega
            intro v' w' ho hg
            have hb := Own.grew (Own.newI _ w.heap.size 38 [] HB.out.size (by simp)) hg (Below.step HB.out (below_alloc _ _)) (Nat.le_refl _) (by have := HB.out.size; simp; omega)
            have H := Lib.hid (And.intro hb ho); clear hb ho hg
            go_wp2
            go_ret2
            exact OutE.mk H.out.1 H.out.2
          · have q5 : isTr xs ys = false := by simpa using h5
            have q6 : isTr ys xs = true := by
              cases hq : isTr ys xs with
              | true => rfl
              | false => exact absurd ⟨q5, hq⟩ h3
            clear h5
            clear e h1 h2 h3 h4
            go_enter Try.func22, Try.ntmps22
            go_wp2_with (first
              | (go_at_call 37; have hh := C1; clear hh; refine (check37 _ _ _ ys _ rfl HX.out.2.2.2.1 (HX.out.2.1.keep HB.out)).mono ?_; rintro e w1 ⟨rfl, hb1⟩; have H12 := Lib.hid (Below.step HB.out hb1); clear HB hb1; have HB := H12; clear H12; clear C1)
              | (go_at_call 37; refine (check37 _ _ _ xs _ rfl HX.out.2.2.1 (HX.out.1.keep HB.out)).mono ?_; rintro e w1 ⟨rfl, hb1⟩; have H12 := Lib.hid (Below.step HB.out hb1); clear HB hb1; have HB := H12; clear H12; have C1 := Lib.hid trivial)
              | (go_at_call 24; have hh := I1; clear hh; refine (istr24 _ _ _ _ _ _ ys xs _ rfl rfl (HX.out.2.1.keep HB.out) (HX.out.1.keep HB.out) HX.out.2.2.1 HX.out.2.2.2.2.2 HX.out.2.2.2.2.1).mono ?_; rintro e w1 ⟨rfl, hb1⟩; have H12 := Lib.hid (Below.step HB.out hb1); clear HB hb1; have HB := H12; clear H12; clear I1)
              | (go_at_call 24; refine (istr24 _ _ _ _ _ _ xs ys _ rfl rfl (HX.out.1.keep HB.out) (HX.out.2.1.keep HB.out) HX.out.2.2.2.1 HX.out.2.2.2.2.1 HX.out.2.2.2.2.2).mono ?_; rintro e w1 ⟨rfl, hb1⟩; have H12 := Lib.hid (Below.step HB.out hb1); clear HB hb1; have HB := H12; clear H12; have I1 := Lib.hid trivial)
              | (at_builtin; refine wpList_append_sl _ rfl (.tmp 33) (.tmp 34) 22 rfl w.heap.size 38 32 32 cI under22 row38 (by decide) cI_length cI_one _ [] rfl ?hown _ _ _ ys rfl rfl ?hsl ?h1 ?h2 ?h3 ?_))
            case hown => exact Own.newI _ w.heap.size 38 [] HB.out.size (by simp)
            case hsl => exact (HX.out.2.1.keep HB.out).keep (below_alloc _ _)
            case h1 => have := HZ.out.2; simp; omega
            case h2 => have := HZ.out.2; simp; omega
            case h3 => have := HB.out.size; simp; omega
            intro v' w' ho hg
            have hb := Own.grew (Own.newI _ w.heap.size 38 [] HB.out.size (by simp)) hg (Below.step HB.out (below_alloc _ _)) (Nat.le_refl _) (by have := HB.out.size; simp; omega)
            have H := Lib.hid (And.intro hb ho); clear hb ho hg
            go_wp2
            go_ret2
            exact OutE.mk H.out.1 H.out.2
        · have e : mergeE xs ys = (xs, 0) := by unfold mergeE; rw [if_neg (by simp [h1]), if_neg (by simp [h2]), if_neg h3, if_neg h4]
          rw [e]
          have h6 : decide (xs.length < ys.length) = false := by simp; omega
          by_cases h5 : isTr xs ys = true
          · clear e h1 h2 h3 h4
            go_enter Try.func22, Try.ntmps22
            go_wp2_with (first
              | (go_at_call 37; have hh := C1; clear hh; refine (check37 _ _ _ ys _ rfl HX.out.2.2.2.1 (HX.out.2.1.keep HB.out)).mono ?_; rintro e w1 ⟨rfl, hb1⟩; have H12 := Lib.hid (Below.step HB.out hb1); clear HB hb1; have HB := H12; clear H12; clear C1)
              | (go_at_call 37; refine (check37 _ _ _ xs _ rfl HX.out.2.2.1 (HX.out.1.keep HB.out)).mono ?_; rintro e w1 ⟨rfl, hb1⟩; have H12 := Lib.hid (Below.step HB.out hb1); clear HB hb1; have HB := H12; clear H12; have C1 := Lib.hid trivial)
              | (go_at_call 24; have hh := I1; clear hh; refine (istr24 _ _ _ _ _ _ ys xs _ rfl rfl (HX.out.2.1.keep HB.out) (HX.out.1.keep HB.out) HX.out.2.2.1 HX.out.2.2.2.2.2 HX.out.2.2.2.2.1).mono ?_; rintro e w1 ⟨rfl, hb1⟩; have H12 := Lib.hid (Below.step HB.out hb1); clear HB hb1; have HB := H12; clear H12; clear I1)
              | (go_at_call 24; refine (istr24 _ _ _ _ _ _ xs ys _ rfl rfl (HX.out.1.keep HB.out) (HX.out.2.1.keep HB.out) HX.out.2.2.2.1 HX.out.2.2.2.2.1 HX.out.2.2.2.2.2).mono ?_; rintro e w1 ⟨rfl, hb1⟩; have H12 := Lib.hid (Below.step HB.out hb1); clear HB hb1; have HB := H12; clear H12; have I1 := Lib.hid trivial)
              | (at_builtin; refine wpList_append_sl _ rfl (.tmp 36) (.tmp 37) 22 rfl w.heap.size 38 32 32 cI under22 row38 (by decide) cI_length cI_one _ [] rfl ?hown _ _ _ xs rfl rfl ?hsl ?h1 ?h2 ?h3 ?_))
            case hown => exact Own.newI _ w.heap.size 38 [] HB.out.size (by simp)
            case hsl => exact (HX.out.1.keep HB.out).keep (below_alloc _ _)
            case h1 => have := HZ.out.1; simp; omega
            case h2 => have := HZ.out.1; simp; omega
            case h3 => have := HB.out.size; simp; omega
            intro v' w' ho hg
            have hb := Own.grew (Own.newI _ w.heap.size 38 [] HB.out.size (by simp)) hg (Below.step HB.out (below_alloc _ _)) (Nat.le_refl _) (by have := HB.out.size; simp; omega)
            have H := Lib.hid (And.intro hb ho); clear hb ho hg
            go_wp2
            go_ret2
            exact OutE.mk H.out.1 H.out.2
          · have q5 : isTr xs ys = false := by simpa using h5
            have q6 : isTr ys xs = true := by
              cases hq : isTr ys xs with
              | true => rfl
              | false => exact absurd ⟨q5, hq⟩ h3
            clear h5
            clear e h1 h2 h3 h4
            go_enter Try.func22, Try.ntmps22
            go_wp2_with (first
              | (go_at_call 37; have hh := C1; clear hh; refine (check37 _ _ _ ys _ rfl HX.out.2.2.2.1 (HX.out.2.1.keep HB.out)).mono ?_; rintro e w1 ⟨rfl, hb1⟩; have H12 := Lib.hid (Below.step HB.out hb1); clear HB hb1; have HB := H12; clear H12; clear C1)
              | (go_at_call 37; refine (check37 _ _ _ xs _ rfl HX.out.2.2.1 (HX.out.1.keep HB.out)).mono ?_; rintro e w1 ⟨rfl, hb1⟩; have H12 := Lib.hid (Below.step HB.out hb1); clear HB hb1; have HB := H12; clear H12; have C1 := Lib.hid trivial)
              | (go_at_call 24; have hh := I1; clear hh; refine (istr24 _ _ _ _ _ _ ys xs _ rfl rfl (HX.out.2.1.keep HB.out) (HX.out.1.keep HB.out) HX.out.2.2.1 HX.out.2.2.2.2.2 HX.out.2.2.2.2.1).mono ?_; rintro e w1 ⟨rfl, hb1⟩; have H12 := Lib.hid (Below.step HB.out hb1); clear HB hb1; have HB := H12; clear H12; clear I1)
              | (go_at_call 24; refine (istr24 _ _ _ _ _ _ xs ys _ rfl rfl (HX.out.1.keep HB.out) (HX.out.2.1.keep HB.out) HX.out.2.2.2.1 HX.out.2.2.2.2.1 HX.out.2.2.2.2.2).mono ?_; rintro e w1 ⟨rfl, hb1⟩; have H12 := Lib.hid (Below.step HB.out hb1); clear HB hb1; have HB := H12; clear H12; have I1 := Lib.hid trivial)
              | (at_builtin; refine wpList_append_sl _ rfl (.tmp 36) (.tmp 37) 22 rfl w.heap.size 38 32 32 cI under22 row38 (by decide) cI_length cI_one _ [] rfl ?hown _ _ _ xs rfl rfl ?hsl ?h1 ?h2 ?h3 ?_))
            case hown => exact Own.newI _ w.heap.size 38 [] HB.out.size (by simp)
            case hsl => exact (HX.out.1.keep HB.out).keep (below_alloc _ _)
            case h1 => have := HZ.out.1; simp; omega
            case h2 => have := HZ.out.1; simp; omega
            case h3 => have := HB.out.size; simp; omega
            intro v' w' ho hg
            have hb := Own.grew (Own.newI _ w.heap.size 38 [] HB.out.size (by simp)) hg (Below.step HB.out (below_alloc _ _)) (Nat.le_refl _) (by have := HB.out.size; simp; omega)
            have H := Lib.hid (And.intro hb ho); clear hb ho hg
            go_wp2
            go_ret2
            exact OutE.mk H.out.1 H.out.2
    · have q2 : (chk ys != 0) = true := by simp [h2]
      have e : mergeE xs ys = ([], chk ys) := by unfold mergeE; rw [if_neg (by simp [h1]), if_pos h2]
      rw [e]
      clear e h1 h2
      go_enter Try.func22, Try.ntmps22
      go_wp2_with (first
        | (go_at_call 37; have hh := C1; clear hh; refine (check37 _ _ _ ys _ rfl HX.out.2.2.2.1 (HX.out.2.1.keep HB.out)).mono ?_; rintro e w1 ⟨rfl, hb1⟩; have H12 := Lib.hid (Below.step HB.out hb1); clear HB hb1; have HB := H12; clear H12; clear C1)
        | (go_at_call 37; refine (check37 _ _ _ xs _ rfl HX.out.2.2.1 (HX.out.1.keep HB.out)).mono ?_; rintro e w1 ⟨rfl, hb1⟩; have H12 := Lib.hid (Below.step HB.out hb1); clear HB hb1; have HB := H12; clear H12; have C1 := Lib.hid trivial)
        | (go_at_call 24; have hh := I1; clear hh; refine (istr24 _ _ _ _ _ _ ys xs _ rfl rfl (HX.out.2.1.keep HB.out) (HX.out.1.keep HB.out) HX.out.2.2.1 HX.out.2.2.2.2.2 HX.out.2.2.2.2.1).mono ?_; rintro e w1 ⟨rfl, hb1⟩; have H12 := Lib.hid (Below.step HB.out hb1); clear HB hb1; have HB := H12; clear H12; clear I1)
        | (go_at_call 24; refine (istr24 _ _ _ _ _ _ xs ys _ rfl rfl (HX.out.1.keep HB.out) (HX.out.2.1.keep HB.out) HX.out.2.2.2.1 HX.out.2.2.2.2.1 HX.out.2.2.2.2.2).mono ?_; rintro e w1 ⟨rfl, hb1⟩; have H12 := Lib.hid (Below.step HB.out hb1); clear HB hb1; have HB := H12; clear H12; have I1 := Lib.hid trivial))
      go_ret2
      exact ⟨none, 0, 0, rfl, rfl, Nat.le_refl _, HB.out, Sl.nil _ _ _⟩
  · have q1 : (chk xs != 0) = true := by simp [h1]
    have e : mergeE xs ys = ([], chk xs) := by unfold mergeE; rw [if_pos h1]
    rw [e]
    clear e h1
    go_enter Try.func22, Try.ntmps22
    go_wp2_with (first
      | (go_at_call 37; have hh := C1; clear hh; refine (check37 _ _ _ ys _ rfl HX.out.2.2.2.1 (HX.out.2.1.keep HB.out)).mono ?_; rintro e w1 ⟨rfl, hb1⟩; have H12 := Lib.hid (Below.step HB.out hb1); clear HB hb1; have HB := H12; clear H12; clear C1)
      | (go_at_call 37; refine (check37 _ _ _ xs _ rfl HX.out.2.2.1 (HX.out.1.keep HB.out)).mono ?_; rintro e w1 ⟨rfl, hb1⟩; have H12 := Lib.hid (Below.step HB.out hb1); clear HB hb1; have HB := H12; clear H12; have C1 := Lib.hid trivial)
      | (go_at_call 24; have hh := I1; clear hh; refine (istr24 _ _ _ _ _ _ ys xs _ rfl rfl (HX.out.2.1.keep HB.out) (HX.out.1.keep HB.out) HX.out.2.2.1 HX.out.2.2.2.2.2 HX.out.2.2.2.2.1).mono ?_; rintro e w1 ⟨rfl, hb1⟩; have H12 := Lib.hid (Below.step HB.out hb1); clear HB hb1; have HB := H12; clear H12; clear I1)
      | (go_at_call 24; refine (istr24 _ _ _ _ _ _ xs ys _ rfl rfl (HX.out.1.keep HB.out) (HX.out.2.1.keep HB.out) HX.out.2.2.2.1 HX.out.2.2.2.2.1 HX.out.2.2.2.2.2).mono ?_; rintro e w1 ⟨rfl, hb1⟩; have H12 := Lib.hid (Below.step HB.out hb1); clear HB hb1; have HB := H12; clear H12; have I1 := Lib.hid trivial))
    go_ret2
    exact ⟨none, 0, 0, rfl, rfl, Nat.le_refl _, HB.out, Sl.nil _ _ _⟩

end Go.Proofs.Ytcchpenaiomeeaa
