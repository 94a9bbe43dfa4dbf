/- Reply of package references: the list of an answer, or the code of the error. -/
import Derived.Test.YtcchpenaiomeeaaLaw5
namespace Go.Proofs.Ytcchpenaiomeeaa
open Go.RowKit
set_option maxHeartbeats 800000 in
theorem index52 (A : Option Addr) (c n : Nat) (x : Id) (xs : List Id) (w : World) (hl : xs.length = n) (hx : Sl w cI A xs) (hm : xs.length ≤ 4294967296) :
    Calls Try.prog 52 #[.slice A n c, vI x] w fun e w' => (∃ i : Int, e = .returned (.int .i64 i) ∧ decide (0 ≤ i) = decide (x ∈ xs)) ∧ Below w.heap.size w w' := by
  subst hl
  have HB := Lib.hid (below_alloc w (.cells (aI x) 33))
  have HA := Lib.hid (And.intro (At.ok (at_new w (cI x) 33 w.heap.size rfl)) (At.rd (at_new w (cI x) 33 w.heap.size rfl)))
  go_enter Try.func52, Try.ntmps52
  go_wp2
  go_loopw [8] (fun i wr => ∃ k m : Nat, k ≤ xs.length ∧ i = .int .i64 k ∧ (¬ x ∈ xs.take k) ∧ wr = (w.alloc (.cells (aI x) 33)).drewN m) (fun i _ => xs.length - (intOf i).toNat)
  case atStart => exact ⟨0, 0, Nat.zero_le _, rfl, by simp, rfl⟩
  case round =>
    obtain ⟨k, m, hk, rfl, ht, rfl⟩ := hrel
    by_cases hlt : k < xs.length
    · obtain ⟨ad, rfl, hok, hrd⟩ := Sl.rd (hx.keep HB.out) hlt
      have hok2 := HA.out.1
      have hrd2 := HA.out.2
      rw [cI_length] at hok2 hrd2
      have h1 : (0 : Int) ≤ (k : Int) := by omega
      have h2 : (k : Int) < (xs.length : Int) := by omega
      by_cases he : xs[k] = x
      · have hd : decide (x = xs[k]) = true := by simp [he]
        have HE := Lib.hid (he ▸ List.getElem_mem hlt : x ∈ xs)
        clear he ht hx
        go_wp2
        go_quiet (fail)
        go_wp2
        go_ret
        refine ⟨⟨_, rfl, ?_⟩, Below.step HB.out (Below.step (below_drewN _ m) (below_drewN _ nq))⟩
        have := HE.out
        simp [this]
      · have hd : decide (x = xs[k]) = false := by simp; exact fun h => he h.symm
        have H := Lib.hid (take_mem hlt ht he); clear he ht hx
        go_wp2
        go_quiet (fail)
        go_wp2
        go_roundw
        case rel => exact ⟨k + 1, m + nq, hlt, by go_num, H.out, by first | rfl | exact World.drewN_drewN _ _ _⟩
        case measure => simp [intOf]; omega
    · have hkn : k = xs.length := by omega
      subst hkn
      have H := Lib.hid ht; clear ht hx
      go_wp2
      go_ret
      refine ⟨⟨_, rfl, ?_⟩, Below.step HB.out (below_drewN _ _)⟩
      have := H.out
      rw [List.take_length] at this
      simp [this]
set_option maxHeartbeats 800000 in
theorem contains42 (A : Option Addr) (c n : Nat) (x : Id) (xs : List Id) (w : World) (hl : xs.length = n) (hx : Sl w cI A xs) (hm : xs.length ≤ 4294967296) :
    Calls Try.prog 42 #[.slice A n c, vI x] w fun e w' => e = .returned (.bool (decide (x ∈ xs))) ∧ Below w.heap.size w w' := by
  have HB := Lib.hid (below_alloc w (.cells (aI x) 33))
  have hok2 := At.ok (at_new w (cI x) 33 w.heap.size rfl)
  have hrd2 := At.rd (at_new w (cI x) 33 w.heap.size rfl)
  rw [cI_length] at hok2 hrd2
  have HX := Lib.hid (And.intro hl (And.intro hx hm))
  clear hl hx hm
  go_enter Try.func42, Try.ntmps42
  go_wp2_with (go_at_call 52; refine (index52 _ _ _ x xs _ HX.out.1 (HX.out.2.1.keep HB.out) HX.out.2.2).mono ?_; rintro e w1 ⟨⟨i, rfl, hi⟩, hb1⟩; have H1 := Lib.hid (And.intro hi (Below.step HB.out hb1)); clear hi hb1)
  go_ret
  exact ⟨congrArg (fun b => Ending.returned (.bool b)) H1.out.1, H1.out.2⟩
theorem concat2b (A B : Option Addr) (b n m c d : Nat) (xs ys : List Id) (w : World) (hb : b = w.heap.size) (h1 : xs.length = n) (h2 : ys.length = m) (hx : Sl w cI A xs) (hy : Sl w cI B ys) (hn : (n + m) * 32 ≤ 140737488355328) :
    Calls Try.prog 43 #[.slice (some ⟨b, 0, none⟩) 2 2] (w.alloc (.cells #[.slice A n c, .slice B m d] 24)) (Out w (xs ++ ys)) := by
  subst hb
  exact concat2 A B n m c d xs ys w h1 h2 hx hy hn
theorem trim32b (A : Option Addr) (c n most : Nat) (xs : List Id) (w : World) (hl : xs.length = n) (hx : Sl w cI A xs) (hc : n ≤ c) (hn : xs.length * 32 ≤ 140737488355328) (hm : 1 ≤ most) (hm2 : most ≤ 4294967296) :
    Calls Try.prog 32 #[.slice A n c, .int .i64 (most : Int)] w (Out w (trimL xs most)) := by
  subst hl
  exact trim32 A c most xs w hx hc hn hm hm2
/-- What Reply gives: the list and the code of the error. -/
def replyE (xs : List Id) (p : Id) : List Id × Int := if chk xs ≠ 0 then ([], chk xs) else if p = zI then ([], 1) else if p ∈ xs then ([], 7) else (trimL (xs ++ [p]) 20, 0)
theorem OutE.none {w w' : World} {code : Int} (hb : Below w.heap.size w w') : OutE w [] code (.returned (.tuple #[.slice none 0 0, .int .i64 code])) w' := ⟨_, 0, 0, rfl, rfl, Nat.le_refl _, hb, Sl.nil _ _ _⟩
set_option maxRecDepth 100000 in
set_option maxHeartbeats 1600000 in
theorem reply26 (A : Option Addr) (c n : Nat) (p : Id) (xs : List Id) (w : World) (hl : xs.length = n) (hx : Sl w cI A xs) (hm : xs.length ≤ 1000) :
    Calls Try.prog 26 #[.slice A n c, vI p] w (OutE w (replyE xs p).1 (replyE xs p).2) := by
  have HB := Lib.hid (below_alloc w (.cells (aI p) 33))
  have HA := Lib.hid (at_new w (cI p) 33 w.heap.size rfl)
  have HX := Lib.hid (And.intro hl (And.intro hx (show xs.length ≤ 4294967296 by omega)))
  have HZ := Lib.hid (show (n + 1) * 32 ≤ 140737488355328 by omega)
  clear hx hm
  by_cases h1 : chk xs = 0
  · have q1 : (chk xs != 0) = false := by simp [h1]
    by_cases h2 : p = zI
    · have e : replyE xs p = ([], 1) := by unfold replyE; rw [if_neg (by simp [h1]), if_pos h2]
      have q2 : decide (p = zI) = true := by simp [h2]
      rw [e]
      clear e h1 h2 hl
      go_enter Try.func26, Try.ntmps26
      go_wp2_with (first
        | (go_at_call 25; refine (check25 _ _ _ xs _ HX.out.1 (HX.out.2.1.keep HB.out)).mono ?_; rintro e w1 ⟨rfl, hb1⟩; have hok2 := (HA.out.keep hb1).ok; have hrd2 := (HA.out.keep hb1).rd; rw [cI_length] at hok2 hrd2; replace HA := Lib.hid (HA.out.keep hb1); replace HB := Lib.hid (Below.step HB.out hb1); clear hb1)
        | (go_at_call 41; refine (isZero41 p _).mono ?_; rintro e w1 ⟨rfl, hb1⟩; clear hok2 hrd2; have hok2 := (HA.out.keep hb1).ok; have hrd2 := (HA.out.keep hb1).rd; rw [cI_length] at hok2 hrd2; replace HA := Lib.hid (HA.out.keep hb1); replace HB := Lib.hid (Below.step HB.out hb1); clear hb1))
      go_ret2
      exact OutE.none HB.out
    · have q2 : decide (p = zI) = false := by simp [h2]
      by_cases h3 : p ∈ xs
      · have e : replyE xs p = ([], 7) := by unfold replyE; rw [if_neg (by simp [h1]), if_neg h2, if_pos h3]
        have q3 : decide (p ∈ xs) = true := by simp [h3]
        rw [e]
        clear e h1 h2 h3 hl
        go_enter Try.func26, Try.ntmps26
        go_wp2_with (first
          | (go_at_call 25; refine (check25 _ _ _ xs _ HX.out.1 (HX.out.2.1.keep HB.out)).mono ?_; rintro e w1 ⟨rfl, hb1⟩; have hok2 := (HA.out.keep hb1).ok; have hrd2 := (HA.out.keep hb1).rd; rw [cI_length] at hok2 hrd2; replace HA := Lib.hid (HA.out.keep hb1); replace HB := Lib.hid (Below.step HB.out hb1); clear hb1)
          | (go_at_call 41; refine (isZero41 p _).mono ?_; rintro e w1 ⟨rfl, hb1⟩; clear hok2 hrd2; have hok2 := (HA.out.keep hb1).ok; have hrd2 := (HA.out.keep hb1).rd; rw [cI_length] at hok2 hrd2; replace HA := Lib.hid (HA.out.keep hb1); replace HB := Lib.hid (Below.step HB.out hb1); clear hb1)
          | (go_at_call 42; refine (contains42 _ _ _ p xs _ HX.out.1 (HX.out.2.1.keep HB.out) HX.out.2.2).mono ?_; rintro e W ⟨rfl, hb1⟩; clear hok2 hrd2; have hok2 := (HA.out.keep hb1).ok; have hrd2 := (HA.out.keep hb1).rd; rw [cI_length] at hok2 hrd2; replace HA := Lib.hid (HA.out.keep hb1); replace HB := Lib.hid (Below.step HB.out hb1); clear hb1))
        go_ret2
        exact OutE.none HB.out
      · have e : replyE xs p = (trimL (xs ++ [p]) 20, 0) := by unfold replyE; rw [if_neg (by simp [h1]), if_neg h2, if_neg h3]
        have q3 : decide (p ∈ xs) = false := by simp [h3]
        rw [e]
        have HL := Lib.hid (show (xs ++ [p]).length * 32 ≤ 140737488355328 by rw [List.length_append, List.length_singleton, hl]; exact HZ.out)
        clear e h1 h2 h3 hl
        go_enter Try.func26, Try.ntmps26
        go_wp2_with (first
          | (go_at_call 25; refine (check25 _ _ _ xs _ HX.out.1 (HX.out.2.1.keep HB.out)).mono ?_; rintro e w1 ⟨rfl, hb1⟩; have hok2 := (HA.out.keep hb1).ok; have hrd2 := (HA.out.keep hb1).rd; rw [cI_length] at hok2 hrd2; replace HA := Lib.hid (HA.out.keep hb1); replace HB := Lib.hid (Below.step HB.out hb1); clear hb1)
          | (go_at_call 41; refine (isZero41 p _).mono ?_; rintro e w1 ⟨rfl, hb1⟩; clear hok2 hrd2; have hok2 := (HA.out.keep hb1).ok; have hrd2 := (HA.out.keep hb1).rd; rw [cI_length] at hok2 hrd2; replace HA := Lib.hid (HA.out.keep hb1); replace HB := Lib.hid (Below.step HB.out hb1); clear hb1)
          | (go_at_call 42; refine (contains42 _ _ _ p xs _ HX.out.1 (HX.out.2.1.keep HB.out) HX.out.2.2).mono ?_; rintro e W ⟨rfl, hb1⟩; clear hok2 hrd2; have hok2 := (HA.out.keep hb1).ok; have hrd2 := (HA.out.keep hb1).rd; rw [cI_length] at hok2 hrd2; replace HA := Lib.hid (HA.out.keep hb1); replace HB := Lib.hid (Below.step HB.out hb1); clear hb1)
          | (go_at_call 43; have hs1 := below_alloc W (.cells (aIs [p]) 33); refine (concat2b _ _ _ _ 1 _ _ xs [p] (W.alloc (.cells (aIs [p]) 33)) (by simp) HX.out.1 rfl (HX.out.2.1.keep (Below.step HB.out hs1)) (sl_newI W 33 [p]) HZ.out).mono ?_; rintro e w1 ⟨A1, n1, c1, rfl, hl1, hc1, hb1, ho1⟩; have H43 := Lib.hid (And.intro hl1 (And.intro hc1 (And.intro (Below.step (Below.step HB.out hs1) hb1) ho1))); clear hl1 hc1 hb1 ho1 hs1)
          | (go_at_call 32; refine (trim32b _ _ _ 20 (xs ++ [p]) _ H43.out.1 H43.out.2.2.2 H43.out.2.1 HL.out (by decide) (by decide)).mono ?_; rintro e w1 ⟨A1, n1, c1, rfl, hl1, hc1, hb1, ho1⟩; have H32 := Lib.hid (And.intro hl1 (And.intro hc1 (And.intro (Below.step H43.out.2.2.1 hb1) ho1))); clear hl1 hc1 hb1 ho1))
        go_ret2
        exact ⟨_, _, _, rfl, H32.out⟩
  · have q1 : (chk xs != 0) = true := by simp [h1]
    have e : replyE xs p = ([], chk xs) := by unfold replyE; rw [if_pos h1]
    rw [e]
    clear e h1 hl
    go_enter Try.func26, Try.ntmps26
    go_wp2_with (go_at_call 25; refine (check25 _ _ _ xs _ HX.out.1 (HX.out.2.1.keep HB.out)).mono ?_; rintro e w1 ⟨rfl, hb1⟩; have hok2 := (HA.out.keep hb1).ok; have hrd2 := (HA.out.keep hb1).rd; rw [cI_length] at hok2 hrd2; replace HA := Lib.hid (HA.out.keep hb1); replace HB := Lib.hid (Below.step HB.out hb1); clear hb1)
    go_ret2
    exact OutE.none HB.out
end Go.Proofs.Ytcchpenaiomeeaa
