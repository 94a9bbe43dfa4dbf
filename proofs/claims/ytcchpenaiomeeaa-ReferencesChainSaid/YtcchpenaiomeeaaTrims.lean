/- Trim of package references and of the reference: both hand back the same list and code. -/
import Derived.Test.YtcchpenaiomeeaaCut
namespace Go.Proofs.Ytcchpenaiomeeaa
open Go.RowKit
/-- What Trim gives: the list and the code of the error. -/
def trimE (l : List Id) (m : Int) : List Id × Int := if m < 1 ∨ 20 < m then ([], 2) else if 1000 < l.length then ([], 9) else (trimL l m.toNat, 0)
/-- A call that hands back a slice that reads as the list, and a code. -/
def OutE (w : World) (xs : List Id) (code : Int) (e : Ending) (w' : World) : Prop := ∃ A n c, e = .returned (.tuple #[.slice A n c, .int .i64 code]) ∧ xs.length = n ∧ n ≤ c ∧ Below w.heap.size w w' ∧ Sl w' cI A xs
set_option maxRecDepth 100000 in
set_option maxHeartbeats 400000 in
theorem trim13 (A : Option Addr) (c : Nat) (m : Int) (xs : List Id) (w : World) (hx : Sl w cI A xs) (hc : xs.length ≤ c) (hn : xs.length * 32 ≤ 140737488355328) :
    Calls Try.prog 13 #[.slice A xs.length c, .int .i64 m] w (OutE w (trimE xs m).1 (trimE xs m).2) := by
  by_cases h1 : m < 1
  · have e : trimE xs m = ([], 2) := by unfold trimE; rw [if_pos (Or.inl h1)]
    rw [e]
    clear e hx hc hn
    go_enter Try.func13, Try.ntmps13
    go_wp2_with fail
    go_ret2
    exact ⟨none, 0, 0, rfl, rfl, Nat.le_refl _, Below.refl _ _, Sl.nil _ _ _⟩
  · by_cases h2 : 20 < m
    · have e : trimE xs m = ([], 2) := by unfold trimE; rw [if_pos (Or.inr h2)]
      rw [e]
      clear e hx hc hn
      go_enter Try.func13, Try.ntmps13
      go_wp2_with fail
      go_ret2
      exact ⟨none, 0, 0, rfl, rfl, Nat.le_refl _, Below.refl _ _, Sl.nil _ _ _⟩
    · by_cases h3 : 1000 < xs.length
      · have e : trimE xs m = ([], 9) := by unfold trimE; rw [if_neg (by omega), if_pos h3]
        have h4 : (1000 : Int) < (xs.length : Int) := by omega
        rw [e]
        clear e hx hc hn h3
        go_enter Try.func13, Try.ntmps13
        go_wp2_with fail
        go_ret2
        exact ⟨none, 0, 0, rfl, rfl, Nat.le_refl _, Below.refl _ _, Sl.nil _ _ _⟩
      · have e : trimE xs m = (trimL xs m.toNat, 0) := by unfold trimE; rw [if_neg (by omega), if_neg h3]
        have h4 : ¬ (1000 : Int) < (xs.length : Int) := by omega
        obtain ⟨k, rfl⟩ := Int.eq_ofNat_of_zero_le (show 0 ≤ m by omega)
        rw [e]
        rw [Int.toNat_natCast]
        have H0 := Lib.hid (And.intro hx (And.intro hc (And.intro hn (And.intro h1 h2)))); clear e hx hc hn h3
        go_enter Try.func13, Try.ntmps13
        go_wp2_with ((go_at_call 32; refine (trim32 _ _ _ _ _ H0.out.1 H0.out.2.1 H0.out.2.2.1 (by have := H0.out.2.2.2; omega) (by have := H0.out.2.2.2; omega)).mono ?_; rintro e w1 ⟨A1, n1, c1, rfl, hl1, hc1, hb1, ho1⟩; have H1 := Lib.hid (And.intro hl1 (And.intro hc1 (And.intro hb1 ho1))); clear hl1 hc1 hb1 ho1))
        go_ret2
        exact ⟨_, _, _, rfl, H1.out⟩
set_option maxRecDepth 100000 in
set_option maxHeartbeats 400000 in
theorem trim15 (A : Option Addr) (c : Nat) (m : Int) (xs : List Id) (w : World) (hx : Sl w cI A xs) (hc : xs.length ≤ c) (hn : xs.length * 32 ≤ 140737488355328) :
    Calls Try.prog 15 #[.slice A xs.length c, .int .i64 m] w (OutE w (trimE xs m).1 (trimE xs m).2) := by
  by_cases h1 : m < 1
  · have e : trimE xs m = ([], 2) := by unfold trimE; rw [if_pos (Or.inl h1)]
    rw [e]
    clear e hx hc hn
    go_enter Try.func15, Try.ntmps15
    go_wp2_with fail
    go_ret2
    exact ⟨none, 0, 0, rfl, rfl, Nat.le_refl _, Below.refl _ _, Sl.nil _ _ _⟩
  · by_cases h2 : 20 < m
    · have e : trimE xs m = ([], 2) := by unfold trimE; rw [if_pos (Or.inr h2)]
      rw [e]
      clear e hx hc hn
      go_enter Try.func15, Try.ntmps15
      go_wp2_with fail
      go_ret2
      exact ⟨none, 0, 0, rfl, rfl, Nat.le_refl _, Below.refl _ _, Sl.nil _ _ _⟩
    · by_cases h3 : 1000 < xs.length
      · have e : trimE xs m = ([], 9) := by unfold trimE; rw [if_neg (by omega), if_pos h3]
        have h4 : (1000 : Int) < (xs.length : Int) := by omega
        rw [e]
        clear e hx hc hn h3
        go_enter Try.func15, Try.ntmps15
        go_wp2_with fail
        go_ret2
        exact ⟨none, 0, 0, rfl, rfl, Nat.le_refl _, Below.refl _ _, Sl.nil _ _ _⟩
      · have e : trimE xs m = (trimL xs m.toNat, 0) := by unfold trimE; rw [if_neg (by omega), if_neg h3]
        have h4 : ¬ (1000 : Int) < (xs.length : Int) := by omega
        obtain ⟨k, rfl⟩ := Int.eq_ofNat_of_zero_le (show 0 ≤ m by omega)
        rw [e]
        rw [Int.toNat_natCast]
        have H0 := Lib.hid (And.intro hx (And.intro hc (And.intro hn (And.intro h1 h2)))); clear e hx hc hn h3
        go_enter Try.func15, Try.ntmps15
        go_wp2_with ((go_at_call 33; refine (cut33 _ _ _ _ _ H0.out.1 H0.out.2.1 H0.out.2.2.1 (by have := H0.out.2.2.2; omega) (by have := H0.out.2.2.2; omega)).mono ?_; rintro e w1 ⟨A1, n1, c1, rfl, hl1, hc1, hb1, ho1⟩; have H1 := Lib.hid (And.intro hl1 (And.intro hc1 (And.intro hb1 ho1))); clear hl1 hc1 hb1 ho1))
        go_ret2
        exact ⟨_, _, _, rfl, H1.out⟩
end Go.Proofs.Ytcchpenaiomeeaa
