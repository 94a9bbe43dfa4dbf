/- IsTrimmed of package references: whether the first list is the second one trimmed to its length. -/
import Derived.Test.YtcchpenaiomeeaaTrims
import Derived.Test.YtcchpenaiomeeaaSame
namespace Go.Proofs.Ytcchpenaiomeeaa
open Go.RowKit
/-- Whether xs is ys trimmed to the length of xs. -/
def isTr (xs ys : List Id) : Bool := if xs.length = 0 then ys.length == 0 else decide (xs = trimL ys xs.length)
theorem below_drewN' (w : World) (n : Nat) : Below w.heap.size w (w.drewN n) := below_drewN w n
set_option maxRecDepth 100000 in
set_option maxHeartbeats 400000 in
theorem istr23 (A B : Option Addr) (c d : Nat) (xs ys : List Id) (w : World) (hx : Sl w cI A xs) (hy : Sl w cI B ys) (hd : ys.length ≤ d) (hn : xs.length ≤ 4294967296) (hm : ys.length ≤ 4294967296) :
    Calls Try.prog 23 #[.slice A xs.length c, .slice B ys.length d] w fun e w' => e = .returned (.bool (isTr xs ys)) ∧ Below w.heap.size w w' := by
  by_cases h0 : xs.length = 0
  · have e : isTr xs ys = ((ys.length : Int) == 0) := by
      unfold isTr; rw [if_pos h0, Bool.eq_iff_iff, beq_iff_eq, beq_iff_eq]; omega
    have h1 : ((xs.length : Int) == 0) = true := beq_iff_eq.2 (by omega)
    rw [e]
    clear e h0 hx hy hd hn hm
    go_enter Try.func23, Try.ntmps23
    go_wp2_with fail
    go_ret
    exact ⟨rfl, Below.refl _ _⟩
  · have e : isTr xs ys = decide (xs = trimL ys xs.length) := by unfold isTr; rw [if_neg h0]
    have h1 : ((xs.length : Int) == 0) = false := beq_eq_false_iff_ne.2 (by omega)
    rw [e]
    have hle := trimL_length_le ys xs.length (by omega)
    have H0 := Lib.hid (And.intro hx (And.intro hy (And.intro hd (And.intro hn (And.intro hm (And.intro h0 hle)))))); clear e h0 hx hy hd hn hm hle
    go_enter Try.func23, Try.ntmps23
    go_wp2_with (first
      | (go_at_call 32; refine (trim32 _ _ _ _ _ H0.out.2.1 H0.out.2.2.1 (by have := H0.out.2.2.2; omega) (by have := H0.out.2.2.2; omega) H0.out.2.2.2.1).mono ?_; rintro e w1 ⟨A1, n1, c1, rfl, rfl, hc1, hb1, ho1⟩; have H1 := Lib.hid (And.intro hc1 (And.intro hb1 ho1)); clear hc1 hb1 ho1)
      | (go_at_call 38; refine (equal38 _ _ _ _ _ _ _ (H0.out.1.keep H1.out.2.1) H1.out.2.2 H0.out.2.2.2.1 (Nat.le_trans H0.out.2.2.2.2.2.2 H0.out.2.2.2.2.1)).mono ?_; rintro e w2 ⟨rfl, n2, rfl⟩))
    go_ret
    exact ⟨rfl, Below.step H1.out.2.1 (below_drewN _ _)⟩
end Go.Proofs.Ytcchpenaiomeeaa
