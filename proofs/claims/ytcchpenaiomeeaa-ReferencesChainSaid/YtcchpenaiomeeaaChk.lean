/- Check of package references and of the reference: both hand back the same code. -/
import Derived.Test.YtcchpenaiomeeaaMap
import Derived.Test.YtcchpenaiomeeaaTrims
namespace Go.Proofs.Ytcchpenaiomeeaa
open Go.RowKit
set_option maxHeartbeats 400000 in
theorem isZero41 (x : Id) (w : World) : Calls Try.prog 41 #[vI x] w fun e w' => e = .returned (.bool (decide (x = zI))) ∧ Below w.heap.size w w' := by
  go_enter Try.func41, Try.ntmps41
  go_wp2_with fail
  go_ret
  exact ⟨rfl, below_alloc _ _⟩
/-- The code for the next identity, after those that were seen. -/
def nextE (seen : List Id) (x : Id) : Int := if x = zI then 1 else if x ∈ seen then 7 else 0
/-- The code of a list, after those that were seen. -/
def chkL : List Id → List Id → Int
  | _, [] => 0
  | seen, x :: r => if nextE seen x = 0 then chkL (seen ++ [x]) r else nextE seen x
/-- The code of a list. -/
def chk (l : List Id) : Int := if 20 < l.length then 9 else chkL [] l
theorem Mp.grown {w w' : World} {b base : Nat} (hb : base ≤ b) (hg : w.grownBy w' (some b)) (hl : base ≤ w.heap.size) : Below base w w' :=
  ⟨hg.os, hg.tape, hg.output, hg.size, fun k hk => hg.block k (by omega) (by simp; omega)⟩
theorem grownBy_of_below {w w' : World} (h : Below w.heap.size w w') (b : Option Nat) : w.grownBy w' b := ⟨h.os, h.tape, h.output, h.size, fun k hk _ => h.block k hk⟩
set_option maxRecDepth 100000 in
set_option maxHeartbeats 800000 in
theorem next40 (x : Id) (b : Nat) (seen : List Id) (w : World) (hm : Mp w b seen) (hn : seen.length < maxLen) :
    Calls Try.prog 40 #[vI x, .map (some b)] w fun e w' => e = .returned (.int .i64 (nextE seen x)) ∧ w.grownBy w' (some b) ∧ (nextE seen x = 0 → Mp w' b (seen ++ [x])) := by
  have HB := Lib.hid (below_alloc w (.cells (aI x) 33))
  by_cases h1 : x = zI
  · have hd : decide (x = zI) = true := by simp [h1]
    have e : nextE seen x = 1 := by unfold nextE; rw [if_pos h1]
    rw [e]
    clear e h1 hm hn
    go_enter Try.func40, Try.ntmps40
    go_wp2_with (go_at_call 41; refine (isZero41 x _).mono ?_; rintro e w1 ⟨rfl, hb1⟩; have H1 := Lib.hid (Below.step HB.out hb1); clear hb1)
    go_ret
    exact ⟨rfl, grownBy_of_below H1.out _, fun h => by cases h⟩
  · have hd : decide (x = zI) = false := by simp [h1]
    by_cases h2 : x ∈ seen
    · have hd2 : decide (x ∈ seen) = true := by simp [h2]
      have e : nextE seen x = 7 := by unfold nextE; rw [if_neg h1, if_pos h2]
      rw [e]
      have HM := Lib.hid hm
      clear e h1 h2 hm hn
      go_enter Try.func40, Try.ntmps40
      go_wp2_with (go_at_call 41; refine (isZero41 x _).mono ?_; rintro e w1 ⟨rfl, hb1⟩; have H1 := Lib.hid (Below.step HB.out hb1); have hlook := (HM.out.kept H1.out).look x; have hok := At.ok ((at_new w (cI x) 33 w.heap.size rfl).keep hb1); have hrd := At.rd ((at_new w (cI x) 33 w.heap.size rfl).keep hb1); rw [cI_length] at hok hrd; clear hb1)
      go_ret
      exact ⟨rfl, grownBy_of_below H1.out _, fun h => by cases h⟩
    · have hd2 : decide (x ∈ seen) = false := by simp [h2]
      have e : nextE seen x = 0 := by unfold nextE; rw [if_neg h1, if_neg h2]
      rw [e]
      have HM := Lib.hid (And.intro hm hn)
      clear e h1 h2 hm hn
      go_enter Try.func40, Try.ntmps40
      go_wp2_with (first
        | (go_at_call 41; refine (isZero41 x _).mono ?_; rintro e w1 ⟨rfl, hb1⟩; have H1 := Lib.hid (Below.step HB.out hb1); have hlook := (HM.out.1.kept H1.out).look x; have hok := At.ok ((at_new w (cI x) 33 w.heap.size rfl).keep hb1); have hrd := At.rd ((at_new w (cI x) 33 w.heap.size rfl).keep hb1); rw [cI_length] at hok hrd; clear hb1)
        | (at_mapUpdate; refine wpList_mapUpdate_mp _ rfl _ _ _ rfl b seen x rfl (HM.out.1.kept H1.out) HM.out.2 rfl rfl ?_; intro w2 hm2 hg2; have H2 := Lib.hid (And.intro hm2 hg2); clear hm2 hg2))
      go_ret
      exact ⟨rfl, (grownBy_of_below H1.out _).trans H2.out.2, fun _ => H2.out.1⟩
end Go.Proofs.Ytcchpenaiomeeaa
