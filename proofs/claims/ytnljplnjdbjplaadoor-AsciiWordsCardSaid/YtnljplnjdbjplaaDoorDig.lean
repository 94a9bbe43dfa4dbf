/- ascii.Digits; the classes of the reference; ascii.IsLower, IsLetter. -/
import Derived.Test.YtnljplnjdbjplaaDoorFold
import Derived.Lib.AppendIntMem
namespace Go.Proofs.YtnljplnjdbjplaaDoor
open Go.RowKit
def loB (c : UInt8) : Bool := decide (97 ≤ c.toNat) && decide (c.toNat ≤ 122)
set_option maxHeartbeats 400000 in
theorem isLower_b (c : UInt8) (w : World) : Calls Tryd.prog 36 #[vB c] w fun e w' => e = .returned (.bool (loB c)) ∧ w = w' := by
  go_enter Tryd.func36, Tryd.ntmps36
  go_wp2
  all_goals
    go_ret
    exact ⟨ret_bool (by unfold loB; rw [Bool.eq_iff_iff]; simp; try omega), rfl⟩
set_option maxHeartbeats 400000 in
theorem refLower_b (c : UInt8) (w : World) : Calls Tryd.prog 37 #[vB c] w fun e w' => e = .returned (.bool (loB c)) ∧ w = w' := by
  go_enter Tryd.func37, Tryd.ntmps37
  go_wp2
  all_goals
    go_ret
    exact ⟨ret_bool (by unfold loB; rw [Bool.eq_iff_iff]; simp; try omega), rfl⟩
set_option maxHeartbeats 400000 in
theorem refUpper_b (c : UInt8) (w : World) : Calls Tryd.prog 39 #[vB c] w fun e w' => e = .returned (.bool (upB c)) ∧ w = w' := by
  go_enter Tryd.func39, Tryd.ntmps39
  go_wp2
  all_goals
    go_ret
    exact ⟨ret_bool (by unfold upB; rw [Bool.eq_iff_iff]; simp; try omega), rfl⟩
set_option maxHeartbeats 400000 in
theorem refDigit_b (c : UInt8) (w : World) : Calls Tryd.prog 42 #[vB c] w fun e w' => e = .returned (.bool (digB c)) ∧ w = w' := by
  go_enter Tryd.func42, Tryd.ntmps42
  go_wp2
  all_goals
    go_ret
    exact ⟨ret_bool (by unfold digB; rw [Bool.eq_iff_iff]; simp; try omega), rfl⟩
set_option maxHeartbeats 400000 in
theorem refVisible_b (c : UInt8) (w : World) : Calls Tryd.prog 44 #[vB c] w fun e w' => e = .returned (.bool (visB c)) ∧ w = w' := by
  go_enter Tryd.func44, Tryd.ntmps44
  go_wp2
  all_goals
    go_ret
    exact ⟨ret_bool (by unfold visB; rw [Bool.eq_iff_iff]; simp; try omega), rfl⟩
set_option maxHeartbeats 400000 in
theorem refBlank_b (c : UInt8) (w : World) : Calls Tryd.prog 46 #[vB c] w fun e w' => e = .returned (.bool (blankB c)) ∧ w = w' := by
  go_enter Tryd.func46, Tryd.ntmps46
  go_wp2
  all_goals
    go_ret
    exact ⟨ret_bool (by unfold blankB; rw [Bool.eq_iff_iff]; simp; try omega), rfl⟩
set_option maxHeartbeats 400000 in
theorem isLetter_b (c : UInt8) (w : World) : Calls Tryd.prog 40 #[vB c] w fun e w' => e = .returned (.bool (loB c || upB c)) ∧ w = w' := by
  rcases hv : loB c with _ | _
  · go_enter Tryd.func40, Tryd.ntmps40
    go_wp2_with (first
      | (go_at_call 36; refine (isLower_b _ _).mono ?_; rintro e w' ⟨rfl, rfl⟩; rw [hv])
      | (go_at_call 38; refine (isUpper_b _ _).mono ?_; rintro e w' ⟨rfl, rfl⟩))
    go_ret
    exact ⟨ret_bool (by simp), rfl⟩
  · go_enter Tryd.func40, Tryd.ntmps40
    go_wp2_with (go_at_call 36; refine (isLower_b _ _).mono ?_; rintro e w' ⟨rfl, rfl⟩; rw [hv])
    go_ret
    exact ⟨ret_bool (by simp), rfl⟩
set_option maxRecDepth 100000 in
set_option maxHeartbeats 400000 in
theorem digits28 (n : Int) (h0 : -9223372036854775808 ≤ n) (h1 : n ≤ 9223372036854775807) (w : World) (htab : Lib.TabIs Tryd.prog w "internal/strconv.uint64pow10" .u64 Lib.pow10Tab) :
    Calls Tryd.prog 28 #[.int .i64 n] w fun e w' => e = .returned (.string ⟨(Lib.itoa n).toArray⟩) ∧ Below w.heap.size w w' := by
  have H := Lib.hid (Tryd.strconv_Itoa n h0 h1 w htab)
  clear htab
  go_enter Tryd.func28, Tryd.ntmps28
  go_wp2_with (go_at_call 55; refine H.out.mono ?_; rintro e w1 ⟨rfl, k, os, rfl⟩; have HB := Lib.hid (Lib.below_grow w.heap.size w (Nat.le_refl _) k os))
  go_ret
  exact ⟨rfl, HB.out⟩
end Go.Proofs.YtnljplnjdbjplaaDoor
