/- ascii.skip at the class of hexadecimal digits: the offset behind the longest run of them. -/
import Derived.Test.YtfbpipknhghneaaDoorStr
namespace Go.Proofs.YtfbpipknhghneaaDoor
open Go.RowKit
/-- The length of the run of bytes of a class at the head. -/
def runL (p : UInt8 → Bool) (l : List UInt8) : Nat := (l.takeWhile p).length
theorem bl_drop (s : ByteArray) (j : Nat) (h : j < s.size) : (bl s).drop j = s[j] :: (bl s).drop (j + 1) := by
  rw [List.drop_eq_getElem_cons (by simpa using h)]
  rfl
theorem bl_length (s : ByteArray) : (bl s).length = s.size := (Lib.size_eq s).symm
theorem runL_yes (p : UInt8 → Bool) (s : ByteArray) (j : Nat) (h : j < s.size) (hp : p s[j] = true) : runL p ((bl s).drop j) = runL p ((bl s).drop (j + 1)) + 1 := by
  rw [bl_drop s j h]
  unfold runL
  rw [List.takeWhile_cons, if_pos hp]
  simp
theorem runL_no (p : UInt8 → Bool) (s : ByteArray) (j : Nat) (h : j < s.size) (hp : p s[j] = false) : runL p ((bl s).drop j) = 0 := by
  rw [bl_drop s j h]
  unfold runL
  rw [List.takeWhile_cons, if_neg (by simp [hp])]
  rfl
theorem runL_le (p : UInt8 → Bool) (l : List UInt8) : runL p l ≤ l.length := by
  unfold runL
  exact (List.takeWhile_prefix p).sublist.length_le
theorem runL_end (p : UInt8 → Bool) (s : ByteArray) (j : Nat) (h : s.size ≤ j) : runL p ((bl s).drop j) = 0 := by
  rw [List.drop_eq_nil_of_le (by rw [bl_length]; exact h)]
  rfl
set_option maxHeartbeats 400000 in
theorem skip_hex (s : ByteArray) (k : Nat) (w : World) (hk : k ≤ s.size) (hs : s.size ≤ 4611686018427387904) :
    Calls Tryd.prog 92 #[.string s, .int .i64 (k : Int), .func (.func 102) #[] #[]] w fun e w' => e = .returned (.int .i64 ((k + runL hexB ((bl s).drop k) : Nat) : Int)) ∧ w = w' := by
  go_enter Tryd.func92, Tryd.ntmps92
  go_wp2
  go_loop [1] (fun i => ∃ j : Nat, j ≤ s.size ∧ i = .int .i64 j ∧ k + runL hexB ((bl s).drop k) = j + runL hexB ((bl s).drop j)) (fun i => s.size - (intOf i).toNat)
  case atStart => exact ⟨k, hk, rfl, rfl⟩
  case round =>
    obtain ⟨j, hj, rfl, he⟩ := hrel
    by_cases hlt : j < s.size
    · rcases hp : hexB s[j] with _ | _
      · rw [runL_no hexB s j hlt hp] at he
        have HE := Lib.hid he; clear he
        go_wp2_with (go_at_call 102; refine (isHex_b _ _).mono ?_; rintro e w' ⟨rfl, rfl⟩)
        go_ret
        exact ⟨ret_int (by have := HE.out; omega), rfl⟩
      · rw [runL_yes hexB s j hlt hp] at he
        have HE := Lib.hid he; clear he
        go_wp2_with (go_at_call 102; refine (isHex_b _ _).mono ?_; rintro e w' ⟨rfl, rfl⟩)
        go_round
        case rel => exact ⟨j + 1, hlt, by go_num, by rw [HE.out]; omega⟩
        case measure => simp [intOf]; omega
    · rw [runL_end hexB s j (by omega)] at he
      have HE := Lib.hid he; clear he
      have hjn : j = s.size := by omega
      subst hjn
      go_wp2
      go_ret
      exact ⟨ret_int (by have := HE.out; omega), rfl⟩
end Go.Proofs.YtfbpipknhghneaaDoor
