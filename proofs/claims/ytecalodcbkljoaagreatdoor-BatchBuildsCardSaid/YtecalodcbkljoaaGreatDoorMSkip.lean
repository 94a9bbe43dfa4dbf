/- Bytes and strings as lists; the classes of bytes. ascii.skip at the class of hexadecimal digits: the offset behind the longest run of them. -/
import Derived.Test.YtecalodcbkljoaaGreatDoorMCore
import Derived.Lib.Strings
import Derived.Lib.IndexBytes
import Derived.Test.YtecalodcbkljoaaGreatDoorShelf
namespace Go.Proofs.YtecalodcbkljoaaGreatDoor
open Go.RowKit
/-- A string's bytes. -/
abbrev bl (s : ByteArray) : List UInt8 := s.data.toList
/-- A byte as an argument. -/
abbrev vB (c : UInt8) : Value := .int .u8 (c.toNat : Int)
def digB (c : UInt8) : Bool := decide (48 ≤ c.toNat) && decide (c.toNat ≤ 57)
/-- A lower-case hexadecimal digit, and its value. -/
def hexB (c : UInt8) : Bool := digB c || (decide (97 ≤ c.toNat) && decide (c.toNat ≤ 102))
def hexV (c : UInt8) : Nat := if c.toNat ≤ 57 then c.toNat - 48 else c.toNat - 87
def hexI (c : UInt8) : Int := if hexB c = true then (hexV c : Int) else -1
theorem ret_bool {a b : Bool} (h : a = b) : Ending.returned (.bool a) = .returned (.bool b) := by rw [h]
theorem ret_int {k : IntKind} {a b : Int} (h : a = b) : Ending.returned (.int k a) = .returned (.int k b) := by rw [h]
theorem byte_all {p : UInt8 → Bool} (h : (List.range 256).all (fun n => p (UInt8.ofNat n)) = true) (c : UInt8) : p c = true := by
  have := List.all_eq_true.1 h c.toNat (List.mem_range.2 c.toNat_lt)
  rwa [UInt8.ofNat_toNat] at this
theorem hexI_index (c : UInt8) : Lib.indexByte [48, 49, 50, 51, 52, 53, 54, 55, 56, 57, 97, 98, 99, 100, 101, 102] c = hexI c :=
  eq_of_beq (byte_all (p := fun c => Lib.indexByte [48, 49, 50, 51, 52, 53, 54, 55, 56, 57, 97, 98, 99, 100, 101, 102] c == hexI c) (by decide +kernel) c)
theorem toUInt8_toNat (c : UInt8) : ((c.toNat : Int)).toNat.toUInt8 = c := by simp
theorem hexV_lt (c : UInt8) (h : hexB c = true) : hexV c < 16 := by
  unfold hexB digB at h
  unfold hexV
  simp at h
  split <;> omega
set_option maxHeartbeats 400000 in
theorem isDigit_b (c : UInt8) (w : World) : Calls Tryz.prog 72 #[vB c] w fun e w' => e = .returned (.bool (digB c)) ∧ w = w' := by
  go_enter Tryz.func72, Tryz.ntmps72
  go_wp2
  all_goals
    go_ret
    exact ⟨ret_bool (by unfold digB; rw [Bool.eq_iff_iff]; simp; try omega), rfl⟩
set_option maxHeartbeats 400000 in
theorem isHex_b (c : UInt8) (w : World) : Calls Tryz.prog 86 #[vB c] w fun e w' => e = .returned (.bool (hexB c)) ∧ w = w' := by
  have hi : decide (0 ≤ hexI c) = hexB c := by
    unfold hexI
    by_cases h : hexB c = true
    · rw [if_pos h, h]; simp
    · rw [if_neg h]; simp at h; simp [h]
  have H := Lib.hid hi; clear hi
  go_enter Tryz.func86, Tryz.ntmps86
  go_wp2_with (go_at_call 44; refine (Tryz.strings_IndexByte _ _ _).mono ?_; rw [toUInt8_toNat, show (⟨#[48, 49, 50, 51, 52, 53, 54, 55, 56, 57, 97, 98, 99, 100, 101, 102]⟩ : ByteArray).data.toList = [48, 49, 50, 51, 52, 53, 54, 55, 56, 57, 97, 98, 99, 100, 101, 102] from rfl, hexI_index]; rintro e w' ⟨rfl, rfl⟩)
  go_ret
  exact ⟨ret_bool H.out, rfl⟩
set_option maxHeartbeats 400000 in
theorem hexValue_b (c : UInt8) (h : hexB c = true) (w : World) : Calls Tryz.prog 87 #[vB c] w fun e w' => e = .returned (.int .u8 (hexV c : Int)) ∧ w = w' := by
  have hi : hexI c = (hexV c : Int) := by unfold hexI; rw [if_pos h]
  have hv := hexV_lt c h
  have hw : IntKind.u8.wrap (hexV c : Int) = (hexV c : Int) := by simp [IntKind.wrap, IntKind.bits, IntKind.signed]; omega
  go_enter Tryz.func87, Tryz.ntmps87
  go_wp2_with (go_at_call 44; refine (Tryz.strings_IndexByte _ _ _).mono ?_; rw [toUInt8_toNat, show (⟨#[48, 49, 50, 51, 52, 53, 54, 55, 56, 57, 97, 98, 99, 100, 101, 102]⟩ : ByteArray).data.toList = [48, 49, 50, 51, 52, 53, 54, 55, 56, 57, 97, 98, 99, 100, 101, 102] from rfl, hexI_index, hi]; rintro e w' ⟨rfl, rfl⟩)
  go_ret
  exact ⟨by rfl, rfl⟩
end Go.Proofs.YtecalodcbkljoaaGreatDoor
namespace Go.Proofs.YtecalodcbkljoaaGreatDoor
open Go.RowKit
/-- The length of the run of bytes of a class at the head. -/
def runL (p : UInt8 → Bool) (l : List UInt8) : Nat := (l.takeWhile p).length
theorem bl_drop (s : ByteArray) (j : Nat) (h : j < s.size) : (bl s).drop j = s[j] :: (bl s).drop (j + 1) := by
  rw [List.drop_eq_getElem_cons (by simpa using h)]
  rfl
theorem bl_length (s : ByteArray) : (bl s).length = s.size := (Lib.size_eq s).symm
theorem runL_yes (p : UInt8 → Bool) (s : ByteArray) (j : Nat) (h : j < s.size) (hp : p s[j] = true) : runL p ((bl s).drop j) = runL p ((bl s).drop (j + 1)) + 1 := by
  rw [bl_drop s j h]
  unfold runL
  rw [List.takeWhile_cons, if_pos hp]
  simp
theorem runL_no (p : UInt8 → Bool) (s : ByteArray) (j : Nat) (h : j < s.size) (hp : p s[j] = false) : runL p ((bl s).drop j) = 0 := by
  rw [bl_drop s j h]
  unfold runL
  rw [List.takeWhile_cons, if_neg (by simp [hp])]
  rfl
theorem runL_le (p : UInt8 → Bool) (l : List UInt8) : runL p l ≤ l.length := by
  unfold runL
  exact (List.takeWhile_prefix p).sublist.length_le
theorem runL_end (p : UInt8 → Bool) (s : ByteArray) (j : Nat) (h : s.size ≤ j) : runL p ((bl s).drop j) = 0 := by
  rw [List.drop_eq_nil_of_le (by rw [bl_length]; exact h)]
  rfl
set_option maxHeartbeats 400000 in
theorem skip_hex (s : ByteArray) (k : Nat) (w : World) (hk : k ≤ s.size) (hs : s.size ≤ 4611686018427387904) :
    Calls Tryz.prog 71 #[.string s, .int .i64 (k : Int), .func (.func 86) #[] #[]] w fun e w' => e = .returned (.int .i64 ((k + runL hexB ((bl s).drop k) : Nat) : Int)) ∧ w = w' := by
  go_enter Tryz.func71, Tryz.ntmps71
  go_wp2
  go_loop [1] (fun i => ∃ j : Nat, j ≤ s.size ∧ i = .int .i64 j ∧ k + runL hexB ((bl s).drop k) = j + runL hexB ((bl s).drop j)) (fun i => s.size - (intOf i).toNat)
  case atStart => exact ⟨k, hk, rfl, rfl⟩
  case round =>
    obtain ⟨j, hj, rfl, he⟩ := hrel
    by_cases hlt : j < s.size
    · rcases hp : hexB s[j] with _ | _
      · rw [runL_no hexB s j hlt hp] at he
        have HE := Lib.hid he; clear he
        go_wp2_with (go_at_call 86; refine (isHex_b _ _).mono ?_; rintro e w' ⟨rfl, rfl⟩)
        go_ret
        exact ⟨ret_int (by have := HE.out; omega), rfl⟩
      · rw [runL_yes hexB s j hlt hp] at he
        have HE := Lib.hid he; clear he
        go_wp2_with (go_at_call 86; refine (isHex_b _ _).mono ?_; rintro e w' ⟨rfl, rfl⟩)
        go_round
        case rel => exact ⟨j + 1, hlt, by go_num, by rw [HE.out]; omega⟩
        case measure => simp [intOf]; omega
    · rw [runL_end hexB s j (by omega)] at he
      have HE := Lib.hid he; clear he
      have hjn : j = s.size := by omega
      subst hjn
      go_wp2
      go_ret
      exact ⟨ret_int (by have := HE.out; omega), rfl⟩
end Go.Proofs.YtecalodcbkljoaaGreatDoor
