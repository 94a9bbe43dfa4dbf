/- Bytes and strings as lists; the classes of bytes. -/
import Derived.Test.YtfbpipknhghneaaDoorCore
import Derived.Lib.Strings
import Derived.Lib.IndexBytes
import Derived.Test.YtfbpipknhghneaaDoorShelf
namespace Go.Proofs.YtfbpipknhghneaaDoor
open Go.RowKit
/-- A string's bytes. -/
abbrev bl (s : ByteArray) : List UInt8 := s.data.toList
/-- A byte as an argument. -/
abbrev vB (c : UInt8) : Value := .int .u8 (c.toNat : Int)
def digB (c : UInt8) : Bool := decide (48 ≤ c.toNat) && decide (c.toNat ≤ 57)
/-- A lower-case hexadecimal digit, and its value. -/
def hexB (c : UInt8) : Bool := digB c || (decide (97 ≤ c.toNat) && decide (c.toNat ≤ 102))
def hexV (c : UInt8) : Nat := if c.toNat ≤ 57 then c.toNat - 48 else c.toNat - 87
def hexI (c : UInt8) : Int := if hexB c = true then (hexV c : Int) else -1
theorem ret_bool {a b : Bool} (h : a = b) : Ending.returned (.bool a) = .returned (.bool b) := by rw [h]
theorem ret_int {k : IntKind} {a b : Int} (h : a = b) : Ending.returned (.int k a) = .returned (.int k b) := by rw [h]
theorem byte_all {p : UInt8 → Bool} (h : (List.range 256).all (fun n => p (UInt8.ofNat n)) = true) (c : UInt8) : p c = true := by
  have := List.all_eq_true.1 h c.toNat (List.mem_range.2 c.toNat_lt)
  rwa [UInt8.ofNat_toNat] at this
theorem hexI_index (c : UInt8) : Lib.indexByte [48, 49, 50, 51, 52, 53, 54, 55, 56, 57, 97, 98, 99, 100, 101, 102] c = hexI c :=
  eq_of_beq (byte_all (p := fun c => Lib.indexByte [48, 49, 50, 51, 52, 53, 54, 55, 56, 57, 97, 98, 99, 100, 101, 102] c == hexI c) (by decide +kernel) c)
theorem toUInt8_toNat (c : UInt8) : ((c.toNat : Int)).toNat.toUInt8 = c := by simp
theorem hexV_lt (c : UInt8) (h : hexB c = true) : hexV c < 16 := by
  unfold hexB digB at h
  unfold hexV
  simp at h
  split <;> omega
set_option maxHeartbeats 400000 in
theorem isDigit_b (c : UInt8) (w : World) : Calls Tryd.prog 84 #[vB c] w fun e w' => e = .returned (.bool (digB c)) ∧ w = w' := by
  go_enter Tryd.func84, Tryd.ntmps84
  go_wp2
  all_goals
    go_ret
    exact ⟨ret_bool (by unfold digB; rw [Bool.eq_iff_iff]; simp; try omega), rfl⟩
set_option maxHeartbeats 400000 in
theorem isHex_b (c : UInt8) (w : World) : Calls Tryd.prog 102 #[vB c] w fun e w' => e = .returned (.bool (hexB c)) ∧ w = w' := by
  have hi : decide (0 ≤ hexI c) = hexB c := by
    unfold hexI
    by_cases h : hexB c = true
    · rw [if_pos h, h]; simp
    · rw [if_neg h]; simp at h; simp [h]
  have H := Lib.hid hi; clear hi
  go_enter Tryd.func102, Tryd.ntmps102
  go_wp2_with (go_at_call 29; refine (Tryd.strings_IndexByte _ _ _).mono ?_; rw [toUInt8_toNat, show (⟨#[48, 49, 50, 51, 52, 53, 54, 55, 56, 57, 97, 98, 99, 100, 101, 102]⟩ : ByteArray).data.toList = [48, 49, 50, 51, 52, 53, 54, 55, 56, 57, 97, 98, 99, 100, 101, 102] from rfl, hexI_index]; rintro e w' ⟨rfl, rfl⟩)
  go_ret
  exact ⟨ret_bool H.out, rfl⟩
set_option maxHeartbeats 400000 in
theorem hexValue_b (c : UInt8) (h : hexB c = true) (w : World) : Calls Tryd.prog 103 #[vB c] w fun e w' => e = .returned (.int .u8 (hexV c : Int)) ∧ w = w' := by
  have hi : hexI c = (hexV c : Int) := by unfold hexI; rw [if_pos h]
  have hv := hexV_lt c h
  have hw : IntKind.u8.wrap (hexV c : Int) = (hexV c : Int) := by simp [IntKind.wrap, IntKind.bits, IntKind.signed]; omega
  go_enter Tryd.func103, Tryd.ntmps103
  go_wp2_with (go_at_call 29; refine (Tryd.strings_IndexByte _ _ _).mono ?_; rw [toUInt8_toNat, show (⟨#[48, 49, 50, 51, 52, 53, 54, 55, 56, 57, 97, 98, 99, 100, 101, 102]⟩ : ByteArray).data.toList = [48, 49, 50, 51, 52, 53, 54, 55, 56, 57, 97, 98, 99, 100, 101, 102] from rfl, hexI_index, hi]; rintro e w' ⟨rfl, rfl⟩)
  go_ret
  exact ⟨by rfl, rfl⟩
end Go.Proofs.YtfbpipknhghneaaDoor
