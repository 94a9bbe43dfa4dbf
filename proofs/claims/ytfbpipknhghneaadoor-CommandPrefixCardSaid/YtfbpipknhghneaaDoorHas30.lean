/- The reference's has. -/
import Derived.Test.YtfbpipknhghneaaDoorSkip
namespace Go.Proofs.YtfbpipknhghneaaDoor
open Go.RowKit
def hasB (s : ByteArray) (c : UInt8) : Bool := (bl s).any (· == c)
theorem any_end (s : ByteArray) (c : UInt8) (j : Nat) (h : s.size ≤ j) : ((bl s).drop j).any (· == c) = false := by
  rw [List.drop_eq_nil_of_le (by rw [bl_length]; exact h)]; rfl
theorem any_step (s : ByteArray) (c : UInt8) (j : Nat) (h : j < s.size) : ((bl s).drop j).any (· == c) = ((s[j] == c) || ((bl s).drop (j + 1)).any (· == c)) := by
  rw [bl_drop s j h, List.any_cons]
set_option maxRecDepth 100000 in
set_option maxHeartbeats 1600000 in
theorem has45 (s : ByteArray) (c : UInt8) (w : World) (hs : s.size ≤ 4611686018427387904) :
    Calls Tryd.prog 45 #[.string s, .int .u8 ((c.toNat : Nat) : Int)] w fun e w' => e = .returned (.bool (hasB s c)) ∧ w' = w := by
  go_enter Tryd.func45, Tryd.ntmps45
  go_wp2
  go_loop [5] (fun i => ∃ j : Nat, j ≤ s.size ∧ i = .int .i64 j ∧ hasB s c = ((bl s).drop j).any (· == c)) (fun i => s.size - (intOf i).toNat)
  case atStart => exact ⟨0, by omega, rfl, rfl⟩
  case round =>
    obtain ⟨j, hj, rfl, he⟩ := hrel
    have HE := Lib.hid he; clear he
    by_cases hlt : j < s.size
    · have hb : (((s[j].toNat : Nat) : Int) == ((c.toNat : Nat) : Int)) = (s[j] == c) := by
        rw [Bool.eq_iff_iff]; simp only [beq_iff_eq, Int.natCast_inj]; exact ⟨UInt8.toNat_inj.1, fun h => by rw [h]⟩
      have HS := Lib.hid (HE.out.trans (any_step s c j hlt))
      cases hq : (s[j] == c) with
      | true =>
        rw [hq] at hb
        have HQ := Lib.hid hq
        clear hq
        go_wp2
        go_ret
        rw [HS.out, HQ.out]
        exact ⟨rfl, rfl⟩
      | false =>
        rw [hq] at hb
        have HQ := Lib.hid hq
        clear hq
        go_wp2
        go_round
        case rel => exact ⟨j + 1, hlt, by go_num, by rw [HS.out, HQ.out, Bool.false_or]⟩
        case measure => simp [intOf]; omega
    · have hjn : j = s.size := by omega
      subst hjn
      go_wp2
      go_ret
      rw [HE.out, any_end _ _ _ (Nat.le_refl _)]
      exact ⟨rfl, rfl⟩
end Go.Proofs.YtfbpipknhghneaaDoor
