/- The reference's Compare. -/
import Derived.Test.YtnljplnjdbjplaaDoorRefTr
import Derived.BigQuiet
namespace Go.Proofs.YtnljplnjdbjplaaDoor
open Go.RowKit
theorem cmp_both (a b : ByteArray) (j : Nat) (ha : j < a.size) (hb : j < b.size) : Lib.compareBytes ((bl a).drop j) ((bl b).drop j) = if a[j] < b[j] then -1 else if b[j] < a[j] then 1 else Lib.compareBytes ((bl a).drop (j + 1)) ((bl b).drop (j + 1)) := by
  rw [bl_drop a j ha, bl_drop b j hb]
  rfl
theorem cmp_end (a b : ByteArray) (j : Nat) (h : a.size ≤ j ∨ b.size ≤ j) (hj : j ≤ a.size) (hj2 : j ≤ b.size) : Lib.compareBytes ((bl a).drop j) ((bl b).drop j) = if a.size < b.size then -1 else if b.size < a.size then 1 else 0 := by
  by_cases h1 : a.size ≤ j
  · rw [show (bl a).drop j = [] from List.drop_eq_nil_of_le (by rw [bl_length]; exact h1)]
    by_cases h2 : b.size ≤ j
    · rw [show (bl b).drop j = [] from List.drop_eq_nil_of_le (by rw [bl_length]; exact h2), if_neg (by omega), if_neg (by omega)]
      rfl
    · rw [bl_drop b j (by omega), if_pos (by omega)]
      rfl
  · have h2 : b.size ≤ j := h.resolve_left h1
    rw [show (bl b).drop j = [] from List.drop_eq_nil_of_le (by rw [bl_length]; exact h2), bl_drop a j (by omega), if_neg (by omega), if_pos (by omega)]
    rfl
set_option maxRecDepth 100000 in
set_option maxHeartbeats 1600000 in
theorem refCompare18 (a b : ByteArray) (w : World) (ha : a.size ≤ 4294967296) (hb : b.size ≤ 4294967296) :
    Calls Tryd.prog 18 #[.string a, .string b] w fun e w' => e = .returned (.int .i64 (Lib.compareBytes (bl a) (bl b))) ∧ Below w.heap.size w w' := by
  obtain ⟨r, hr⟩ : ∃ r, Lib.compareBytes (bl a) (bl b) = r := ⟨_, rfl⟩
  rw [hr]
  have HR := Lib.hid hr
  clear hr
  go_enter Tryd.func18, Tryd.ntmps18
  go_wp2
  go_loopw [5] (fun i wr => ∃ j : Nat, j ≤ a.size ∧ j ≤ b.size ∧ i = .int .i64 j ∧ Lib.compareBytes ((bl a).drop j) ((bl b).drop j) = r ∧ Below w.heap.size w wr) (fun i _ => a.size - (intOf i).toNat)
  case atStart => exact ⟨0, Nat.zero_le _, Nat.zero_le _, rfl, HR.out, Below.refl _ _⟩
  case round =>
    obtain ⟨j, hj, hj2, rfl, he, hbl⟩ := hrel
    have HB := Lib.hid hbl
    clear hbl
    by_cases h1 : j < a.size
    · by_cases h2 : j < b.size
      · rw [cmp_both a b j h1 h2] at he
        by_cases hA : a[j].toNat < b[j].toNat
        · rw [if_pos (UInt8.lt_iff_toNat_lt.2 hA)] at he
          subst he
          have hA2 : decide (a[j].toNat < b[j].toNat) = true := decide_eq_true hA
          go_wp2
          go_quiet (fail)
          go_wp2
          go_ret
          exact ⟨rfl, Below.step HB.out (below_drewN _ _)⟩
        · rw [if_neg (fun h => hA (UInt8.lt_iff_toNat_lt.1 h))] at he
          have hA2 : decide (a[j].toNat < b[j].toNat) = false := decide_eq_false hA
          by_cases hB : b[j].toNat < a[j].toNat
          · rw [if_pos (UInt8.lt_iff_toNat_lt.2 hB)] at he
            subst he
            have hB2 : decide (b[j].toNat < a[j].toNat) = true := decide_eq_true hB
            go_wp2
            go_quiet (fail)
            go_wp2
            go_quiet (fail)
            go_wp2
            go_ret
            exact ⟨rfl, Below.step (Below.step HB.out (below_drewN _ _)) (below_drewN _ _)⟩
          · rw [if_neg (fun h => hB (UInt8.lt_iff_toNat_lt.1 h))] at he
            have hB2 : decide (b[j].toNat < a[j].toNat) = false := decide_eq_false hB
            have HE := Lib.hid he
            clear he
            go_wp2
            go_quiet (fail)
            go_wp2
            go_quiet (fail)
            go_wp2
            go_roundw
            case rel => exact ⟨j + 1, h1, h2, by go_num, HE.out, Below.step HB.out (below_drewN _ _)⟩
            case measure => simp [intOf]; omega
      · rw [cmp_end a b j (.inr (by omega)) hj hj2] at he
        have hjb : j = b.size := by omega
        subst hjb
        rw [if_neg (by omega), if_pos h1] at he
        subst he
        go_wp2
        all_goals
          go_ret
          exact ⟨rfl, HB.out⟩
    · rw [cmp_end a b j (.inl (by omega)) hj hj2] at he
      have hja : j = a.size := by omega
      subst hja
      have HE := Lib.hid he
      clear he
      by_cases hq : a.size < b.size
      · have hr : r = -1 := by rw [← HE.out, if_pos hq]
        subst hr
        go_wp2
        all_goals
          go_ret
          exact ⟨rfl, HB.out⟩
      · have hr : r = 0 := by rw [← HE.out, if_neg hq, if_neg (by omega)]
        subst hr
        go_wp2
        all_goals
          go_ret
          exact ⟨rfl, HB.out⟩
end Go.Proofs.YtnljplnjdbjplaaDoor
