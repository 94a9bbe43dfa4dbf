/- command.firstLine. -/
import Derived.Test.YtfbpipknhghneaaDoorSkip
import Derived.Test.YtfbpipknhghneaaDoorPl30
namespace Go.Proofs.YtfbpipknhghneaaDoor
open Go.RowKit
def prevB (s : ByteArray) (j : Nat) : UInt8 := if h : 0 < j ∧ j ≤ s.size then s[j - 1]'(by omega) else 0
theorem flGo_step (s : ByteArray) (j : Nat) (h : j < s.size) : flGo (prevB s j) ((bl s).drop j) j =
    if s[j] = 13 then (if (h2 : j + 1 < s.size) → s[j + 1] = 10 then flGo (prevB s (j + 1)) ((bl s).drop (j + 1)) (j + 1) else (6, 0))
    else if s[j] = 10 then (if prevB s j = 13 then (0, j) else (6, 0)) else flGo (prevB s (j + 1)) ((bl s).drop (j + 1)) (j + 1) := by
  have hp : prevB s (j + 1) = s[j] := by unfold prevB; rw [dif_pos ⟨by omega, by omega⟩]; rfl
  rw [hp, bl_drop s j h, flGo]
  by_cases h13 : s[j] = 13
  · rw [if_pos h13, if_pos h13]
    by_cases h2 : j + 1 < s.size
    · rw [bl_drop s (j + 1) h2]
      by_cases h10 : s[j + 1] = 10
      · rw [if_neg (by simp [h10]), if_pos (fun _ => h10), h13]
      · rw [if_pos (by simp [h10]), if_neg (fun hh => h10 (hh h2))]
    · rw [List.drop_eq_nil_of_le (by rw [bl_length]; omega), if_neg (by simp), if_pos (fun hh => absurd hh h2), h13]
  · rw [if_neg h13, if_neg h13]
theorem flGo_end (s : ByteArray) (j : Nat) (h : s.size ≤ j) : flGo (prevB s j) ((bl s).drop j) j = (4, 0) := by
  rw [List.drop_eq_nil_of_le (by rw [bl_length]; exact h)]; rfl
def flS (s : ByteArray) (r : Int × Nat) : ByteArray := if r.1 = 0 then s.extract 0 (r.2 - 1) else ⟨#[]⟩
set_option maxRecDepth 100000 in
set_option maxHeartbeats 1600000 in
theorem first47 (s : ByteArray) (w : World) (hs : s.size ≤ 4611686018427387904) :
    Calls Tryd.prog 47 #[.string s] w fun e w' => e = .returned (.tuple #[.string (flS s (flGo 0 (bl s) 0)), .int .i64 (flGo 0 (bl s) 0).1]) ∧ w' = w := by
  go_enter Tryd.func47, Tryd.ntmps47
  go_wp2
  go_loop [4] (fun i => ∃ j : Nat, j ≤ s.size ∧ i = .int .i64 j ∧ flGo 0 (bl s) 0 = flGo (prevB s j) ((bl s).drop j) j) (fun i => s.size - (intOf i).toNat)
  case atStart => exact ⟨0, by omega, rfl, rfl⟩
  case round =>
    obtain ⟨j, hj, rfl, he⟩ := hrel
    have HE := Lib.hid he; clear he
    by_cases hlt : j < s.size
    · have HS := Lib.hid (HE.out.trans (flGo_step s j hlt))
      have hb : ∀ c : UInt8, (((s[j].toNat : Nat) : Int) == ((c.toNat : Nat) : Int)) = (s[j] == c) := fun c => by
        rw [Bool.eq_iff_iff]; simp only [beq_iff_eq, Int.natCast_inj]; exact ⟨UInt8.toNat_inj.1, fun h => by rw [h]⟩
      have HB := Lib.hid hb
      clear hb
      by_cases h13 : s[j] = 13
      · have e13 : (((s[j].toNat : Nat) : Int) == 13) = true := (HB.out 13).trans (by simp [h13])
        have H13 := Lib.hid h13
        clear h13
        by_cases h2 : j + 1 < s.size
        · have hb2 : ∀ c : UInt8, (((s[j + 1].toNat : Nat) : Int) != ((c.toNat : Nat) : Int)) = (s[j + 1] != c) := fun c => by
            unfold bne
            rw [Bool.not_inj_iff, Bool.eq_iff_iff]; simp only [beq_iff_eq, Int.natCast_inj]; exact ⟨UInt8.toNat_inj.1, fun h => by rw [h]⟩
          by_cases h10 : s[j + 1] = 10
          · have e10 : (((s[j + 1].toNat : Nat) : Int) != 10) = false := (hb2 10).trans (by simp [h10])
            have H10 := Lib.hid (And.intro h10 hb2)
            clear h10 hb2
            go_wp2
            go_round
            case rel => exact ⟨j + 1, hlt, by go_num, by rw [HS.out, if_pos H13.out, if_pos (fun _ => H10.out.1)]⟩
            case measure => simp [intOf]; omega
          · have e10 : (((s[j + 1].toNat : Nat) : Int) != 10) = true := (hb2 10).trans (by simp [h10])
            have H10 := Lib.hid h10
            clear h10 hb2
            go_wp2
            go_ret2
            rw [HS.out, if_pos H13.out, if_neg (fun hh => H10.out (hh h2))]
            exact ⟨rfl, rfl⟩
        · go_wp2
          go_round
          case rel => exact ⟨j + 1, hlt, by go_num, by rw [HS.out, if_pos H13.out, if_pos (fun hh => absurd hh h2)]⟩
          case measure => simp [intOf]; omega
      · have e13 : (((s[j].toNat : Nat) : Int) == 13) = false := (HB.out 13).trans (by simp [h13])
        have H13 := Lib.hid h13
        clear h13
        by_cases h10 : s[j] = 10
        · have e10 : (((s[j].toNat : Nat) : Int) == 10) = true := (HB.out 10).trans (by simp [h10])
          have H10 := Lib.hid h10
          clear h10
          cases j with
          | zero =>
            go_wp2
            go_ret2
            rw [HS.out, if_neg H13.out, if_pos H10.out, if_neg (by unfold prevB; rw [dif_neg (by omega)]; decide)]
            exact ⟨rfl, rfl⟩
          | succ j =>
            have hj1 : j < s.size := by omega
            have hb2 : ∀ c : UInt8, (((s[j].toNat : Nat) : Int) != ((c.toNat : Nat) : Int)) = (s[j] != c) := fun c => by
              unfold bne
              rw [Bool.not_inj_iff, Bool.eq_iff_iff]; simp only [beq_iff_eq, Int.natCast_inj]; exact ⟨UInt8.toNat_inj.1, fun h => by rw [h]⟩
            have hpv : prevB s (j + 1) = s[j] := by unfold prevB; rw [dif_pos ⟨by omega, by omega⟩]; rfl
            by_cases hc : s[j] = 13
            · have ec : (((s[j].toNat : Nat) : Int) != 13) = false := (hb2 13).trans (by simp [hc])
              have HC := Lib.hid (And.intro hc hpv)
              clear hc hb2 hpv
              go_wp2
              go_ret2
              rw [HS.out, if_neg H13.out, if_pos H10.out, if_pos (HC.out.2.trans HC.out.1)]
              exact ⟨rfl, rfl⟩
            · have ec : (((s[j].toNat : Nat) : Int) != 13) = true := (hb2 13).trans (by simp [hc])
              have HC := Lib.hid (And.intro hc hpv)
              clear hc hb2 hpv
              go_wp2
              go_ret2
              rw [HS.out, if_neg H13.out, if_pos H10.out, if_neg (fun h => HC.out.1 (HC.out.2.symm.trans h))]
              exact ⟨rfl, rfl⟩
        · have e10 : (((s[j].toNat : Nat) : Int) == 10) = false := (HB.out 10).trans (by simp [h10])
          have H10 := Lib.hid h10
          clear h10
          go_wp2
          go_round
          case rel => exact ⟨j + 1, hlt, by go_num, by rw [HS.out, if_neg H13.out, if_neg H10.out]⟩
          case measure => simp [intOf]; omega
    · have hjn : j = s.size := by omega
      subst hjn
      go_wp2
      go_ret2
      rw [HE.out, flGo_end _ _ (Nat.le_refl _)]
      exact ⟨rfl, rfl⟩
end Go.Proofs.YtfbpipknhghneaaDoor
