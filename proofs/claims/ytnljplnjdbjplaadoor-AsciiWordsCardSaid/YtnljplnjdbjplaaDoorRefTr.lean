/- The reference's Trim. -/
import Derived.Test.YtnljplnjdbjplaaDoorRefPr
import Derived.Deep.CutBlock
namespace Go.Proofs.YtnljplnjdbjplaaDoor
open Go.RowKit
set_option maxRecDepth 100000 in
set_option maxHeartbeats 800000 in
theorem refTrim27 (s : ByteArray) (w : World) (hs : s.size ≤ 4294967296) : Calls Tryd.prog 27 #[.string s] w fun e w' => TrimS s e ∧ w = w' := by
  have hle := runL_le blankB (bl s)
  rw [bl_length] at hle
  unfold TrimS
  obtain ⟨n, hn⟩ : ∃ n, runL blankB (bl s) = n := ⟨_, rfl⟩
  rw [hn] at hle ⊢
  have H := Lib.hid hn
  clear hn
  go_enter Tryd.func27, Tryd.ntmps27
  go_upto_block 0 with (fail)
  go_cut [3] from 7 to 17 (fun v w' => v = .int .i64 (n : Int) ∧ w' = w)
  case first =>
    go_wp2
    go_loop [3] (fun i => ∃ j : Nat, j ≤ s.size ∧ i = .int .i64 j ∧ n = j + runL blankB ((bl s).drop j)) (fun i => s.size - (intOf i).toNat)
    case atStart => exact ⟨0, Nat.zero_le _, rfl, by rw [List.drop_zero, H.out]; omega⟩
    case round =>
      obtain ⟨j, hj, rfl, he⟩ := hrel
      by_cases hlt : j < s.size
      · cases hp : blankB s[j] with
        | false =>
          rw [runL_no blankB s j hlt hp] at he
          have hjn : n = j := by omega
          subst hjn
          clear he
          go_wp2_with (go_at_call 46; refine (refBlank_b s[n] _).mono ?_; rintro e w' ⟨rfl, rfl⟩; rw [hp])
          go_meet
          case rel => exact ⟨rfl, rfl⟩
        | true =>
          rw [runL_yes blankB s j hlt hp] at he
          have HE := Lib.hid he; clear he
          go_wp2_with (go_at_call 46; refine (refBlank_b s[j] _).mono ?_; rintro e w' ⟨rfl, rfl⟩; rw [hp])
          go_round
          case rel => exact ⟨j + 1, hlt, by go_num, by rw [HE.out]; omega⟩
          case measure => simp [intOf]; omega
      · rw [runL_end blankB s j (by omega)] at he
        have hjn : n = j := by omega
        have hjs : j = s.size := by omega
        subst hjn
        subst hjs
        clear he
        go_wp2
        go_meet
        case rel => exact ⟨rfl, rfl⟩
  case rest =>
    obtain ⟨rfl, rfl⟩ := hcut
    go_wp2
    go_loop [4] (fun i => ∃ t : Nat, n ≤ t ∧ t ≤ s.size ∧ i = .int .i64 t ∧ ∀ j (h : j < s.size), t ≤ j → blankB s[j] = true) (fun i => (intOf i).toNat)
    case atStart => exact ⟨s.size, hle, Nat.le_refl _, rfl, fun j h1 h2 => by omega⟩
    case round =>
      obtain ⟨t, ht1, ht2, rfl, hall⟩ := hrel
      have HA := Lib.hid hall
      clear hall
      by_cases hlt : n < t
      · obtain ⟨q, rfl⟩ : ∃ q, t = q + 1 := ⟨t - 1, by omega⟩
        have hq : q < s.size := by omega
        cases hp : blankB s[q] with
        | true =>
          go_wp2_with (go_at_call 46; refine (refBlank_b s[q] _).mono ?_; rintro e w' ⟨rfl, rfl⟩; rw [hp])
          go_round
          case rel =>
            refine ⟨q, by omega, by omega, rfl, fun j h1 h2 => ?_⟩
            by_cases hjq : j = q
            · subst hjq; exact hp
            · exact HA.out j h1 (by omega)
          case measure => simp [intOf]
        | false =>
          go_wp2_with (go_at_call 46; refine (refBlank_b s[q] _).mono ?_; rintro e w' ⟨rfl, rfl⟩; rw [hp])
          go_ret
          refine ⟨⟨q + 1, by omega, ht2, HA.out, fun j h1 h2 _ => ?_, rfl⟩, rfl⟩
          obtain rfl : j = q := by omega
          exact hp
      · have hte : t = n := by omega
        subst hte
        go_wp2
        go_ret
        have hex : s.extract t t = ByteArray.empty := by simp
        exact ⟨⟨t, Nat.le_refl _, ht2, HA.out, fun j h1 h2 h3 => by omega, by rw [hex]; rfl⟩, rfl⟩
end Go.Proofs.YtnljplnjdbjplaaDoor
