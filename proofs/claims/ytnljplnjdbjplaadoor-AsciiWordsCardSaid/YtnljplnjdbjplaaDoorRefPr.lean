/- The reference's Printable. -/
import Derived.Test.YtnljplnjdbjplaaDoorRefLow
namespace Go.Proofs.YtnljplnjdbjplaaDoor
open Go.RowKit
set_option maxHeartbeats 800000 in
theorem refPrintable48 (s : ByteArray) (w : World) (hs : s.size ≤ 4294967296) :
    Calls Tryd.prog 48 #[.string s] w fun e w' => e = .returned (.int .i64 (prL (bl s))) ∧ w = w' := by
  obtain ⟨n, hn⟩ : ∃ n, runL prB (bl s) = n := ⟨_, rfl⟩
  have hpl : prL (bl s) = if n = s.size then -1 else (n : Int) := by unfold prL; rw [hn, bl_length]
  have H := Lib.hid (And.intro hn hpl)
  clear hn hpl
  go_enter Tryd.func48, Tryd.ntmps48
  go_wp2
  go_loop [3] (fun i => ∃ j : Nat, j ≤ s.size ∧ i = .int .i64 j ∧ n = j + runL prB ((bl s).drop j)) (fun i => s.size - (intOf i).toNat)
  case atStart => exact ⟨0, Nat.zero_le _, rfl, by rw [List.drop_zero, H.out.1]; omega⟩
  case round =>
    obtain ⟨j, hj, rfl, he⟩ := hrel
    by_cases hlt : j < s.size
    · obtain ⟨c, hc⟩ : ∃ c, s[j] = c := ⟨_, rfl⟩
      cases hp : prB c with
      | false =>
        rw [runL_no prB s j hlt (by rw [hc]; exact hp)] at he
        have hv : visB c = false := by unfold prB at hp; simp at hp; exact hp.1
        have h32 : ¬ (c.toNat : Int) = 32 := by unfold prB at hp; simp at hp; omega
        have HE := Lib.hid he; clear he
        go_wp2_with (go_at_call 44; refine (refVisible_b _ _).mono ?_; rintro e w' ⟨rfl, rfl⟩; rw [hv])
        go_ret
        refine ⟨ret_int ?_, rfl⟩
        have h1 := HE.out
        have h2 := H.out.2
        rw [h2, if_neg (by omega)]
        omega
      | true =>
        rw [runL_yes prB s j hlt (by rw [hc]; exact hp)] at he
        have HE := Lib.hid he; clear he
        cases hv : visB c with
        | true =>
          go_wp2_with (go_at_call 44; refine (refVisible_b _ _).mono ?_; rintro e w' ⟨rfl, rfl⟩; rw [hv])
          go_round
          case rel => exact ⟨j + 1, hlt, by go_num, by rw [HE.out]; omega⟩
          case measure => simp [intOf]; omega
        | false =>
          have h33 : ((c.toNat : Int) != 32) = false := by
            unfold prB at hp
            rw [hv] at hp
            simp at hp
            simp
            omega
          go_wp2_with (go_at_call 44; refine (refVisible_b _ _).mono ?_; rintro e w' ⟨rfl, rfl⟩; rw [hv])
          go_round
          case rel => exact ⟨j + 1, hlt, by go_num, by rw [HE.out]; omega⟩
          case measure => simp [intOf]; omega
    · rw [runL_end prB s j (by omega)] at he
      have hjn : j = s.size := by omega
      subst hjn
      have h2 := H.out.2
      rw [if_pos (by omega)] at h2
      have HP := Lib.hid h2
      clear h2 he
      go_wp2
      go_ret
      exact ⟨ret_int HP.out.symm, rfl⟩
end Go.Proofs.YtnljplnjdbjplaaDoor
