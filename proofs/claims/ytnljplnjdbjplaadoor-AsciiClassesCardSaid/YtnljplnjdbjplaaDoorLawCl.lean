/- AsciiClasses: each byte belongs to the classes of the chapter; Printable agrees with the reference. -/
import Derived.Test.YtnljplnjdbjplaaDoorLawFo
namespace Go.Proofs.YtnljplnjdbjplaaDoor
open Go.RowKit
theorem bne_same (b : Bool) : (b != b) = false := by cases b <;> rfl
set_option maxRecDepth 100000 in
set_option maxHeartbeats 3200000 in
theorem law11 (s : ByteArray) (m : Int) (w : World) (hm : Laid m w) :
    Calls Tryd.prog 11 #[.string s] w fun e w' => e = .returned (.bool true) ∧ Below w.heap.size w w' := by
  have H0 := Lib.hid (And.intro hm (cutS_size s))
  clear hm
  go_enter Tryd.func11, Tryd.ntmps11
  go_wp2
  go_loopw [3] (fun i wr => ∃ k : Nat, k ≤ 256 ∧ i = .int .i64 (k : Int) ∧ wr = w) (fun i _ => 256 - (intOf i).toNat)
  case atStart => exact ⟨0, by omega, rfl, rfl⟩
  case round =>
    obtain ⟨k, hk, rfl, rfl⟩ := hrel
    by_cases hlt : k < 256
    · obtain ⟨c, rfl⟩ : ∃ c : UInt8, k = c.toNat := ⟨UInt8.ofNat k, by rw [UInt8.toNat_ofNat']; omega⟩
      have q1 : IntKind.u8.wrap (c.toNat : Int) = (c.toNat : Int) := by simp [IntKind.wrap, IntKind.bits, IntKind.signed]; omega
      have q2 : (c.toNat : Int) < 256 := by omega
      obtain ⟨lo, hlo⟩ : ∃ b, loB c = b := ⟨_, rfl⟩
      obtain ⟨up, hup⟩ : ∃ b, upB c = b := ⟨_, rfl⟩
      obtain ⟨dg, hdg⟩ : ∃ b, digB c = b := ⟨_, rfl⟩
      obtain ⟨vs, hvs⟩ : ∃ b, visB c = b := ⟨_, rfl⟩
      obtain ⟨bk, hbk⟩ : ∃ b, blankB c = b := ⟨_, rfl⟩
      have HB := Lib.hid (And.intro hlo (And.intro hup (And.intro hdg (And.intro hvs hbk))))
      clear hlo hup hdg hvs hbk
      cases lo <;> (
        go_wp2_with (first
          | (go_at_call 36; refine (isLower_b c _).mono ?_; rintro e w' ⟨rfl, rfl⟩; rw [HB.out.1])
          | (go_at_call 37; refine (refLower_b c _).mono ?_; rintro e w' ⟨rfl, rfl⟩; rw [HB.out.1])
          | (go_at_call 38; refine (isUpper_b c _).mono ?_; rintro e w' ⟨rfl, rfl⟩; rw [HB.out.2.1])
          | (go_at_call 39; refine (refUpper_b c _).mono ?_; rintro e w' ⟨rfl, rfl⟩; rw [HB.out.2.1])
          | (go_at_call 40; refine (isLetter_b c _).mono ?_; rintro e w' ⟨rfl, rfl⟩; rw [HB.out.1, HB.out.2.1])
          | (go_at_call 41; refine (isDigit_b c _).mono ?_; rintro e w' ⟨rfl, rfl⟩; rw [HB.out.2.2.1])
          | (go_at_call 42; refine (refDigit_b c _).mono ?_; rintro e w' ⟨rfl, rfl⟩; rw [HB.out.2.2.1])
          | (go_at_call 43; refine (isVisible_b c _).mono ?_; rintro e w' ⟨rfl, rfl⟩; rw [HB.out.2.2.2.1])
          | (go_at_call 44; refine (refVisible_b c _).mono ?_; rintro e w' ⟨rfl, rfl⟩; rw [HB.out.2.2.2.1])
          | (go_at_call 45; refine (isBlank_b c _).mono ?_; rintro e w' ⟨rfl, rfl⟩; rw [HB.out.2.2.2.2])
          | (go_at_call 46; refine (refBlank_b c _).mono ?_; rintro e w' ⟨rfl, rfl⟩; rw [HB.out.2.2.2.2]))
        go_roundw
        case rel => exact ⟨c.toNat + 1, by omega, by go_num, trivial⟩
        case measure => simp [intOf] <;> omega)
    · obtain rfl : k = 256 := by omega
      go_wp2_with (first
        | (go_at_call 14; refine (known_l m _ H0.out.1).mono ?_; rintro e w1 ⟨rfl, hb⟩; have H1 := Lib.hid hb; clear hb)
        | (go_at_call 12; refine (cut12 s _).mono ?_; rintro e w2 ⟨rfl, rfl⟩)
        | (go_at_call 47; refine (printable47 (cutS s) _ (by have := H0.out.2; omega)).mono ?_; rintro e w2 ⟨rfl, rfl⟩)
        | (go_at_call 48; refine (refPrintable48 (cutS s) _ (by have := H0.out.2; omega)).mono ?_; rintro e w2 ⟨rfl, rfl⟩))
      go_ret
      exact ⟨rfl, H1.out⟩
end Go.Proofs.YtnljplnjdbjplaaDoor
