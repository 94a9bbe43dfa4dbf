/- Does a text contain the word article: named. -/
import Derived.Test.YtecalodcbkljoaaGreatDoorMRsl
import Derived.Test.YtecalodcbkljoaaGreatDoorMFst
import Derived.Test.YtecalodcbkljoaaGreatDoorMPkp
namespace Go.Proofs.YtecalodcbkljoaaGreatDoor
open Go.RowKit
theorem plain_of {s : ByteArray} (h : ∀ j, j + 7 ≤ s.size → bl (s.extract j (j + 7)) ≠ artL) : Plain (bl s) := by
  intro p r e
  have hl : p.length + 7 ≤ s.size := by
    have := congrArg List.length e
    rw [bl_length, List.length_append, List.length_append] at this
    have h7 : artL.length = 7 := rfl
    omega
  refine h p.length hl ?_
  rw [bl_piece, e, List.drop_left]
  exact List.take_left' rfl
/-- Does a text contain the word article? -/
def NamE (s : ByteArray) : Prop := ∃ j, j + 7 ≤ s.size ∧ bl (s.extract j (j + 7)) = artL
theorem nam_plain {s : ByteArray} (h : ¬ NamE s) : Plain (bl s) := plain_of fun j hj e => h ⟨j, hj, e⟩
/-- What named returns. -/
def namB (s : ByteArray) : Bool := (List.range s.size).any fun j => decide (j + 7 ≤ s.size) && decide (bl (s.extract j (j + 7)) = artL)
theorem namB_iff (s : ByteArray) : namB s = true ↔ NamE s := by
  unfold namB NamE
  rw [List.any_eq_true]
  constructor
  · rintro ⟨j, -, h⟩
    rw [Bool.and_eq_true, decide_eq_true_iff, decide_eq_true_iff] at h
    exact ⟨j, h⟩
  · rintro ⟨j, h1, h2⟩
    exact ⟨j, List.mem_range.2 (by omega), by rw [Bool.and_eq_true, decide_eq_true_iff, decide_eq_true_iff]; exact ⟨h1, h2⟩⟩
theorem namB_yes {s : ByteArray} (h : NamE s) : namB s = true := (namB_iff s).2 h
theorem namB_no {s : ByteArray} (h : ¬ NamE s) : namB s = false := by
  cases hb : namB s with
  | false => rfl
  | true => exact absurd ((namB_iff s).1 hb) h
set_option maxHeartbeats 1600000 in
theorem named_b (s : ByteArray) (hz : s.size ≤ 1073741824) (w : World) : Calls Tryz.prog 18 #[.string s] w fun e w' => e = .returned (.bool (namB s)) ∧ w' = w := by
  have HZ := Lib.hid hz
  clear hz
  go_enter Tryz.func18, Tryz.ntmps18
  go_wp2
  go_loop [3] (fun i => ∃ k : Nat, k ≤ s.size + 1 ∧ i = .int .i64 (k : Int) ∧ ∀ j, j < k → j + 7 ≤ s.size → bl (s.extract j (j + 7)) ≠ artL) (fun i => s.size + 1 - (intOf i).toNat)
  case atStart => exact ⟨0, Nat.zero_le _, rfl, fun j hj => by omega⟩
  case round =>
    obtain ⟨k, hk, rfl, hno⟩ := hrel
    have HN := Lib.hid hno
    have hz := HZ.out
    clear hno
    by_cases hlt : k + 7 ≤ s.size
    · have hlti : (k : Int) + 7 ≤ (s.size : Int) := by omega
      obtain ⟨P, hP⟩ : ∃ P, s.extract k (k + 7) = P := ⟨_, rfl⟩
      by_cases ha : bl P = artL
      · have hb : (P.toList == [97, 114, 116, 105, 99, 108, 101]) = true := by rw [Lib.toList_data]; exact beq_iff_eq.2 ha
        have HY := Lib.hid (namB_yes (s := s) ⟨k, hlt, by rw [hP]; exact ha⟩)
        clear ha
        go_wp2
        go_ret
        exact ⟨by rw [HY.out]; rfl, rfl⟩
      · have hb : (P.toList == [97, 114, 116, 105, 99, 108, 101]) = false := by rw [Lib.toList_data]; exact beq_eq_false_iff_ne.2 ha
        have HM := Lib.hid (show ∀ j, j < k + 1 → j + 7 ≤ s.size → bl (s.extract j (j + 7)) ≠ artL from fun j hj hj2 => by
          by_cases e : j = k
          · subst e
            rw [hP]
            exact ha
          · exact HN.out j (by omega) hj2)
        clear ha
        go_wp2
        go_round
        case rel => exact ⟨k + 1, by omega, by go_num, HM.out⟩
        case measure => simp [intOf]; omega
    · have hlti : ¬ (k : Int) + 7 ≤ (s.size : Int) := by omega
      have HP := Lib.hid (namB_no (s := s) (fun ⟨j, hj, e⟩ => HN.out j (by omega) hj e))
      go_wp2
      go_ret
      exact ⟨by rw [HP.out]; rfl, rfl⟩
end Go.Proofs.YtecalodcbkljoaaGreatDoor
