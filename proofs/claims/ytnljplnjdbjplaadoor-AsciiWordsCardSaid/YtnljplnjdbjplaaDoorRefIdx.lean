/- The reference's Index. -/
import Derived.Test.YtnljplnjdbjplaaDoorRefCmp
namespace Go.Proofs.YtnljplnjdbjplaaDoor
open Go.RowKit
theorem refLower13' (s : ByteArray) (w : World) (hs : s.size ≤ 4294967296) : Calls Tryd.prog 13 #[.string s] w fun e w' => e = .returned (.string (lowS s)) ∧ Below w.heap.size w w' := refLower13 s w hs
theorem noOcc0 (s sub : ByteArray) : Lib.NoOccB s sub 0 := by intro i hi; omega
set_option maxRecDepth 100000 in
set_option maxHeartbeats 1600000 in
theorem refIndex20 (a b : ByteArray) (w : World) (ha : a.size ≤ 4294967296) (hb : b.size ≤ 4294967296) :
    Calls Tryd.prog 20 #[.string a, .string b] w fun e w' => e = .returned (.int .i64 (Lib.index (bl (lowS a)) (bl (lowS b)))) ∧ Below w.heap.size w w' := by
  obtain ⟨A, hA⟩ : ∃ A, lowS a = A := ⟨_, rfl⟩
  obtain ⟨B, hB⟩ : ∃ B, lowS b = B := ⟨_, rfl⟩
  have hsa : A.size ≤ 4294967296 := by rw [← hA, lowS_size]; exact ha
  have hsb : B.size ≤ 4294967296 := by rw [← hB, lowS_size]; exact hb
  have HS := Lib.hid (And.intro ha (And.intro hb (And.intro hA hB)))
  rw [hA, hB]
  clear ha hb hA hB
  have T0 := Lib.hid trivial
  go_enter Tryd.func20, Tryd.ntmps20
  go_wp2_with (first
    | (go_at_call 13; have hh := T0; clear hh T0; refine (refLower13' a w HS.out.1).mono ?_; rintro e w1 ⟨rfl, hb1⟩; rw [HS.out.2.2.1]; have H1 := Lib.hid hb1; clear hb1)
    | (go_at_call 13; refine (refLower13' b _ HS.out.2.1).mono ?_; rintro e w2 ⟨rfl, hb2⟩; rw [HS.out.2.2.2]; have H2 := Lib.hid (Below.step H1.out hb2); clear hb2))
  go_loop [7] (fun i => ∃ j : Nat, j ≤ A.size + 1 ∧ i = .int .i64 j ∧ Lib.NoOccB A B j ∧ (B.size = 0 → j = 0)) (fun i => A.size + 1 - (intOf i).toNat)
  case atStart => exact ⟨0, by omega, rfl, noOcc0 _ _, fun _ => rfl⟩
  case round =>
    obtain ⟨j, hj, rfl, hno, hz⟩ := hrel
    by_cases hfit : j + B.size ≤ A.size
    · cases hp : ((A.extract j (j + B.size)).toList == B.toList) with
      | true =>
        have hi := Lib.hit A B j hno hfit hp
        have HI := Lib.hid hi
        clear hi hno hz
        go_wp2
        all_goals
          go_ret
          exact ⟨ret_int HI.out.symm, H2.out⟩
      | false =>
        have hn2 := Lib.miss_piece A B j hno hfit hp
        have hz2 : B.size = 0 → j + 1 = 0 := by
          intro h0
          exfalso
          have : (A.extract j (j + B.size)).toList = B.toList := by
            rw [Lib.toList_data, Lib.toList_data]
            have e1 : B.data.toList = [] := List.eq_nil_of_length_eq_zero (by rw [← Lib.size_eq]; exact h0)
            rw [e1, h0]
            simp
          rw [this] at hp
          simp at hp
        have HN := Lib.hid (And.intro hn2 hz2)
        clear hn2 hz2 hno hz
        go_wp2
        go_round
        case rel => exact ⟨j + 1, by omega, by go_num, HN.out.1, HN.out.2⟩
        case measure => simp [intOf]; omega
    · have h1 : 1 ≤ B.size := by
        rcases Nat.eq_zero_or_pos B.size with h0 | h0
        · have := hz h0; omega
        · exact h0
      have hi := Lib.past A B j hno h1 (by omega)
      have HI := Lib.hid hi
      clear hi hno hz
      go_wp2
      go_ret
      exact ⟨ret_int HI.out.symm, H2.out⟩
end Go.Proofs.YtnljplnjdbjplaaDoor
