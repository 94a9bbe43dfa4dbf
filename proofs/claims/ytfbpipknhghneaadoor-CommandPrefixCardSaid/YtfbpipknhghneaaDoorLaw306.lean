/- bulletinlaw30.CommandStuff: whatever the texts, the law returns true. -/
import Derived.Test.YtfbpipknhghneaaDoorKno30
import Derived.Test.YtfbpipknhghneaaDoorPlS
namespace Go.Proofs.YtfbpipknhghneaaDoor
open Go.RowKit
theorem any13 (l : List UInt8) (h : l.any (· == 13) = false) : 13 ∉ l := by
  intro hm
  have := List.any_eq_false.1 h 13 hm
  simp at this
theorem stE_zero (l : List UInt8) (h : stE l = 0) : l.length ≤ 262144 ∧ 13 ∉ l := by
  unfold stE at h
  split at h
  · cases h
  · split at h
    · cases h
    · next h1 h2 => exact ⟨by omega, any13 l (Bool.eq_false_iff.2 h2)⟩
theorem un_after (s rest : ByteArray) (h : stE (bl s) = 0) (t : ByteArray) (ht : bl t = stuffL (bl s)) : unL (bl (t ++ rest)) = (bl s, t.size, 0) := by
  obtain ⟨h1, h2⟩ := stE_zero _ h
  rw [bl_app, ht, un_stuff _ _ h2 h1, ← ht, bl_length]
/-- Five bytes of a text. -/
theorem five_eq (t : ByteArray) (j : Nat) (hj : j + 5 ≤ t.size) : bl (t.extract j (j + 5)) = ((bl t).drop j).take 5 := by
  rw [bl_seg t j (j + 5) hj]
  unfold seg
  rw [Nat.add_sub_cancel_left]
theorem last_five (s t : ByteArray) (ht : bl t = stuffL (bl s)) : 5 ≤ t.size ∧ bl (t.extract (t.size - 5) t.size) = [13, 10, 46, 13, 10] := by
  obtain ⟨u, hu⟩ := stuff_end (bl s)
  have hl : t.size = u.length + 5 := by rw [← bl_length, ht, hu, List.length_append]; rfl
  refine ⟨by omega, ?_⟩
  rw [bl_from, ht, hu, show t.size - 5 = u.length by omega, List.drop_left]
theorem stuff_le (s t : ByteArray) (hs : s.size ≤ 600) (ht : bl t = stuffL (bl s)) : t.size ≤ 2406 := by
  have h := stuffP_le 10 (bl s) []
  rw [← bl_length, ht]
  unfold stuffL
  rw [bl_length] at h
  simp only [List.length_nil] at h
  omega
set_option maxRecDepth 100000 in
set_option maxHeartbeats 3200000 in
theorem law6 (s rest : ByteArray) (w : World) (hL : Laid w) : Calls Tryd.prog 6 #[.string s, .string rest] w fun e w' => e = .returned (.bool true) ∧ Below w.heap.size w w' := by
  have HL := Lib.hid hL
  by_cases hl : 600 < s.size ∨ 300 < rest.size
  · have T0 : True := trivial
    have H1 := Lib.hid hl
    by_cases hl1 : 600 < s.size
    case' neg => have hl2 : 300 < rest.size := by omega
    all_goals
      clear hl
      go_enter Tryd.func6, Tryd.ntmps6
      go_wp2_with (first
        | (have hh := T0; clear hh T0; go_at_call 11; refine (known11 _ HL.out).mono ?_; rintro e w1 ⟨rfl, hb1⟩; have H1 := Lib.hid hb1; clear hb1)
        | (go_at_call 11; refine (known11 _ (HL.out.keep H1.out)).mono ?_; rintro e w2 ⟨rfl, hb2⟩; have H2 := Lib.hid hb2; clear hb2))
      go_ret
      exact ⟨rfl, Below.step H1.out H2.out⟩
  · have hl1 : ¬ 600 < s.size := by omega
    have hl2 : ¬ 300 < rest.size := by omega
    have H17 := Lib.hid (fun w1 (hm : Laid1 w1) => stuff17 s w1 (by omega) hm)
    have H18 := Lib.hid (fun w1 => refStuff18 s w1 (by omega))
    clear hl
    by_cases he : stE (bl s) = 0
    case neg =>
      obtain ⟨e0, he0⟩ : ∃ e0, stE (bl s) = e0 := ⟨_, rfl⟩
      rw [he0] at H17 H18 he
      have heb : (e0 != 0) = true := by simpa using he
      clear he he0
      go_enter Tryd.func6, Tryd.ntmps6
      go_wp2_with (first
        | (go_at_call 11; refine (known11 _ HL.out).mono ?_; rintro e w1 ⟨rfl, hb1⟩; have H1 := Lib.hid hb1; clear hb1)
        | (go_at_call 17; refine (H17.out _ (HL.out.keep H1.out).max).mono ?_; rintro e w2 ⟨t, rfl, ht, hb2⟩; have H2 := Lib.hid (And.intro ht hb2); clear ht hb2)
        | (go_at_call 18; refine (H18.out _).mono ?_; rintro e w3 ⟨t2, rfl, ht2, rfl⟩; obtain rfl : t2 = t := bl_inj (ht2.trans H2.out.1.symm); have hbe : (t2.toList != t2.toList) = false := (by simp); clear ht2))
      go_ret
      exact ⟨rfl, Below.step H1.out H2.out.2⟩
    · have HE := Lib.hid he
      rw [he] at H17 H18
      clear he
      go_enter Tryd.func6, Tryd.ntmps6
      go_wp2_with (first
        | (go_at_call 11; refine (known11 _ HL.out).mono ?_; rintro e w1 ⟨rfl, hb1⟩; have H1 := Lib.hid hb1; clear hb1)
        | (go_at_call 17; refine (H17.out _ (HL.out.keep H1.out).max).mono ?_; rintro e w2 ⟨t, rfl, ht, hb2⟩; have ht2 := (show bl t = stuffL (bl s) from ht.trans (by unfold stT; rw [if_pos HE.out])); have hts : t.size ≤ 2406 := stuff_le s t (by omega) ht2; obtain ⟨m, hm⟩ : ∃ m, t.size = m + 5 := (⟨t.size - 5, by have := (last_five s t ht2).1; omega⟩); have H2 := Lib.hid (And.intro ht2 (And.intro hb2 ht)); clear ht hb2 ht2)
        | (go_at_call 18; refine (H18.out _).mono ?_; rintro e w3 ⟨t2, rfl, ht2, rfl⟩; obtain rfl : t2 = t := bl_inj (ht2.trans H2.out.2.2.symm); have hbe : (t2.toList != t2.toList) = false := (by simp); have H19 := Lib.hid (fun w1 => unstuff19 (t2 ++ rest) w1 (by rw [ByteArray.size_append]; omega)); rw [un_after s rest HE.out t2 H2.out.1] at H19; clear ht2)
        | (go_at_call 19; refine (H19.out _).mono ?_; rintro e w4 ⟨u, rfl, hu, hb4⟩; obtain rfl : u = s := bl_inj hu; have hbs : (u.toList != u.toList) = false := (by simp); have H4 := Lib.hid hb4; clear hu hb4))
      go_loop [12] (fun i => ∃ j : Nat, i = .int .i64 j ∧ j ≤ m + 5) (fun i => m + 6 - (intOf i).toNat)
      case atStart => exact ⟨0, rfl, by omega⟩
      case round =>
        obtain ⟨j, rfl, hj⟩ := hrel
        by_cases hlt : j + 3 ≤ m
        · have h1 : (j : Int) + 5 ≤ (m : Int) + 2 := by omega
          have h2 : j + 5 ≤ m + 5 := by omega
          have hne : ((t2.extract j (j + 5)).toList == [13, 10, 46, 13, 10]) = false := by
            rw [ByteArray.toList_eq, show (t2.extract j (j + 5)).data.toList = ((bl t2).drop j).take 5 from five_eq t2 j (by rw [hm]; omega), H2.out.1, beq_eq_false_iff_ne]
            exact stuff_no _ (stE_zero _ HE.out).2 j (by rw [← H2.out.1, bl_length, hm]; omega)
          go_wp2
          go_round
          case rel => exact ⟨j + 1, by go_num, by omega⟩
          case measure => simp [intOf]; omega
        · have h1 : ¬ (j : Int) + 5 ≤ (m : Int) + 2 := by omega
          have hend : ((t2.extract m (m + 5)).toList == [13, 10, 46, 13, 10]) = true := by
            have h := (last_five _ t2 H2.out.1).2
            rw [hm, Nat.add_sub_cancel] at h
            rw [ByteArray.toList_eq, show (t2.extract m (m + 5)).data.toList = _ from h]
            decide
          go_wp2
          go_ret
          exact ⟨rfl, Below.step (Below.step H1.out H2.out.2.1) H4.out⟩
end Go.Proofs.YtfbpipknhghneaaDoor
