/- bulletinlaw30.CommandLimits: whatever the arguments, the law returns true. -/
import Derived.Test.YtfbpipknhghneaaDoorLim
namespace Go.Proofs.YtfbpipknhghneaaDoor
open Go.RowKit
theorem size_zero {t : ByteArray} (h : t.size = 0) : t = ⟨#[]⟩ := bl_inj (List.eq_nil_of_length_eq_zero (by rw [bl_length]; exact h))
theorem i64_0 : i64 0 := ⟨by decide, by decide⟩
set_option maxRecDepth 100000 in
set_option maxHeartbeats 3200000 in
theorem law10 (m : Int) (k : Nat) (hk : k < 3) (hmk : m.tmod 3 = (k : Int)) (s : ByteArray) (w : World) (hL : Laid w) : Calls Tryd.prog 10 #[.int .u8 m, .string s] w fun e w' => e = .returned (.bool true) ∧ Below w.heap.size w w' := by
  have HL := Lib.hid hL
  clear hL
  by_cases hl : 100 < s.size
  · have q1 : 100 < (s.size : Int) := by omega
    have T0 : True := trivial
    go_enter Tryd.func10, Tryd.ntmps10
    go_wp2_with (first
      | (have hh := T0; clear hh T0; go_at_call 11; refine (known11 _ HL.out).mono ?_; rintro e w1 ⟨rfl, hb1⟩; have H1 := Lib.hid hb1; clear hb1)
      | (go_at_call 11; refine (known11 _ (HL.out.keep H1.out)).mono ?_; rintro e w2 ⟨rfl, hb2⟩; have H2 := Lib.hid hb2; clear hb2))
    go_ret
    exact ⟨rfl, Below.step H1.out H2.out⟩
  · have q1 : ¬ 100 < (s.size : Int) := by omega
    obtain ⟨N1, hN1⟩ : ∃ N1 : Nat, N1 = 4096 + k := ⟨_, rfl⟩
    obtain ⟨N2, hN2⟩ : ∃ N2 : Nat, N2 = 262144 + k := ⟨_, rfl⟩
    have HC1 := Lib.hid (chk_lim N1 (by omega))
    have HE := Lib.hid (fun (w1 : World) (hl : Laid w1) => encode15 (cZ N1) w1 hl ⟨(by decide : (⟨#[]⟩ : ByteArray).size ≤ 1000000), by rw [show (cZ N1).text = zB N1 from rfl, zB_size]; omega, i64_0, i64_0, i64_0, i64_0⟩)
    have HDX := Lib.hid (And.intro (show N1 ≤ 5000 by omega) (show N2 ≤ 300000 by omega))
    have x1 : (4096 : Int) + (k : Int) = (N1 : Int) := by omega
    have x2 : (262144 : Int) + (k : Int) = (N2 : Int) := by omega
    have x3 : IntKind.u8.wrap (k : Int) = (k : Int) := by have : k = 0 ∨ k = 1 ∨ k = 2 := (by omega); rcases this with rfl | rfl | rfl <;> rfl
    have HM := Lib.hid (And.intro (mk_bytes N1 (by omega)) (mk_bytes N2 (by omega)))
    by_cases hk0 : k = 0
    · have y3 : ¬ 0 < k := by omega
      have y1 : ((k : Int) == 0) = true := by rw [hk0]; rfl
      have y2 : decide (0 < (k : Int)) = false := by rw [hk0]; rfl
      rw [if_neg (by omega)] at HC1
      have HD := Lib.hid (dec_round (cZ N1) HC1.out [])
      rw [List.append_nil] at HD
      rw [HC1.out] at HE
      have HS17 := Lib.hid (stuff_zeros17 N2 (by omega))
      have HS19 := Lib.hid (un_zeros19 N2 (by omega))
      have z0 : (zB N2).size = N2 := zB_size N2
      rw [if_neg (by omega), if_neg (by omega)] at HS17 HS19
      have HK := Lib.hid (And.intro hk0 (And.intro hN1 hN2))
      clear hk0 hN1 hN2
      go_enter Tryd.func10, Tryd.ntmps10
      go_wp2_with (first
        | (go_at_call 11; refine (known11 _ HL.out).mono ?_; rintro e w1 ⟨rfl, hb1⟩; have H1 := Lib.hid hb1; clear hb1)
        | (go_at_call 25; refine (feed25_nil s _).mono ?_; rintro e w2 ⟨rfl, hb2⟩; have H2 := Lib.hid (Below.step H1.out hb2); clear hb2)
        | (go_at_call 27; refine (reset27_nil _).mono ?_; rintro e w3 ⟨rfl, hb3⟩; have H3 := Lib.hid (Below.step H2.out hb3); clear hb3)
        | (go_at_call 26; refine (rest26_nil _).mono ?_; rintro e w4 ⟨rfl, hb4⟩; have H4 := Lib.hid (Below.step H3.out hb4); clear hb4)
        | (go_at_call 28; refine (failed28_nil _).mono ?_; rintro e w5 ⟨rfl, hb5⟩; have H5 := Lib.hid (Below.step H4.out hb5); clear hb5; have m1 := HM.out.1 w5; have m2 := conv_zeros N1 w5)
        | (go_at_call 15; refine (HE.out _ (HL.out.keep (Below.step H5.out (below_alloc _ _)))).mono ?_; rintro e w6 ⟨t, rfl, ht, hb6⟩; have H6 := Lib.hid (Below.step (Below.step H5.out (below_alloc _ _)) hb6); have HT := Lib.hid ht; clear hb6 ht m1 m2)
        | (go_at_call 12; refine (decode12 t _ (by rw [← bl_length, HT.out]; exact Nat.le_trans (encT_len2 (cZ N1)) (by rw [show (cZ N1).text = zB N1 from rfl, zB_size]; have := HDX.out.1; omega)) (HL.out.keep H6.out)).mono ?_; rw [HT.out, HD.out]; rintro e w7 ⟨rfl, hb7⟩; obtain ⟨g8, hg8⟩ : ∃ g8, w7.heap.size = g8 := ⟨_, rfl⟩; obtain ⟨W8, hW8⟩ : ∃ W8, w7.alloc (.cells (aC (cZ N1)) 27) = W8 := ⟨_, rfl⟩; have H8 := Lib.hid (show Below w.heap.size w W8 from (by rw [← hW8]; exact Below.step (Below.step H6.out hb7) (below_alloc _ _))); have k1 : W8.cell? ⟨g8, 38, none⟩ = some (.string (zB N1)) := (by rw [← hW8, ← hg8]; exact (Row.new w7 (cC (cZ N1)) 27).cell 38); clear hb7; have m3 := HM.out.2 W8; have m4 := conv_zeros N2 W8)
        | (go_at_call 17; refine (HS17.out _ (HL.out.keep (Below.step H8.out (below_alloc _ _))).max).mono ?_; rintro e w9 ⟨t2, rfl, ht2, hb9⟩; have H9 := Lib.hid (Below.step (Below.step H8.out (below_alloc _ _)) hb9); have z1 : (t2.size : Int) = (N2 : Int) + 5 := (by omega); clear hb9 ht2)
        | (go_at_call 19; refine (HS19.out _).mono ?_; rintro e wA ⟨n19, rfl, hbA⟩; have HA := Lib.hid (Below.step H9.out hbA); clear hbA))
      go_ret
      exact ⟨rfl, HA.out⟩
    · have y3 : 0 < k := by omega
      have y1 : ((k : Int) == 0) = false := beq_eq_false_iff_ne.2 (by omega)
      have y2 : decide (0 < (k : Int)) = true := decide_eq_true (by omega)
      rw [if_pos (by omega)] at HC1
      obtain ⟨dc, HDC⟩ : ∃ dc, Hid (decL (bl ⟨#[]⟩) = (dc, 0, 4)) := ⟨zC, Lib.hid rfl⟩
      have HEN := Lib.hid (encT_no (cZ N1) (by rw [HC1.out]; decide))
      rw [HC1.out] at HE
      have HS17 := Lib.hid (stuff_zeros17 N2 (by omega))
      have HS19 := Lib.hid (un_zeros19 N2 (by omega))
      have z0 : (zB N2).size = N2 := zB_size N2
      rw [if_pos (by omega), if_pos (by omega)] at HS17 HS19
      have HK := Lib.hid (And.intro hk0 (And.intro hN1 hN2))
      clear hk0 hN1 hN2
      go_enter Tryd.func10, Tryd.ntmps10
      go_wp2_with (first
        | (go_at_call 11; refine (known11 _ HL.out).mono ?_; rintro e w1 ⟨rfl, hb1⟩; have H1 := Lib.hid hb1; clear hb1)
        | (go_at_call 25; refine (feed25_nil s _).mono ?_; rintro e w2 ⟨rfl, hb2⟩; have H2 := Lib.hid (Below.step H1.out hb2); clear hb2)
        | (go_at_call 27; refine (reset27_nil _).mono ?_; rintro e w3 ⟨rfl, hb3⟩; have H3 := Lib.hid (Below.step H2.out hb3); clear hb3)
        | (go_at_call 26; refine (rest26_nil _).mono ?_; rintro e w4 ⟨rfl, hb4⟩; have H4 := Lib.hid (Below.step H3.out hb4); clear hb4)
        | (go_at_call 28; refine (failed28_nil _).mono ?_; rintro e w5 ⟨rfl, hb5⟩; have H5 := Lib.hid (Below.step H4.out hb5); clear hb5; have m1 := HM.out.1 w5; have m2 := conv_zeros N1 w5)
        | (go_at_call 15; refine (HE.out _ (HL.out.keep (Below.step H5.out (below_alloc _ _)))).mono ?_; rintro e w6 ⟨t, rfl, ht, hb6⟩; have H6 := Lib.hid (Below.step (Below.step H5.out (below_alloc _ _)) hb6); obtain rfl : t = ⟨#[]⟩ := bl_inj (by rw [ht, HEN.out]); clear hb6 ht m1 m2)
        | (go_at_call 12; refine (decode12 ⟨#[]⟩ _ (by decide) (HL.out.keep H6.out)).mono ?_; rw [HDC.out]; rintro e w7 ⟨rfl, hb7⟩; obtain ⟨g8, hg8⟩ : ∃ g8, w7.heap.size = g8 := ⟨_, rfl⟩; obtain ⟨W8, hW8⟩ : ∃ W8, w7.alloc (.cells (aC dc) 27) = W8 := ⟨_, rfl⟩; have H8 := Lib.hid (show Below w.heap.size w W8 from (by rw [← hW8]; exact Below.step (Below.step H6.out hb7) (below_alloc _ _))); clear hb7; have m3 := HM.out.2 W8; have m4 := conv_zeros N2 W8)
        | (go_at_call 17; refine (HS17.out _ (HL.out.keep (Below.step H8.out (below_alloc _ _))).max).mono ?_; rintro e w9 ⟨t2, rfl, ht2, hb9⟩; have H9 := Lib.hid (Below.step (Below.step H8.out (below_alloc _ _)) hb9); obtain rfl : t2 = ⟨#[]⟩ := size_zero ht2; clear hb9 ht2)
        | (go_at_call 19; refine (HS19.out _).mono ?_; rintro e wA ⟨n19, rfl, hbA⟩; have HA := Lib.hid (Below.step H9.out hbA); clear hbA))
      go_ret
      exact ⟨rfl, HA.out⟩
theorem law10b (b : UInt8) (s : ByteArray) (w : World) (hL : Laid w) : Calls Tryd.prog 10 #[.int .u8 b.toNat, .string s] w fun e w' => e = .returned (.bool true) ∧ Below w.heap.size w w' :=
  law10 _ (b.toNat % 3) (by omega) (by rw [Int.tmod_eq_emod_of_nonneg (by omega)]; omega) s w hL
end Go.Proofs.YtfbpipknhghneaaDoor
