/- bulletinlaw30.known: the examples. bulletinlaw30.CommandStuff: whatever the texts, the law returns true. -/
import Derived.Test.YtfbpipknhghneaaDoorDcA
import Derived.Test.YtfbpipknhghneaaDoorRefUn30
import Derived.Test.YtfbpipknhghneaaDoorTxA
namespace Go.Proofs.YtfbpipknhghneaaDoor
section
open Go.RowKit
def cHello : Cm := ⟨1, ⟨#[97, 98]⟩, zI, 0, 0, 7, 0, ⟨#[]⟩⟩
theorem isE (s : ByteArray) : s.toList.isEmpty = decide (s.size = 0) := by
  rw [ByteArray.toList_eq, Bool.eq_iff_iff, List.isEmpty_iff, decide_eq_true_eq, ← bl_length]
  exact List.length_eq_zero_iff.symm
theorem chk_hello : chk cHello = 0 := by
  unfold chk chkF psC
  simp only [isE]
  decide +kernel
theorem itoa7 : Lib.itoa 7 = [55] := by
  rw [show (7 : Int) = ((7 : Nat) : Int) from rfl, Lib.itoa_nonneg, Lib.decDigits, dif_pos (by decide)]
  decide
theorem words_hello : (wordsC (formC cHello).1 (formC cHello).2.1 (wdsC cHello)).map bl = [[104, 101, 108, 108, 111], [97, 98], Lib.itoa 7] := by rfl
theorem enc_hello : encT cHello = [104, 101, 108, 108, 111, 32, 97, 98, 32, 55, 13, 10] := by
  unfold encT lineC
  rw [if_neg (by rw [chk_hello]; decide), words_hello, itoa7]
  decide +kernel
def qB : List UInt8 := [113, 117, 105, 116, 13, 10, 120]
theorem dec_quit : (decL qB).1.verb = 11 ∧ (decL qB).2.1 = 6 ∧ (decL qB).2.2 = 0 := by decide +kernel
theorem stuff_ex : stE [97, 10, 46, 98] = 0 ∧ stT [97, 10, 46, 98] = [97, 13, 10, 46, 46, 98, 13, 10, 46, 13, 10] := by decide +kernel
theorem hello_ok : cHello.ok := ⟨by decide, by decide, ⟨by decide, by decide⟩, ⟨by decide, by decide⟩, ⟨by decide, by decide⟩, ⟨by decide, by decide⟩⟩
set_option maxRecDepth 100000 in
set_option maxHeartbeats 1600000 in
theorem known11 (w : World) (hL : Laid w) : Calls Tryd.prog 11 #[] w fun e w' => e = .returned (.bool true) ∧ Below w.heap.size w w' := by
  have H15 := Lib.hid (encode15 cHello w hL hello_ok)
  rw [chk_hello, enc_hello] at H15
  obtain ⟨⟨dq, nq, eq⟩, hq⟩ : ∃ r, decL qB = r := ⟨_, rfl⟩
  have hq1 := dec_quit
  rw [hq] at hq1
  obtain ⟨hv, hn, he⟩ := hq1
  simp only at hv hn he
  subst hn he
  have H12 := Lib.hid (fun w1 (hl : Laid w1) => decode12 ⟨#[113, 117, 105, 116, 13, 10, 120]⟩ w1 (by decide) hl)
  rw [show bl (⟨#[113, 117, 105, 116, 13, 10, 120]⟩ : ByteArray) = qB from rfl, hq] at H12
  have H17 := Lib.hid (fun w1 (hm : Laid1 w1) => stuff17 ⟨#[97, 10, 46, 98]⟩ w1 (by decide) hm)
  rw [show bl (⟨#[97, 10, 46, 98]⟩ : ByteArray) = [97, 10, 46, 98] from rfl, stuff_ex.1, stuff_ex.2] at H17
  have HL := Lib.hid hL
  have HV := Lib.hid hv
  clear hL hv hq
  go_enter Tryd.func11, Tryd.ntmps11
  go_wp2_with (first
    | (go_at_call 15; refine H15.out.mono ?_; rintro e w1 ⟨t, rfl, ht, hb1⟩; have h1 : (t.toList == [104, 101, 108, 108, 111, 32, 97, 98, 32, 55, 13, 10]) = true := (by rw [ByteArray.toList_eq, show t.data.toList = _ from ht]; decide); have H1 := Lib.hid hb1; clear ht hb1)
    | (go_at_call 12; refine (H12.out _ (HL.out.keep H1.out)).mono ?_; rintro e w2 ⟨rfl, hb2⟩; have c0 : (w2.alloc (.cells (aC dq) 27)).cell? ⟨w2.heap.size, 0, none⟩ = some (.int .i64 11) := (by rw [← HV.out]; exact (Row.new w2 (cC dq) 27).cell 0); have H2 := Lib.hid (And.intro hb2 c0); clear hb2 c0)
    | (go_at_call 17; refine (H17.out _ ((((HL.out.keep H1.out).keep H2.out.1).keep (below_alloc _ _)).max)).mono ?_; rintro e w3 ⟨u, rfl, hu, hb3⟩; have h3 : (u.toList == [97, 13, 10, 46, 46, 98, 13, 10, 46, 13, 10]) = true := (by rw [ByteArray.toList_eq, show u.data.toList = _ from hu]; decide); have c0 := cell_below H2.out.2 hb3; have H3 := Lib.hid hb3; clear hu hb3))
  go_ret
  exact ⟨rfl, Below.step (Below.step (Below.step H1.out H2.out.1) (below_alloc _ _)) H3.out⟩
end
section
open Go.RowKit
theorem any13 (l : List UInt8) (h : l.any (· == 13) = false) : 13 ∉ l := by
  intro hm
  have := List.any_eq_false.1 h 13 hm
  simp at this
theorem stE_zero (l : List UInt8) (h : stE l = 0) : l.length ≤ 262144 ∧ 13 ∉ l := by
  unfold stE at h
  split at h
  · cases h
  · split at h
    · cases h
    · next h1 h2 => exact ⟨by omega, any13 l (Bool.eq_false_iff.2 h2)⟩
theorem un_after (s rest : ByteArray) (h : stE (bl s) = 0) (t : ByteArray) (ht : bl t = stuffL (bl s)) : unL (bl (t ++ rest)) = (bl s, t.size, 0) := by
  obtain ⟨h1, h2⟩ := stE_zero _ h
  rw [bl_app, ht, un_stuff _ _ h2 h1, ← ht, bl_length]
/-- Five bytes of a text. -/
theorem five_eq (t : ByteArray) (j : Nat) (hj : j + 5 ≤ t.size) : bl (t.extract j (j + 5)) = ((bl t).drop j).take 5 := by
  rw [bl_seg t j (j + 5) hj]
  unfold seg
  rw [Nat.add_sub_cancel_left]
theorem last_five (s t : ByteArray) (ht : bl t = stuffL (bl s)) : 5 ≤ t.size ∧ bl (t.extract (t.size - 5) t.size) = [13, 10, 46, 13, 10] := by
  obtain ⟨u, hu⟩ := stuff_end (bl s)
  have hl : t.size = u.length + 5 := by rw [← bl_length, ht, hu, List.length_append]; rfl
  refine ⟨by omega, ?_⟩
  rw [bl_from, ht, hu, show t.size - 5 = u.length by omega, List.drop_left]
theorem stuff_le (s t : ByteArray) (hs : s.size ≤ 600) (ht : bl t = stuffL (bl s)) : t.size ≤ 2406 := by
  have h := stuffP_le 10 (bl s) []
  rw [← bl_length, ht]
  unfold stuffL
  rw [bl_length] at h
  simp only [List.length_nil] at h
  omega
set_option maxRecDepth 100000 in
set_option maxHeartbeats 3200000 in
theorem law6 (s rest : ByteArray) (w : World) (hL : Laid w) : Calls Tryd.prog 6 #[.string s, .string rest] w fun e w' => e = .returned (.bool true) ∧ Below w.heap.size w w' := by
  have HL := Lib.hid hL
  by_cases hl : 600 < s.size ∨ 300 < rest.size
  · have T0 : True := trivial
    have H1 := Lib.hid hl
    by_cases hl1 : 600 < s.size
    case' neg => have hl2 : 300 < rest.size := by omega
    all_goals
      clear hl
      go_enter Tryd.func6, Tryd.ntmps6
      go_wp2_with (first
        | (have hh := T0; clear hh T0; go_at_call 11; refine (known11 _ HL.out).mono ?_; rintro e w1 ⟨rfl, hb1⟩; have H1 := Lib.hid hb1; clear hb1)
        | (go_at_call 11; refine (known11 _ (HL.out.keep H1.out)).mono ?_; rintro e w2 ⟨rfl, hb2⟩; have H2 := Lib.hid hb2; clear hb2))
      go_ret
      exact ⟨rfl, Below.step H1.out H2.out⟩
  · have hl1 : ¬ 600 < s.size := by omega
    have hl2 : ¬ 300 < rest.size := by omega
    have H17 := Lib.hid (fun w1 (hm : Laid1 w1) => stuff17 s w1 (by omega) hm)
    have H18 := Lib.hid (fun w1 => refStuff18 s w1 (by omega))
    clear hl
    by_cases he : stE (bl s) = 0
    case neg =>
      obtain ⟨e0, he0⟩ : ∃ e0, stE (bl s) = e0 := ⟨_, rfl⟩
      rw [he0] at H17 H18 he
      have heb : (e0 != 0) = true := by simpa using he
      clear he he0
      go_enter Tryd.func6, Tryd.ntmps6
      go_wp2_with (first
        | (go_at_call 11; refine (known11 _ HL.out).mono ?_; rintro e w1 ⟨rfl, hb1⟩; have H1 := Lib.hid hb1; clear hb1)
        | (go_at_call 17; refine (H17.out _ (HL.out.keep H1.out).max).mono ?_; rintro e w2 ⟨t, rfl, ht, hb2⟩; have H2 := Lib.hid (And.intro ht hb2); clear ht hb2)
        | (go_at_call 18; refine (H18.out _).mono ?_; rintro e w3 ⟨t2, rfl, ht2, rfl⟩; obtain rfl : t2 = t := bl_inj (ht2.trans H2.out.1.symm); have hbe : (t2.toList != t2.toList) = false := (by simp); clear ht2))
      go_ret
      exact ⟨rfl, Below.step H1.out H2.out.2⟩
    · have HE := Lib.hid he
      rw [he] at H17 H18
      clear he
      go_enter Tryd.func6, Tryd.ntmps6
      go_wp2_with (first
        | (go_at_call 11; refine (known11 _ HL.out).mono ?_; rintro e w1 ⟨rfl, hb1⟩; have H1 := Lib.hid hb1; clear hb1)
        | (go_at_call 17; refine (H17.out _ (HL.out.keep H1.out).max).mono ?_; rintro e w2 ⟨t, rfl, ht, hb2⟩; have ht2 := (show bl t = stuffL (bl s) from ht.trans (by unfold stT; rw [if_pos HE.out])); have hts : t.size ≤ 2406 := stuff_le s t (by omega) ht2; obtain ⟨m, hm⟩ : ∃ m, t.size = m + 5 := (⟨t.size - 5, by have := (last_five s t ht2).1; omega⟩); have H2 := Lib.hid (And.intro ht2 (And.intro hb2 ht)); clear ht hb2 ht2)
        | (go_at_call 18; refine (H18.out _).mono ?_; rintro e w3 ⟨t2, rfl, ht2, rfl⟩; obtain rfl : t2 = t := bl_inj (ht2.trans H2.out.2.2.symm); have hbe : (t2.toList != t2.toList) = false := (by simp); have H19 := Lib.hid (fun w1 => unstuff19 (t2 ++ rest) w1 (by rw [ByteArray.size_append]; omega)); rw [un_after s rest HE.out t2 H2.out.1] at H19; clear ht2)
        | (go_at_call 19; refine (H19.out _).mono ?_; rintro e w4 ⟨u, rfl, hu, hb4⟩; obtain rfl : u = s := bl_inj hu; have hbs : (u.toList != u.toList) = false := (by simp); have H4 := Lib.hid hb4; clear hu hb4))
      go_loop [12] (fun i => ∃ j : Nat, i = .int .i64 j ∧ j ≤ m + 5) (fun i => m + 6 - (intOf i).toNat)
      case atStart => exact ⟨0, rfl, by omega⟩
      case round =>
        obtain ⟨j, rfl, hj⟩ := hrel
        by_cases hlt : j + 3 ≤ m
        · have h1 : (j : Int) + 5 ≤ (m : Int) + 2 := by omega
          have h2 : j + 5 ≤ m + 5 := by omega
          have hne : ((t2.extract j (j + 5)).toList == [13, 10, 46, 13, 10]) = false := by
            rw [ByteArray.toList_eq, show (t2.extract j (j + 5)).data.toList = ((bl t2).drop j).take 5 from five_eq t2 j (by rw [hm]; omega), H2.out.1, beq_eq_false_iff_ne]
            exact stuff_no _ (stE_zero _ HE.out).2 j (by rw [← H2.out.1, bl_length, hm]; omega)
          go_wp2
          go_round
          case rel => exact ⟨j + 1, by go_num, by omega⟩
          case measure => simp [intOf]; omega
        · have h1 : ¬ (j : Int) + 5 ≤ (m : Int) + 2 := by omega
          have hend : ((t2.extract m (m + 5)).toList == [13, 10, 46, 13, 10]) = true := by
            have h := (last_five _ t2 H2.out.1).2
            rw [hm, Nat.add_sub_cancel] at h
            rw [ByteArray.toList_eq, show (t2.extract m (m + 5)).data.toList = _ from h]
            decide
          go_wp2
          go_ret
          exact ⟨rfl, Below.step (Below.step H1.out H2.out.2.1) H4.out⟩
end
end Go.Proofs.YtfbpipknhghneaaDoor
