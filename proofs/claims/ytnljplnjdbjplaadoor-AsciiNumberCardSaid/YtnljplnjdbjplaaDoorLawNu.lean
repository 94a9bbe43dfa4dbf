/- AsciiDigits and AsciiNumber. -/
import Derived.Test.YtnljplnjdbjplaaDoorRefNu
namespace Go.Proofs.YtnljplnjdbjplaaDoor
open Go.RowKit
theorem digits_s (n : Int) (h0 : -9223372036854775808 ≤ n) (h1 : n ≤ 9223372036854775807) (m : Int) (w : World) (hm : Laid m w) :
    Calls Tryd.prog 28 #[.int .i64 n] w fun e w' => e = .returned (.string (itS n)) ∧ Below w.heap.size w w' := digits28 n h0 h1 w hm.2
theorem bl_itS (n : Int) : bl (itS n) = Lib.itoa n := bl_mkS _
theorem itS_size (n : Int) (h0 : -9223372036854775808 ≤ n) (h1 : n ≤ 9223372036854775807) : (itS n).size ≤ 21 := by
  rw [← bl_length, bl_itS]
  unfold Lib.itoa
  split
  · have := dec_len 19 n.natAbs (by omega)
    rw [List.length_cons]
    omega
  · have := dec_len 19 n.toNat (by omega)
    omega
theorem num_itS (n : Int) (h1 : n ≤ 9223372036854775807) : numE (bl (itS n)) 9223372036854775807 = if n < 0 then (0, 3) else (n, 0) := by
  rw [bl_itS]
  by_cases hn : n < 0
  · rw [if_pos hn]
    refine numE_no _ _ fun h => ?_
    have := h.2.1
    unfold Lib.itoa at this
    rw [if_pos hn, List.all_cons] at this
    exact absurd this (by simp [digB])
  · rw [if_neg hn]
    obtain ⟨u, rfl⟩ : ∃ u : Nat, n = (u : Int) := ⟨n.toNat, by omega⟩
    rw [show Lib.itoa (u : Int) = Lib.decDigits u by unfold Lib.itoa; rw [if_neg hn]; rfl, numE_yes _ _ (dec_valid u), dec_val, if_pos h1]
set_option maxRecDepth 100000 in
set_option maxHeartbeats 3200000 in
theorem law7 (n : Int) (h0 : -9223372036854775808 ≤ n) (h1 : n ≤ 9223372036854775807) (m : Int) (w : World) (hm : Laid m w) :
    Calls Tryd.prog 7 #[.int .i64 n] w fun e w' => e = .returned (.bool true) ∧ Below w.heap.size w w' := by
  have hnum := num_itS n h1
  have hsz := itS_size n h0 h1
  have hd := fun m w h => digits_s n h0 h1 m w h
  have hr := refDigits30 n h0 h1
  obtain ⟨S, hS⟩ : ∃ S, itS n = S := ⟨_, rfl⟩
  rw [hS] at hnum hsz hd hr
  clear hS
  by_cases hn : n < 0
  · rw [if_pos hn] at hnum
    have HH := Lib.hid (And.intro hm (And.intro hd (And.intro hr (fun w => number29 S 9223372036854775807 (by decide) (by decide) (0, 3) hnum w (by omega)))))
    clear hm hd hr hnum
    go_enter Tryd.func7, Tryd.ntmps7
    go_wp2_with (first
      | (go_at_call 28; refine (HH.out.2.1 m _ HH.out.1).mono ?_; rintro e w1 ⟨rfl, hb⟩; have H1 := Lib.hid hb; clear hb)
      | (go_at_call 29; refine (HH.out.2.2.2 _).mono ?_; rintro e w2 ⟨rfl, rfl⟩)
      | (go_at_call 30; refine (HH.out.2.2.1 _).mono ?_; rintro e w3 ⟨rfl, hb⟩; have H3 := Lib.hid (Below.step H1.out hb); clear hb)
      | (go_at_call 14; refine (known_l m _ (HH.out.1.keep H3.out)).mono ?_; rintro e w4 ⟨rfl, hb⟩; have H4 := Lib.hid (Below.step H3.out hb); clear hb))
    go_ret
    exact ⟨rfl, H4.out⟩
  · rw [if_neg hn] at hnum
    have HH := Lib.hid (And.intro hm (And.intro hd (And.intro hr (fun w => number29 S 9223372036854775807 (by decide) (by decide) (n, 0) hnum w (by omega)))))
    clear hm hd hr hnum
    go_enter Tryd.func7, Tryd.ntmps7
    go_wp2_with (first
      | (go_at_call 28; refine (HH.out.2.1 m _ HH.out.1).mono ?_; rintro e w1 ⟨rfl, hb⟩; have H1 := Lib.hid hb; clear hb)
      | (go_at_call 29; refine (HH.out.2.2.2 _).mono ?_; rintro e w2 ⟨rfl, rfl⟩)
      | (go_at_call 30; refine (HH.out.2.2.1 _).mono ?_; rintro e w3 ⟨rfl, hb⟩; have H3 := Lib.hid (Below.step H1.out hb); clear hb)
      | (go_at_call 14; refine (known_l m _ (HH.out.1.keep H3.out)).mono ?_; rintro e w4 ⟨rfl, hb⟩; have H4 := Lib.hid (Below.step H3.out hb); clear hb))
    go_ret
    exact ⟨rfl, H4.out⟩
theorem num_back (s : ByteArray) (h : Valid (bl s)) : itS (numV (bl s) 0) = s := by
  have h0 := numV_ge (bl s) 0 h.2.1 (Int.le_refl _)
  have h1 := val_dec (bl s) h
  obtain ⟨u, hu⟩ : ∃ u : Nat, numV (bl s) 0 = (u : Int) := ⟨(numV (bl s) 0).toNat, by omega⟩
  rw [hu] at h1 ⊢
  rw [itS_pos, decS]
  rw [show ((u : Int)).toNat = u by omega] at h1
  rw [h1, mkS_bl]
set_option maxRecDepth 100000 in
set_option maxHeartbeats 3200000 in
theorem law8 (s : ByteArray) (most : Int) (hm0 : -9223372036854775808 ≤ most) (hm1 : most ≤ 9223372036854775807) (m : Int) (w : World) (hm : Laid m w) :
    Calls Tryd.prog 8 #[.string s, .int .i64 most] w fun e w' => e = .returned (.bool true) ∧ Below w.heap.size w w' := by
  obtain ⟨B, hB⟩ : ∃ B, cutS s = B := ⟨_, rfl⟩
  have hsz := cutS_size s
  have hcut := fun w => cut12 s w
  rw [hB] at hsz hcut
  clear hB
  have hfork : (∃ v, numE (bl B) most = (v, 0) ∧ itS v = B ∧ 0 ≤ v ∧ v ≤ most) ∨ ∃ c, (c = 2 ∨ c = 3) ∧ numE (bl B) most = (0, c) := by
    by_cases hv : Valid (bl B)
    · rw [numE_yes _ _ hv]
      by_cases hle : numV (bl B) 0 ≤ most
      · rw [if_pos hle]
        exact .inl ⟨_, rfl, num_back B hv, numV_ge (bl B) 0 hv.2.1 (Int.le_refl _), hle⟩
      · rw [if_neg hle]
        exact .inr ⟨2, .inl rfl, rfl⟩
    · rw [numE_no _ _ hv]
      exact .inr ⟨3, .inr rfl, rfl⟩
  rcases hfork with ⟨v, hnum, hback, hv0, hv1⟩ | ⟨c, hc, hnum⟩
  · have hdig := fun w h => digits_s v (by omega) (by omega) m w h
    rw [hback] at hdig
    have HH := Lib.hid (And.intro hm (And.intro hcut (And.intro (fun w => number29 B most hm0 hm1 (v, 0) hnum w (by omega)) (And.intro (fun w => refNumber31 B most hm0 hm1 (v, 0) hnum w (by omega)) hdig))))
    clear hm hcut hnum hback hdig
    go_enter Tryd.func8, Tryd.ntmps8
    go_wp2_with (first
      | (go_at_call 12; refine (HH.out.2.1 _).mono ?_; rintro e w1 ⟨rfl, rfl⟩)
      | (go_at_call 29; refine (HH.out.2.2.1 _).mono ?_; rintro e w2 ⟨rfl, rfl⟩)
      | (go_at_call 31; refine (HH.out.2.2.2.1 _).mono ?_; rintro e w2 ⟨rfl, rfl⟩)
      | (go_at_call 14; refine (known_l m _ HH.out.1).mono ?_; rintro e w4 ⟨rfl, hb⟩; have H4 := Lib.hid hb; clear hb)
      | (go_at_call 28; refine (HH.out.2.2.2.2 _ (HH.out.1.keep H4.out)).mono ?_; rintro e w5 ⟨rfl, hb⟩; have H5 := Lib.hid (Below.step H4.out hb); clear hb))
    go_ret
    exact ⟨rfl, H5.out⟩
  · have HH := Lib.hid (And.intro hm (And.intro hcut (And.intro (fun w => number29 B most hm0 hm1 (0, c) hnum w (by omega)) (fun w => refNumber31 B most hm0 hm1 (0, c) hnum w (by omega)))))
    clear hm hcut hnum
    rcases hc with rfl | rfl
    all_goals
      go_enter Tryd.func8, Tryd.ntmps8
      go_wp2_with (first
        | (go_at_call 12; refine (HH.out.2.1 _).mono ?_; rintro e w1 ⟨rfl, rfl⟩)
        | (go_at_call 29; refine (HH.out.2.2.1 _).mono ?_; rintro e w2 ⟨rfl, rfl⟩)
        | (go_at_call 31; refine (HH.out.2.2.2 _).mono ?_; rintro e w2 ⟨rfl, rfl⟩)
        | (go_at_call 14; refine (known_l m _ HH.out.1).mono ?_; rintro e w4 ⟨rfl, hb⟩; have H4 := Lib.hid hb; clear hb))
      go_ret
      exact ⟨rfl, H4.out⟩
end Go.Proofs.YtnljplnjdbjplaaDoor
