/- AsciiOrder: CompareFold is antisymmetric, transitive, and 0 exactly at equality up to case. -/
import Derived.Test.YtnljplnjdbjplaaDoorLawFo
namespace Go.Proofs.YtnljplnjdbjplaaDoor
open Go.RowKit
theorem cmpB_cases : ∀ a b : List UInt8, Lib.compareBytes a b = -1 ∨ Lib.compareBytes a b = 0 ∨ Lib.compareBytes a b = 1
  | [], [] => .inr (.inl rfl)
  | [], _ :: _ => .inl rfl
  | _ :: _, [] => .inr (.inr rfl)
  | x :: r, y :: t => by
    unfold Lib.compareBytes
    have := cmpB_cases r t
    split
    · exact .inl rfl
    · split
      · exact .inr (.inr rfl)
      · exact this
theorem cmpB_flip : ∀ a b : List UInt8, Lib.compareBytes b a = -Lib.compareBytes a b
  | [], [] => rfl
  | [], _ :: _ => rfl
  | _ :: _, [] => rfl
  | x :: r, y :: t => by
    unfold Lib.compareBytes
    have := cmpB_flip r t
    by_cases h1 : x < y
    · rw [if_pos h1, if_neg (fun h => by have := UInt8.lt_iff_toNat_lt.1 h; have := UInt8.lt_iff_toNat_lt.1 h1; omega), if_pos h1]
      rfl
    · by_cases h2 : y < x
      · rw [if_pos h2, if_neg h1, if_pos h2]
      · rw [if_neg h1, if_neg h2, if_neg h2, if_neg h1, this]
theorem u8_eq {x y : UInt8} (h1 : ¬ x < y) (h2 : ¬ y < x) : x = y := UInt8.toNat_inj.1 (by rw [UInt8.lt_iff_toNat_lt] at h1 h2; omega)
theorem cmpB_zero : ∀ a b : List UInt8, Lib.compareBytes a b = 0 ↔ a = b
  | [], [] => by simp [Lib.compareBytes]
  | [], _ :: _ => by simp [Lib.compareBytes]
  | _ :: _, [] => by simp [Lib.compareBytes]
  | x :: r, y :: t => by
    unfold Lib.compareBytes
    have := cmpB_zero r t
    by_cases h1 : x < y
    · rw [if_pos h1]
      refine ⟨fun h => by omega, fun h => ?_⟩
      injection h with h _
      subst h
      have := UInt8.lt_iff_toNat_lt.1 h1
      omega
    · by_cases h2 : y < x
      · rw [if_neg h1, if_pos h2]
        refine ⟨fun h => by omega, fun h => ?_⟩
        injection h with h _
        subst h
        have := UInt8.lt_iff_toNat_lt.1 h2
        omega
      · rw [if_neg h1, if_neg h2, this, u8_eq h1 h2]
        simp
theorem cmpB_trans : ∀ a b c : List UInt8, Lib.compareBytes a b ≤ 0 → Lib.compareBytes b c ≤ 0 → Lib.compareBytes a c ≤ 0
  | [], _, [], _, _ => by simp [Lib.compareBytes]
  | [], _, _ :: _, _, _ => by simp [Lib.compareBytes]
  | _ :: _, [], _, h, _ => by simp [Lib.compareBytes] at h
  | _ :: _, _ :: _, [], _, h => by simp [Lib.compareBytes] at h
  | x :: r, y :: t, z :: q, h1, h2 => by
    unfold Lib.compareBytes at h1 h2 ⊢
    have ih := cmpB_trans r t q
    simp only [UInt8.lt_iff_toNat_lt] at *
    split at h1
    · split at h2
      · rw [if_pos (by omega)]; omega
      · split at h2
        · omega
        · rw [if_pos (by omega)]; omega
    · split at h1
      · omega
      · split at h2
        · rw [if_pos (by omega)]; omega
        · split at h2
          · omega
          · rw [if_neg (by omega), if_neg (by omega)]
            exact ih h1 h2
theorem cmpL_of (a b : ByteArray) (x : Int) (h : Lib.compareBytes (bl (lowS a)) (bl (lowS b)) = x) (ha : a.size ≤ 300) (hb : b.size ≤ 300) (w : World) :
    Calls Tryd.prog 17 #[.string a, .string b] w fun e w' => e = .returned (.int .i64 x) ∧ Below w.heap.size w w' := by
  have := compare17 a b w (by omega) (by omega)
  rwa [h] at this
theorem eqL_of (a b : ByteArray) (t : Bool) (h : (bl (lowS a) == bl (lowS b)) = t) (ha : a.size ≤ 300) (hb : b.size ≤ 300) (w : World) :
    Calls Tryd.prog 16 #[.string a, .string b] w fun e w' => e = .returned (.bool t) ∧ Below w.heap.size w w' := by
  have := equal16 a b w (by omega) (by omega)
  rwa [h] at this
set_option maxRecDepth 100000 in
set_option maxHeartbeats 3200000 in
theorem order_w (a b c A B C : ByteArray) (x y z : Int) (t : Bool) (m : Int) (w : World) (hm : Laid m w)
    (hc : (∀ w, Calls Tryd.prog 12 #[.string a] w fun e w' => e = .returned (.string A) ∧ w = w') ∧ (∀ w, Calls Tryd.prog 12 #[.string b] w fun e w' => e = .returned (.string B) ∧ w = w') ∧ (∀ w, Calls Tryd.prog 12 #[.string c] w fun e w' => e = .returned (.string C) ∧ w = w'))
    (hd : (∀ w, Calls Tryd.prog 17 #[.string A, .string B] w fun e w' => e = .returned (.int .i64 x) ∧ Below w.heap.size w w') ∧ (∀ w, Calls Tryd.prog 17 #[.string B, .string C] w fun e w' => e = .returned (.int .i64 y) ∧ Below w.heap.size w w') ∧ (∀ w, Calls Tryd.prog 17 #[.string A, .string C] w fun e w' => e = .returned (.int .i64 z) ∧ Below w.heap.size w w') ∧ (∀ w, Calls Tryd.prog 17 #[.string B, .string A] w fun e w' => e = .returned (.int .i64 (-x)) ∧ Below w.heap.size w w') ∧ (∀ w, Calls Tryd.prog 16 #[.string A, .string B] w fun e w' => e = .returned (.bool t) ∧ Below w.heap.size w w'))
    (hx : (x = -1 ∧ t = false) ∨ (x = 0 ∧ t = true) ∨ (x = 1 ∧ t = false)) (hz : x ≤ 0 → y ≤ 0 → z ≤ 0) :
    Calls Tryd.prog 4 #[.string a, .string b, .string c] w fun e w' => e = .returned (.bool true) ∧ Below w.heap.size w w' := by
  have H0 := Lib.hid hm
  have HC := Lib.hid hc
  have HD := Lib.hid hd
  clear hm hc hd
  have T1 := Lib.hid trivial
  have T2 := Lib.hid trivial
  have T3 := Lib.hid trivial
  have T4 := Lib.hid trivial
  have T5 := Lib.hid trivial
  rcases hx with ⟨rfl, rfl⟩ | ⟨rfl, rfl⟩ | ⟨rfl, rfl⟩
  · by_cases hy : y ≤ 0
    · have hz2 := hz (by omega) hy
      clear hz
      go_enter Tryd.func4, Tryd.ntmps4
      go_wp2_with (first
        | (go_at_call 12; have hh := T1; clear hh T1; refine (HC.out.1 _).mono ?_; rintro e w1 ⟨rfl, rfl⟩)
        | (go_at_call 12; have hh := T2; clear hh T2; refine (HC.out.2.1 _).mono ?_; rintro e w1 ⟨rfl, rfl⟩)
        | (go_at_call 12; refine (HC.out.2.2 _).mono ?_; rintro e w1 ⟨rfl, rfl⟩)
        | (go_at_call 17; have hh := T3; clear hh T3; refine (HD.out.1 _).mono ?_; rintro e w1 ⟨rfl, hb⟩; have H1 := Lib.hid hb; clear hb)
        | (go_at_call 17; have hh := T4; clear hh T4; refine (HD.out.2.1 _).mono ?_; rintro e w2 ⟨rfl, hb⟩; have H2 := Lib.hid (Below.step H1.out hb); clear hb)
        | (go_at_call 17; have hh := T5; clear hh T5; refine (HD.out.2.2.1 _).mono ?_; rintro e w3 ⟨rfl, hb⟩; have H3 := Lib.hid (Below.step H2.out hb); clear hb)
        | (go_at_call 17; refine (HD.out.2.2.2.1 _).mono ?_; rintro e w4 ⟨rfl, hb⟩; have H4 := Lib.hid (Below.step H3.out hb); clear hb)
        | (go_at_call 16; refine (HD.out.2.2.2.2 _).mono ?_; rintro e w5 ⟨rfl, hb⟩; have H5 := Lib.hid (Below.step H4.out hb); clear hb)
        | (go_at_call 14; refine (known_l m _ (H0.out.keep H5.out)).mono ?_; rintro e w6 ⟨rfl, hb⟩; have H6 := Lib.hid (Below.step H5.out hb); clear hb))
      go_ret
      exact ⟨rfl, H6.out⟩
    · clear hz
      go_enter Tryd.func4, Tryd.ntmps4
      go_wp2_with (first
        | (go_at_call 12; have hh := T1; clear hh T1; refine (HC.out.1 _).mono ?_; rintro e w1 ⟨rfl, rfl⟩)
        | (go_at_call 12; have hh := T2; clear hh T2; refine (HC.out.2.1 _).mono ?_; rintro e w1 ⟨rfl, rfl⟩)
        | (go_at_call 12; refine (HC.out.2.2 _).mono ?_; rintro e w1 ⟨rfl, rfl⟩)
        | (go_at_call 17; have hh := T3; clear hh T3; refine (HD.out.1 _).mono ?_; rintro e w1 ⟨rfl, hb⟩; have H1 := Lib.hid hb; clear hb)
        | (go_at_call 17; have hh := T4; clear hh T4; refine (HD.out.2.1 _).mono ?_; rintro e w2 ⟨rfl, hb⟩; have H2 := Lib.hid (Below.step H1.out hb); clear hb)
        | (go_at_call 17; have hh := T5; clear hh T5; refine (HD.out.2.2.1 _).mono ?_; rintro e w3 ⟨rfl, hb⟩; have H3 := Lib.hid (Below.step H2.out hb); clear hb)
        | (go_at_call 17; refine (HD.out.2.2.2.1 _).mono ?_; rintro e w4 ⟨rfl, hb⟩; have H4 := Lib.hid (Below.step H3.out hb); clear hb)
        | (go_at_call 16; refine (HD.out.2.2.2.2 _).mono ?_; rintro e w5 ⟨rfl, hb⟩; have H5 := Lib.hid (Below.step H4.out hb); clear hb)
        | (go_at_call 14; refine (known_l m _ (H0.out.keep H5.out)).mono ?_; rintro e w6 ⟨rfl, hb⟩; have H6 := Lib.hid (Below.step H5.out hb); clear hb))
      go_ret
      exact ⟨rfl, H6.out⟩
  · by_cases hy : y ≤ 0
    · have hz2 := hz (by omega) hy
      clear hz
      go_enter Tryd.func4, Tryd.ntmps4
      go_wp2_with (first
        | (go_at_call 12; have hh := T1; clear hh T1; refine (HC.out.1 _).mono ?_; rintro e w1 ⟨rfl, rfl⟩)
        | (go_at_call 12; have hh := T2; clear hh T2; refine (HC.out.2.1 _).mono ?_; rintro e w1 ⟨rfl, rfl⟩)
        | (go_at_call 12; refine (HC.out.2.2 _).mono ?_; rintro e w1 ⟨rfl, rfl⟩)
        | (go_at_call 17; have hh := T3; clear hh T3; refine (HD.out.1 _).mono ?_; rintro e w1 ⟨rfl, hb⟩; have H1 := Lib.hid hb; clear hb)
        | (go_at_call 17; have hh := T4; clear hh T4; refine (HD.out.2.1 _).mono ?_; rintro e w2 ⟨rfl, hb⟩; have H2 := Lib.hid (Below.step H1.out hb); clear hb)
        | (go_at_call 17; have hh := T5; clear hh T5; refine (HD.out.2.2.1 _).mono ?_; rintro e w3 ⟨rfl, hb⟩; have H3 := Lib.hid (Below.step H2.out hb); clear hb)
        | (go_at_call 17; refine (HD.out.2.2.2.1 _).mono ?_; rintro e w4 ⟨rfl, hb⟩; have H4 := Lib.hid (Below.step H3.out hb); clear hb)
        | (go_at_call 16; refine (HD.out.2.2.2.2 _).mono ?_; rintro e w5 ⟨rfl, hb⟩; have H5 := Lib.hid (Below.step H4.out hb); clear hb)
        | (go_at_call 14; refine (known_l m _ (H0.out.keep H5.out)).mono ?_; rintro e w6 ⟨rfl, hb⟩; have H6 := Lib.hid (Below.step H5.out hb); clear hb))
      go_ret
      exact ⟨rfl, H6.out⟩
    · clear hz
      go_enter Tryd.func4, Tryd.ntmps4
      go_wp2_with (first
        | (go_at_call 12; have hh := T1; clear hh T1; refine (HC.out.1 _).mono ?_; rintro e w1 ⟨rfl, rfl⟩)
        | (go_at_call 12; have hh := T2; clear hh T2; refine (HC.out.2.1 _).mono ?_; rintro e w1 ⟨rfl, rfl⟩)
        | (go_at_call 12; refine (HC.out.2.2 _).mono ?_; rintro e w1 ⟨rfl, rfl⟩)
        | (go_at_call 17; have hh := T3; clear hh T3; refine (HD.out.1 _).mono ?_; rintro e w1 ⟨rfl, hb⟩; have H1 := Lib.hid hb; clear hb)
        | (go_at_call 17; have hh := T4; clear hh T4; refine (HD.out.2.1 _).mono ?_; rintro e w2 ⟨rfl, hb⟩; have H2 := Lib.hid (Below.step H1.out hb); clear hb)
        | (go_at_call 17; have hh := T5; clear hh T5; refine (HD.out.2.2.1 _).mono ?_; rintro e w3 ⟨rfl, hb⟩; have H3 := Lib.hid (Below.step H2.out hb); clear hb)
        | (go_at_call 17; refine (HD.out.2.2.2.1 _).mono ?_; rintro e w4 ⟨rfl, hb⟩; have H4 := Lib.hid (Below.step H3.out hb); clear hb)
        | (go_at_call 16; refine (HD.out.2.2.2.2 _).mono ?_; rintro e w5 ⟨rfl, hb⟩; have H5 := Lib.hid (Below.step H4.out hb); clear hb)
        | (go_at_call 14; refine (known_l m _ (H0.out.keep H5.out)).mono ?_; rintro e w6 ⟨rfl, hb⟩; have H6 := Lib.hid (Below.step H5.out hb); clear hb))
      go_ret
      exact ⟨rfl, H6.out⟩
  · clear hz
    go_enter Tryd.func4, Tryd.ntmps4
    go_wp2_with (first
      | (go_at_call 12; have hh := T1; clear hh T1; refine (HC.out.1 _).mono ?_; rintro e w1 ⟨rfl, rfl⟩)
      | (go_at_call 12; have hh := T2; clear hh T2; refine (HC.out.2.1 _).mono ?_; rintro e w1 ⟨rfl, rfl⟩)
      | (go_at_call 12; refine (HC.out.2.2 _).mono ?_; rintro e w1 ⟨rfl, rfl⟩)
      | (go_at_call 17; have hh := T3; clear hh T3; refine (HD.out.1 _).mono ?_; rintro e w1 ⟨rfl, hb⟩; have H1 := Lib.hid hb; clear hb)
      | (go_at_call 17; have hh := T4; clear hh T4; refine (HD.out.2.1 _).mono ?_; rintro e w2 ⟨rfl, hb⟩; have H2 := Lib.hid (Below.step H1.out hb); clear hb)
      | (go_at_call 17; have hh := T5; clear hh T5; refine (HD.out.2.2.1 _).mono ?_; rintro e w3 ⟨rfl, hb⟩; have H3 := Lib.hid (Below.step H2.out hb); clear hb)
      | (go_at_call 17; refine (HD.out.2.2.2.1 _).mono ?_; rintro e w4 ⟨rfl, hb⟩; have H4 := Lib.hid (Below.step H3.out hb); clear hb)
      | (go_at_call 16; refine (HD.out.2.2.2.2 _).mono ?_; rintro e w5 ⟨rfl, hb⟩; have H5 := Lib.hid (Below.step H4.out hb); clear hb)
      | (go_at_call 14; refine (known_l m _ (H0.out.keep H5.out)).mono ?_; rintro e w6 ⟨rfl, hb⟩; have H6 := Lib.hid (Below.step H5.out hb); clear hb))
    go_ret
    exact ⟨rfl, H6.out⟩
theorem law4 (a b c : ByteArray) (m : Int) (w : World) (hm : Laid m w) :
    Calls Tryd.prog 4 #[.string a, .string b, .string c] w fun e w' => e = .returned (.bool true) ∧ Below w.heap.size w w' := by
  have ha := cutS_size a
  have hb := cutS_size b
  have hc := cutS_size c
  refine order_w a b c (cutS a) (cutS b) (cutS c) _ _ _ _ m w hm ⟨cut12 a, cut12 b, cut12 c⟩ ⟨cmpL_of _ _ _ rfl ha hb, cmpL_of _ _ _ rfl hb hc, cmpL_of _ _ _ rfl ha hc, cmpL_of _ _ _ (cmpB_flip _ _) hb ha, eqL_of _ _ _ rfl ha hb⟩ ?_ (fun h1 h2 => cmpB_trans _ _ _ h1 h2)
  have h0 := cmpB_zero (bl (lowS (cutS a))) (bl (lowS (cutS b)))
  rcases cmpB_cases (bl (lowS (cutS a))) (bl (lowS (cutS b))) with h | h | h
  · exact .inl ⟨h, by rw [beq_eq_false_iff_ne]; intro e; have := h0.2 e; omega⟩
  · exact .inr (.inl ⟨h, by rw [h0.1 h]; simp⟩)
  · exact .inr (.inr ⟨h, by rw [beq_eq_false_iff_ne]; intro e; have := h0.2 e; omega⟩)
end Go.Proofs.YtnljplnjdbjplaaDoor
