/- date: the scanner: blanks that are passed over, numbers. -/
import Derived.Test.YtibelollgdnidaaGreatDoorMDs2
namespace Go.Proofs.YtibelollgdnidaaGreatDoor
open Go.RowKit
def atOf (w : World) (b : Nat) : Nat := (intOf ((w.cell? ⟨b, 1, none⟩).getD undef)).toNat
theorem ScR.atOf {w : World} {b i : Nat} {s : ByteArray} (h : ScR w b s i) : atOf w b = i := by
 unfold Go.Proofs.YtibelollgdnidaaGreatDoor.atOf
 rw [show w.cell? ⟨b, 1, none⟩ = some (.int .i64 (i : Int)) from h.cell 1]
 simp [intOf]
section
set_option maxRecDepth 100000
theorem skip_blank (w : World) (b : Nat) (s : ByteArray) (i k : Nat) (h : ScR w b s i) (hk : ∀ j (hj : j < s.size), i ≤ j → j < i + k → blC s[j] = true) (hi : i + k < s.size) (hn : blC s[i + k] = false) (hs : s.size ≤ 1000) : Calls Tryz.prog 153 #[.pointer (some ⟨b, 0, none⟩), .func (.func 154) #[] #[]] w fun e w' => e = .returned (.tuple #[]) ∧ ScR w' b s (i + k) ∧ One b w w' := by
 have H := Lib.hid h
 have HK := Lib.hid (And.intro hk hn)
 clear h hk hn
 go_enter Tryz.func153, Tryz.ntmps153
 go_wp2
 go_loopw [4] (fun _ wr => ∃ j : Nat, j ≤ k ∧ ScR wr b s (i + j) ∧ One b w wr) (fun _ wr => i + k + 1 - atOf wr b)
 case atStart => exact ⟨0, Nat.zero_le _, H.out, One.refl⟩
 case round =>
  obtain ⟨j, hj, hsc, ho⟩ := hrel
  have HS := Lib.hid (And.intro hsc ho)
  have hat := hsc.atOf
  have HAT := Lib.hid hat
  clear hsc ho hat
  have hlt : i + j < s.size := by omega
  obtain ⟨c, hc⟩ : ∃ c : UInt8, s[i + j]'hlt = c := ⟨_, rfl⟩
  have HC := Lib.hid hc
  clear hc
  by_cases hjk : j < k
  ·go_wp2_with (go_at_call 148; refine (sees_blank wr b s (i + j) c HS.out.1 hlt HC.out true (by rw [← HC.out]; exact HK.out.1 (i + j) hlt (by omega) (by omega))).mono ?_; rintro e w2 ⟨rfl, hb2⟩; have r2 := Row.keep HS.out.1 hb2; have c1 : w2.cell? ⟨b, 1, none⟩ = some (.int .i64 ((i + j : Nat) : Int)) := r2.cell 1; have f1 := r2.fz 1; have R2 := Lib.hid (And.intro r2 (One.trans HS.out.2 (One.of_below hb2))); clear r2 hb2)
   have e2 : (i : Int) + (j : Int) + 1 = ((i + (j + 1) : Nat) : Int) := by omega
   rw [e2]
   have r3 : ScR (w2.setCell ⟨b, 1, none⟩ (.int .i64 ((i + (j + 1) : Nat) : Int))) b s (i + (j + 1)) := R2.out.1.set 1 _
   refine ⟨⟨j + 1, hjk, r3, R2.out.2.trans (One.set 1 _)⟩, ?_⟩
   rw [r3.atOf, HAT.out]
   omega
  ·obtain rfl : j = k := by omega
   go_wp2_with (go_at_call 148; refine (sees_blank wr b s (i + j) c HS.out.1 hlt HC.out false (by rw [← HC.out]; exact HK.out.2)).mono ?_; rintro e w2 ⟨rfl, hb2⟩; have R2 := Lib.hid (And.intro (Row.keep HS.out.1 hb2) (One.trans HS.out.2 (One.of_below hb2))); clear hb2)
   go_end0
   exact ⟨rfl, R2.out.1, R2.out.2⟩
theorem blanks156 (w : World) (b : Nat) (s : ByteArray) (i : Nat) (h : ScR w b s i) (hi : i + 1 < s.size) (h0 : blC s[i] = true) (hn : blC s[i + 1] = false) (hs : s.size ≤ 1000) : Calls Tryz.prog 156 #[.pointer (some ⟨b, 0, none⟩)] w fun e w' => e = .returned (.tuple #[]) ∧ ScR w' b s (i + 1) ∧ One b w w' := by
 have H := Lib.hid (And.intro h (And.intro h0 hn))
 clear h h0 hn
 go_enter Tryz.func156, Tryz.ntmps156
 go_wp2_with (first
  | (go_at_call 151; refine (need_blank w b s i _ H.out.1 (by omega) rfl hs H.out.2.1).mono ?_; rintro e w2 ⟨rfl, h2, ho2⟩; have H2 := Lib.hid (And.intro h2 ho2); clear h2 ho2)
  | (go_at_call 153; refine (skip_blank w2 b s (i + 1) 0 H2.out.1 (fun j _ h1 h2 => by omega) (by omega) H.out.2.2 hs).mono ?_; rintro e w3 ⟨rfl, h3, ho3⟩; have H3 := Lib.hid (And.intro h3 (H2.out.2.trans ho3)); clear h3 ho3))
 go_end0
 exact ⟨rfl, H3.out⟩
end
def valD (s : ByteArray) (i : Nat) : Nat → Nat
 | 0 => 0
 | k + 1 => 10 * valD s i k + ((bl s)[i + k]?.getD 0).toNat - 48
structure DgAt (s : ByteArray) (i d : Nat) : Prop where
 lt : i + d ≤ s.size
 dig : ∀ j (hj : j < s.size), i ≤ j → j < i + d → dgC s[j] = true
theorem DgAt.at {s : ByteArray} {i d k : Nat} (h : DgAt s i d) (hk : k < d) : ∃ (hl : i + k < s.size), dgC s[i + k] = true ∧ ((bl s)[i + k]?.getD 0) = s[i + k] ∧ 48 ≤ s[i + k].toNat ∧ s[i + k].toNat ≤ 57 := by
 have hl : i + k < s.size := by have := h.lt; omega
 have hd := h.dig (i + k) hl (by omega) (by omega)
 refine ⟨hl, hd, ?_, (of_decide_eq_true hd).1, (of_decide_eq_true hd).2⟩
 unfold bl
 rw [Array.getElem?_toList, Array.getElem?_eq_getElem (by exact hl)]
 rfl
theorem valD_le (s : ByteArray) (i d : Nat) (h : DgAt s i d) : ∀ k, k ≤ d → valD s i k < 10 ^ k := by
 intro k
 induction k with
 | zero => intro _; exact Nat.zero_lt_one
 | succ k ih =>
  intro hk
  obtain ⟨hl, h1, h2, h3, h4⟩ := h.at (k := k) (by omega)
  have := ih (by omega)
  show 10 * valD s i k + ((bl s)[i + k]?.getD 0).toNat - 48 < 10 ^ (k + 1)
  rw [h2, Nat.pow_succ]
  omega
set_option maxRecDepth 100000 in
set_option maxHeartbeats 800000 in
theorem number155 (w : World) (b : Nat) (s : ByteArray) (i d m : Nat) (h : ScR w b s i) (hd : DgAt s i (d + m)) (hm : d + m ≤ 4) (hs : s.size ≤ 1000) : Calls Tryz.prog 155 #[.pointer (some ⟨b, 0, none⟩), .int .i64 (d : Int), .int .i64 (m : Int)] w fun e w' => e = .returned (.tuple #[.int .i64 (i : Int), .int .i64 (valD s i (d + m) : Int)]) ∧ ScR w' b s (i + (d + m)) ∧ One b w w' := by
 have c1 : w.cell? ⟨b, 1, none⟩ = some (.int .i64 (i : Int)) := h.cell 1
 have H := Lib.hid h
 have HD := Lib.hid hd
 clear h hd
 go_enter Tryz.func155, Tryz.ntmps155
 go_wp2
 go_loopw [7, 13] (fun v c wr => ∃ k : Nat, k ≤ d ∧ c = .int .i64 (k : Int) ∧ v = .int .i64 (valD s i k : Int) ∧ ScR wr b s (i + k) ∧ One b w wr) (fun _ c _ => d - (intOf c).toNat)
 case atStart => exact ⟨0, Nat.zero_le _, rfl, rfl, H.out, One.refl⟩
 case round =>
  obtain ⟨k, hk, rfl, rfl, hsc, ho⟩ := hrel
  have HS := Lib.hid (And.intro hsc ho)
  clear hsc ho
  have hvl := valD_le s i (d + m) HD.out k (by omega)
  have hv4 : valD s i k < 10000 := Nat.lt_of_lt_of_le hvl (Nat.pow_le_pow_right (by decide) (show k ≤ 4 by omega))
  clear hvl
  obtain ⟨V, hV⟩ : ∃ V, valD s i k = V := ⟨_, rfl⟩
  have HV := Lib.hid hV
  rw [hV] at hv4 ⊢
  clear hV
  by_cases hkd : k < d
  ·have hki : (k : Int) < (d : Int) := by omega
   obtain ⟨hl, q1, q2, q3, q4⟩ := HD.out.at (k := k) (by omega)
   obtain ⟨c, hc⟩ : ∃ c : UInt8, s[i + k]'hl = c := ⟨_, rfl⟩
   rw [hc] at q1 q2 q3 q4
   have HC := Lib.hid (And.intro hc (And.intro q1 q2))
   have q3i : 48 ≤ (c.toNat : Int) := by omega
   have q4i : (c.toNat : Int) ≤ 57 := by omega
   have hVi : (V : Int) < 10000 := by omega
   clear hc q1 q2 q3 q4
   go_wp2_with (go_at_call 151; refine (need_digit wr b s (i + k) c HS.out.1 hl HC.out.1 hs HC.out.2.1).mono ?_; rintro e w2 ⟨rfl, h2, ho2⟩; have H2 := Lib.hid (And.intro h2 (HS.out.2.trans ho2)); clear h2 ho2)
   go_roundw
   case rel =>
    refine ⟨k + 1, hkd, by go_num, ?_, H2.out.1, H2.out.2⟩
    have e1 : valD s i (k + 1) = 10 * V + c.toNat - 48 := by
     show 10 * valD s i k + ((bl s)[i + k]?.getD 0).toNat - 48 = _
     rw [HC.out.2.2, HV.out]
    rw [e1]
    congr 1
    omega
   case measure => simp [intOf]; omega
  ·obtain rfl : k = d := by omega
   go_wp2
   obtain ⟨wo, rfl⟩ : ∃ x, x = wr := ⟨_, rfl⟩
   go_loopw [2, 7] (fun mv v wr => ∃ q : Nat, q ≤ m ∧ mv = .int .i64 ((m - q : Nat) : Int) ∧ v = .int .i64 (valD s i (k + q) : Int) ∧ ScR wr b s (i + (k + q)) ∧ One b w wr) (fun mv _ _ => (intOf mv).toNat)
   case atStart => exact ⟨0, Nat.zero_le _, rfl, by rw [← HV.out]; rfl, HS.out.1, HS.out.2⟩
   case round =>
    obtain ⟨q, hq, rfl, rfl, hsc, ho⟩ := hrel
    clear HS
    have HS := Lib.hid (And.intro hsc ho)
    clear hsc ho
    have hvl := valD_le s i (k + m) HD.out (k + q) (by omega)
    have hv5 : valD s i (k + q) < 10000 := Nat.lt_of_lt_of_le hvl (Nat.pow_le_pow_right (by decide) (show k + q ≤ 4 by omega))
    clear hvl
    obtain ⟨U, hU⟩ : ∃ U, valD s i (k + q) = U := ⟨_, rfl⟩
    have HU := Lib.hid hU
    rw [hU] at hv5 ⊢
    clear hU
    obtain ⟨z, hz⟩ : ∃ z : Nat, m - q = z := ⟨_, rfl⟩
    rw [hz]
    have HZ := Lib.hid hz
    clear hz
    have hz4 : (z : Int) ≤ 4 := by have := HZ.out; omega
    by_cases hqm : q < m
    ·have hz0 : 0 < (z : Int) := by have := HZ.out; omega
     obtain ⟨hl, q1, q2, q3, q4⟩ := HD.out.at (k := k + q) (by omega)
     obtain ⟨c, hc⟩ : ∃ c : UInt8, s[i + (k + q)]'hl = c := ⟨_, rfl⟩
     rw [hc] at q1 q2 q3 q4
     have HC := Lib.hid (And.intro hc (And.intro q1 q2))
     have q3i : 48 ≤ (c.toNat : Int) := by omega
     have q4i : (c.toNat : Int) ≤ 57 := by omega
     have hUi : (U : Int) < 10000 := by omega
     clear hc q1 q2 q3 q4
     go_wp2_with (first
      | (go_at_call 148; refine (sees_digit wr b s (i + (k + q)) c HS.out.1 hl HC.out.1 true HC.out.2.1).mono ?_; rintro e w2 ⟨rfl, hb2⟩; have H2 := Lib.hid (And.intro (Row.keep HS.out.1 hb2) (One.trans HS.out.2 (One.of_below hb2))); clear hb2)
      | (go_at_call 151; refine (need_digit w2 b s (i + (k + q)) c H2.out.1 hl HC.out.1 hs HC.out.2.1).mono ?_; rintro e w3 ⟨rfl, h3, ho3⟩; have H3 := Lib.hid (And.intro h3 (H2.out.2.trans ho3)); clear h3 ho3))
     go_roundw
     case rel =>
      refine ⟨q + 1, hqm, ?_, ?_, H3.out.1, H3.out.2⟩
      ·have := HZ.out
       congr 1
       omega
      ·have e1 : valD s i (k + (q + 1)) = 10 * U + c.toNat - 48 := by
        show 10 * valD s i (k + q) + ((bl s)[i + (k + q)]?.getD 0).toNat - 48 = _
        rw [HC.out.2.2, HU.out]
       rw [e1]
       congr 1
       omega
     case measure => simp [intOf]; omega
    ·obtain rfl : q = m := by omega
     have hz0 : ¬ 0 < (z : Int) := by have := HZ.out; omega
     go_wp2
     go_ret2
     exact ⟨by rw [HU.out]; rfl, HS.out⟩
end Go.Proofs.YtibelollgdnidaaGreatDoor
