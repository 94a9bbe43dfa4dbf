/- The law of the round trip: parsing the text of a valid list returns the list, whatever blanks are added. -/
import Derived.Test.YtcchpenaiomeeaaRound
import Derived.Test.YtcchpenaiomeeaaLaw9
import Derived.Test.YtcchpenaiomeeaaLaw10
namespace Go.Proofs.Ytcchpenaiomeeaa
open Go.RowKit
/-- The cell of a truth value. -/
def cT (b : Bool) : List Value := [.bool b]
theorem Sl.bool {w : World} {A : Option Addr} {ys : List Bool} (h : Sl w cT A ys) {k : Nat} (hk : k < ys.length) : ∃ ad, A = some ad ∧ w.cell? (ad.add k) = some (.bool ys[k]) := by
  obtain ⟨ad, rfl, hat⟩ := Sl.at_ (enc := cT) (s := 1) (fun _ => rfl) h hk
  refine ⟨ad, rfl, ?_⟩
  have := hat.2 0 (.bool ys[k]) rfl
  rw [Nat.mul_one, show ((ad.add k).add 0) = ad.add k from by unfold Addr.add; rfl] at this
  exact this
/-- One byte as a string. -/
def oneS (c : UInt8) : ByteArray := ⟨#[c]⟩
theorem oneS_size (c : UInt8) : (oneS c).size = 1 := rfl
theorem size_lit (c : UInt8) : (⟨#[c]⟩ : ByteArray).size = 1 := rfl
theorem bl_append (a b : ByteArray) : bl (a ++ b) = bl a ++ bl b := by simp [bl]
theorem extract_one (s : ByteArray) (i : Nat) (h : i < s.size) : s.extract i (i + 1) = oneS s[i] := by
  rw [Lib.extract_eq]
  have h1 : (bl s).drop i = s[i] :: (bl s).drop (i + 1) := bl_drop s i h
  unfold oneS
  rw [show s.data.toList.drop i = s[i] :: (bl s).drop (i + 1) from h1, show i + 1 - i = 1 by omega]
  rfl
theorem take_snoc (s : ByteArray) (i : Nat) (h : i < s.size) : (bl s).take (i + 1) = (bl s).take i ++ [s[i]] := by
  rw [List.take_succ_eq_append_getElem (by rw [bl_length]; exact h)]
  rfl
theorem bl_oneS (b : ByteArray) (c : UInt8) : bl (b ++ oneS c) = bl b ++ [c] := bl_append b (oneS c)
theorem bl_pS (xs : List Id) : bl (pS xs) = printL xs := rfl
theorem bl_pad (b : ByteArray) : bl ((⟨#[32]⟩ : ByteArray) ++ b ++ (⟨#[9]⟩ : ByteArray)) = 32 :: (bl b ++ [9]) := by
  rw [bl_append, bl_append]
  rfl
set_option maxRecDepth 100000 in
set_option maxHeartbeats 6400000 in
theorem law11 (A B : Option Addr) (c d : Nat) (xs : List Id) (ys : List Bool) (w : World) (hx : Sl w cI A xs) (_hc : xs.length ≤ c) (hy : Sl w cT B ys) (_hd : ys.length ≤ d) :
    Calls Try.prog 11 #[.slice A xs.length c, .slice B ys.length d] w fun e w' => e = .returned (.bool true) ∧ Below w.heap.size w w' := by
  have HB := Lib.hid (Below.refl w.heap.size w)
  have T0 := Lib.hid trivial
  by_cases hl : 20 < xs.length
  · have h1 : (20 : Int) < (xs.length : Int) := by omega
    clear hl hx hy
    go_enter Try.func11, Try.ntmps11
    go_wp2_with (go_at_call 12; refine (known12 _).mono ?_; rintro e w1 ⟨rfl, hb1⟩; replace HB := Lib.hid (Below.step HB.out hb1); clear hb1)
    go_ret
    exact ⟨rfl, HB.out⟩
  have h1 : ¬ (20 : Int) < (xs.length : Int) := by omega
  by_cases hl2 : 40 < ys.length
  · have h2 : (40 : Int) < (ys.length : Int) := by omega
    clear hl hx hy hl2
    go_enter Try.func11, Try.ntmps11
    go_wp2_with (go_at_call 12; refine (known12 _).mono ?_; rintro e w1 ⟨rfl, hb1⟩; replace HB := Lib.hid (Below.step HB.out hb1); clear hb1)
    go_ret
    exact ⟨rfl, HB.out⟩
  have h2 : ¬ (40 : Int) < (ys.length : Int) := by omega
  by_cases hk : chk xs = 0
  case neg =>
    have q1 : (chk xs != 0) = true := by simp [hk]
    have hp : ((⟨(printE xs).1.toArray⟩ : ByteArray), (printE xs).2) = ((⟨#[]⟩ : ByteArray), chk xs) := by unfold printE; rw [if_pos hk]
    have HX := Lib.hid (And.intro hx (And.intro (show xs.length * 32 ≤ 140737488355328 by omega) hp))
    clear hp hk hl hl2 hx hy
    go_enter Try.func11, Try.ntmps11
    go_wp2_with (first
      | (go_at_call 12; have hh := T0; clear hh; refine (known12 _).mono ?_; rintro e w1 ⟨rfl, hb1⟩; replace HB := Lib.hid (Below.step HB.out hb1); clear hb1 T0; have T1 := Lib.hid trivial)
      | (go_at_call 14; have hh := T1; clear hh; refine (own14 _ _ _ xs _ rfl (HX.out.1.keep HB.out) HX.out.2.1).mono ?_; rintro e w1 ⟨AF1, nF1, cF1, rfl, hl1, hc1, hb1, ho1⟩; have F1 := Lib.hid (And.intro hl1 (And.intro hc1 ho1)); clear hl1 hc1 ho1; replace HB := Lib.hid (Below.step HB.out hb1); clear hb1 T1; have T2 := Lib.hid trivial)
      | (go_at_call 30; have hh := T2; clear hh; refine (print_p2 _ _ _ xs _ _ _ HX.out.2.2 F1.out.1 F1.out.2.2).mono ?_; rintro e w1 ⟨rfl, hb1⟩; clear F1; replace HB := Lib.hid (Below.step HB.out hb1); clear hb1 T2; have T3 := Lib.hid trivial)
      | (go_at_call 14; have hh := T3; clear hh; refine (own14 _ _ _ xs _ rfl (HX.out.1.keep HB.out) HX.out.2.1).mono ?_; rintro e w1 ⟨AF2, nF2, cF2, rfl, hl1, hc1, hb1, ho1⟩; have F2 := Lib.hid (And.intro hl1 (And.intro hc1 ho1)); clear hl1 hc1 ho1; replace HB := Lib.hid (Below.step HB.out hb1); clear hb1 T3; have T4 := Lib.hid trivial)
      | (go_at_call 25; have hh := T4; clear hh; refine (check25 _ _ _ xs _ F2.out.1 F2.out.2.2).mono ?_; rintro e w1 ⟨rfl, hb1⟩; replace HB := Lib.hid (Below.step HB.out hb1); clear hb1 T4; have T5 := Lib.hid trivial))
    go_ret
    exact ⟨rfl, HB.out⟩
  have hp : ((⟨(printE xs).1.toArray⟩ : ByteArray), (printE xs).2) = (pS xs, 0) := by unfold printE; rw [if_neg (by simp [hk])]; rfl
  have hsz := pS_size xs
  have hpp := parse_print hk
  have HX0 := Lib.hid (And.intro hx (And.intro (show xs.length * 32 ≤ 140737488355328 by omega) (And.intro hp (And.intro hk (show xs.length ≤ 20 by omega)))))
  obtain ⟨S, hS⟩ : ∃ S, pS xs = S := ⟨_, rfl⟩
  rw [hS] at hsz HX0
  have hS2 : bl S = printL xs := by rw [← hS]; rfl
  have HS := Lib.hid (And.intro hS2 (And.intro (show S.size ≤ 1440 by omega) hpp))
  have HYB := Lib.hid (And.intro hy (show ys.length ≤ 40 by omega))
  clear hp hk hl hl2 hx hy hS hS2 hpp hsz
  go_enter Try.func11, Try.ntmps11
  go_wp2_with (first
    | (go_at_call 12; refine (known12 _).mono ?_; rintro e w1 ⟨rfl, hb1⟩; replace HB := Lib.hid (Below.step HB.out hb1); clear hb1)
    | (go_at_call 14; refine (own14 _ _ _ xs _ rfl (HX0.out.1.keep HB.out) HX0.out.2.1).mono ?_; rintro e w1 ⟨AF1, nF1, cF1, rfl, hl1, hc1, hb1, ho1⟩; have F1 := Lib.hid (And.intro hl1 (And.intro hc1 ho1)); clear hl1 hc1 ho1; replace HB := Lib.hid (Below.step HB.out hb1); clear hb1)
    | (go_at_call 30; refine (print_p2 _ _ _ xs S 0 _ HX0.out.2.2.1 F1.out.1 F1.out.2.2).mono ?_; rintro e W ⟨rfl, hb1⟩; clear F1; replace HB := Lib.hid (Below.step HB.out hb1); clear hb1))
  have HX := Lib.hid (And.intro (HX0.out.1.keep HB.out) (And.intro HYB.out.2 (And.intro HS.out.2.1 (And.intro (HYB.out.1.keep HB.out) HX0.out.2.2.2))))
  go_loop [7, 8, 9] (fun m n i => ∃ (i' n' : Nat) (b : ByteArray), i' ≤ S.size ∧ n' ≤ ys.length ∧ m = .string b ∧ n = .int .i64 n' ∧ i = .int .i64 i' ∧ Ins ((bl S).take i') (bl b) ∧ b.size ≤ i' + n') (fun _ _ i => S.size - (intOf i).toNat)
  case atStart => exact ⟨0, 0, ⟨#[]⟩, Nat.zero_le _, Nat.zero_le _, rfl, rfl, rfl, Ins.nil, Nat.le_refl _⟩
  case round =>
    obtain ⟨i, n0, b0, hi, hn0, rfl, rfl, rfl, hins, hbz⟩ := hrel
    by_cases hlt : i < S.size
    · obtain ⟨c, hcS⟩ : ∃ c, S[i] = c := ⟨_, rfl⟩
      have hex : S.extract i (i + 1) = oneS c := by rw [extract_one S i hlt, hcS]
      have hi1440 : i ≤ 1440 := by have := HX.out.2.2.1; omega
      have hz1 : ¬ 9223372036854775807 < b0.size + (oneS c).size := by rw [oneS_size]; have := HX.out.2.1; omega
      have hiI : (i : Int) ≤ 1440 := by omega
      have hi1 : (i : Int) + 1 ≤ (S.size : Int) := by omega
      have HT := Lib.hid (And.intro (show (bl S).take (i + 1) = (bl S).take i ++ [c] by rw [take_snoc S i hlt, hcS]) (And.intro (show Ins ((bl S).take (i + 1)) (bl (b0 ++ oneS c)) by rw [take_snoc S i hlt, hcS, bl_oneS]; exact Ins.copy c hins) (show (b0 ++ oneS c).size ≤ i + 1 + n0 by rw [ByteArray.size_append, oneS_size]; omega)))
      clear hins hbz
      go_wp2_with fail
      clear hex hz1
      go_loop [7, 8] (fun m n => ∃ (n' : Nat) (b : ByteArray), n' ≤ ys.length ∧ m = .string b ∧ n = .int .i64 n' ∧ Ins ((bl S).take (i + 1)) (bl b) ∧ b.size ≤ i + 1 + n') (fun _ n => ys.length - (intOf n).toNat)
      case atStart => exact ⟨n0, _, hn0, rfl, rfl, HT.out.2.1, HT.out.2.2⟩
      case round =>
        obtain ⟨n, b, hn, rfl, rfl, hins, hbz⟩ := hrel
        have HI := Lib.hid (And.intro hins hbz)
        clear hins
        by_cases hcn : c.toNat = 32 ∧ n < ys.length
        · obtain ⟨hc, hn2⟩ := hcn
          have q1 : ((c.toNat : Int) == 32) = true := by rw [hc]; rfl
          obtain ⟨bd, rfl, hcell⟩ := Sl.bool HX.out.2.2.2.1 hn2
          have HY := Lib.hid hc
          have h4 : (0 : Int) ≤ (n : Int) := by omega
          have h5 : (n : Int) < (ys.length : Int) := by omega
          have hz : ¬ 9223372036854775807 < b.size + 1 := by have := HX.out.2.1; omega
          have hn40 : (n : Int) ≤ 40 := by have := HX.out.2.1; omega
          clear hc hbz
          rcases hyn : ys[n] with _ | _
          all_goals
            rw [hyn] at hcell
            by_cases h3 : (n + 1) % 3 = 0
            · have q3 : (((n : Int) + 1) % 3 == 0) = true := by rw [beq_iff_eq]; omega
              clear h3
              go_wp2
              go_round
              case rel => exact ⟨i + 1, n + 1, _, by omega, hn2, rfl, by go_num, by go_num, by rw [bl_append, HT.out.1]; exact Ins.blank c _ (by unfold blkB; simp [HY.out]) (by decide) (by have := HI.out.1; rwa [HT.out.1] at this), by have := HI.out.2; rw [ByteArray.size_append, size_lit]; omega⟩
              case measure => simp [intOf]; omega
            · have q3 : (((n : Int) + 1) % 3 == 0) = false := by rw [beq_eq_false_iff_ne]; omega
              clear h3
              go_wp2
              go_round
              case rel => exact ⟨n + 1, _, hn2, rfl, by go_num, by rw [bl_append, HT.out.1]; exact Ins.blank c _ (by unfold blkB; simp [HY.out]) (by decide) (by have := HI.out.1; rwa [HT.out.1] at this), by have := HI.out.2; rw [ByteArray.size_append, size_lit]; omega⟩
              case measure => simp [intOf]; omega
        · by_cases hc : c.toNat = 32
          all_goals
            have q1 : ((c.toNat : Int) == 32) = decide (c.toNat = 32) := beq_byte c 32
            have q2 : decide (n < ys.length) = false ∨ decide (c.toNat = 32) = false := by by_cases e : c.toNat = 32; exact .inl (by simp; omega); exact .inr (by simp [e])
            go_wp2
            go_round
            case rel => exact ⟨i + 1, n, b, by omega, hn, rfl, rfl, by go_num, HI.out.1, by have := HI.out.2; omega⟩
            case measure => simp [intOf]; omega
    · have hin : i = S.size := by omega
      subst hin
      rw [show (bl S).take S.size = bl S from by rw [← bl_length, List.take_length], HS.out.1] at hins
      have hpm := parse_more HX.out.2.2.2.2.1 hins
      rw [← bl_pad] at hpm
      have hz1 : ¬ 9223372036854775807 < 1 + b0.size := by have := HX.out.2.1; have := HX.out.2.2.1; omega
      have hz2 : ¬ 9223372036854775807 < 1 + b0.size + 1 := by have := HX.out.2.1; have := HX.out.2.2.1; omega
      have HP := Lib.hid (And.intro hpm (show ((⟨#[32]⟩ : ByteArray) ++ b0 ++ (⟨#[9]⟩ : ByteArray)).size ≤ 4294967296 by rw [ByteArray.size_append, ByteArray.size_append, show (⟨#[32]⟩ : ByteArray).size = 1 from rfl, show (⟨#[9]⟩ : ByteArray).size = 1 from rfl]; have := HX.out.2.1; have := HX.out.2.2.1; omega))
      have HPP := Lib.hid (show parseL (bl S) = (xs, 0, 0) by rw [HS.out.1]; exact HS.out.2.2)
      clear hpm hins hbz
      have U0 := Lib.hid trivial
      go_wp2_with (first
        | (go_at_call 28; have hh := U0; clear hh; refine (parse_p2 S _ xs 0 0 (by have := HS.out.2.1; omega) HPP.out).mono ?_; rintro e w1 ⟨A1, n1, c1, rfl, hl1, hc1, hb1, ho1⟩; have F1 := Lib.hid (And.intro hl1 (And.intro hc1 ho1)); replace HB := Lib.hid (Below.step HB.out hb1); clear hl1 hc1 hb1 ho1 U0; have U1 := Lib.hid trivial)
        | (go_at_call 28; have hh := U1; clear hh; refine (parse_p2 _ _ xs 0 0 HP.out.2 HP.out.1).mono ?_; rintro e w1 ⟨A2, n2, c2, rfl, hl1, hc1, hb1, ho1⟩; have F2 := Lib.hid (And.intro hl1 (And.intro hc1 ho1)); replace F1 := SlF.carry F1 hb1; replace HB := Lib.hid (Below.step HB.out hb1); clear hl1 hc1 hb1 ho1 U1; have U2 := Lib.hid trivial)
        | (go_at_call 16; have hh := U2; clear hh; refine (same16t _ _ _ _ _ _ xs _ F1.out.1 rfl F1.out.2.2 (HX0.out.1.keep HB.out) (by have := HX0.out.2.2.2.2; omega)).mono ?_; rintro e w1 ⟨rfl, hb1⟩; replace F2 := SlF.carry F2 hb1; replace HB := Lib.hid (Below.step HB.out hb1); clear hb1 U2; have U3 := Lib.hid trivial)
        | (go_at_call 16; have hh := U3; clear hh; refine (same16t _ _ _ _ _ _ xs _ F2.out.1 rfl F2.out.2.2 (HX0.out.1.keep HB.out) (by have := HX0.out.2.2.2.2; omega)).mono ?_; rintro e w1 ⟨rfl, hb1⟩; replace HB := Lib.hid (Below.step HB.out hb1); clear hb1 U3; have U4 := Lib.hid trivial))
      go_ret
      exact ⟨rfl, HB.out⟩
end Go.Proofs.Ytcchpenaiomeeaa
