/- The reference's Unstuff. -/
import Derived.Test.YtfbpipknhghneaaGreatDoorTxB
namespace Go.Proofs.YtfbpipknhghneaaGreatDoor
open Go.RowKit
/-- The byte ahead of m, in a line that begins at n. -/
def prevN (s : ByteArray) (n m : Nat) : UInt8 := if h : n < m ∧ m ≤ s.size then s[m - 1]'(by omega) else 0
theorem prevN_self (s : ByteArray) (n : Nat) : prevN s n n = 0 := by unfold prevN; rw [dif_neg (by omega)]
theorem prevN_succ (s : ByteArray) (n j : Nat) (h : n ≤ j) (hj : j < s.size) : prevN s n (j + 1) = s[j] := by unfold prevN; rw [dif_pos ⟨by omega, by omega⟩]; rfl
theorem flN_step (s : ByteArray) (n m : Nat) (hn : n ≤ m) (h : m < s.size) : flGo (prevN s n m) ((bl s).drop m) (m - n) =
    if s[m] = 13 then (if (h2 : m + 1 < s.size) → s[m + 1] = 10 then flGo (prevN s n (m + 1)) ((bl s).drop (m + 1)) (m + 1 - n) else (6, 0))
    else if s[m] = 10 then (if prevN s n m = 13 then (0, m - n) else (6, 0)) else flGo (prevN s n (m + 1)) ((bl s).drop (m + 1)) (m + 1 - n) := by
  rw [prevN_succ s n m hn h, bl_drop s m h, flGo, show m + 1 - n = m - n + 1 by omega]
  by_cases h13 : s[m] = 13
  · rw [if_pos h13, if_pos h13]
    by_cases h2 : m + 1 < s.size
    · rw [bl_drop s (m + 1) h2]
      by_cases h10 : s[m + 1] = 10
      · rw [if_neg (by simp [h10]), if_pos (fun _ => h10), h13]
      · rw [if_pos (by simp [h10]), if_neg (fun hh => h10 (hh h2))]
    · rw [List.drop_eq_nil_of_le (by rw [bl_length]; omega), if_neg (by simp), if_pos (fun hh => absurd hh h2), h13]
  · rw [if_neg h13, if_neg h13]
theorem flN_end (s : ByteArray) (n m : Nat) (h : s.size ≤ m) : flGo (prevN s n m) ((bl s).drop m) (m - n) = (4, 0) := by
  rw [List.drop_eq_nil_of_le (by rw [bl_length]; exact h)]; rfl
theorem byte_eq (s : ByteArray) (j : Nat) (h : j < s.size) (c : UInt8) : (((s[j].toNat : Nat) : Int) == ((c.toNat : Nat) : Int)) = (s[j] == c) := by
  rw [Bool.eq_iff_iff]; simp only [beq_iff_eq, Int.natCast_inj]; exact ⟨UInt8.toNat_inj.1, fun h => by rw [h]⟩
theorem byte_ne (s : ByteArray) (j : Nat) (h : j < s.size) (c : UInt8) : (((s[j].toNat : Nat) : Int) != ((c.toNat : Nat) : Int)) = (s[j] != c) := by
  unfold bne
  rw [byte_eq]
def RefInv (s : ByteArray) (t f i : Value) : Prop :=
  ∃ (n fuel : Nat) (first : Bool) (t' : ByteArray), n ≤ s.size ∧ t = .string t' ∧ f = .bool first ∧ i = .int .i64 n ∧ s.size - n < fuel ∧ t'.size ≤ 262144 ∧ unGo fuel first (bl t') n ((bl s).drop n) = unL (bl s)
set_option maxRecDepth 100000 in
set_option maxHeartbeats 12800000 in
theorem refUnstuff20 (s : ByteArray) (w : World) (hs : s.size ≤ 1000000) :
    Calls Tryz.prog 31 #[.string s] w fun e w' => ∃ t, e = .returned (.tuple #[.string t, .int .i64 (unL (bl s)).2.1, .int .i64 (unL (bl s)).2.2]) ∧ bl t = (unL (bl s)).1 ∧ w' = w := by
  go_enter Tryz.func31, Tryz.ntmps31
  go_wp2
  go_loop [5, 6, 7] (fun t f i => RefInv s t f i) (fun _ _ i => s.size - (intOf i).toNat)
  case atStart => exact ⟨0, s.size + 1, true, ⟨#[]⟩, Nat.zero_le _, rfl, rfl, rfl, by omega, by decide, by unfold unL; rw [bl_length]; rfl⟩
  case round =>
    obtain ⟨n, fuel, first, t, hn, rfl, rfl, rfl, hf, ht, hu⟩ := hrel
    obtain ⟨f, rfl⟩ : ∃ f, fuel = f + 1 := ⟨fuel - 1, by omega⟩
    have HU := Lib.hid (And.intro hu hf)
    clear hu hf
    go_wp2
    go_loop [8] (fun x => ∃ m : Nat, n ≤ m ∧ m ≤ s.size ∧ x = .int .i64 m ∧ flGo 0 ((bl s).drop n) 0 = flGo (prevN s n m) ((bl s).drop m) (m - n)) (fun x => s.size - (intOf x).toNat)
    case atStart => exact ⟨n, Nat.le_refl _, hn, rfl, by rw [prevN_self, Nat.sub_self]⟩
    case round =>
      obtain ⟨m, hnm, hm, rfl, hfl⟩ := hrel
      have HF := Lib.hid hfl
      clear hfl
      by_cases hlt : m < s.size
      · have HS := Lib.hid (HF.out.trans (flN_step s n m hnm hlt))
        by_cases h10 : s[m] = 10
        · have e10 : (((s[m].toNat : Nat) : Int) != 10) = false := (byte_ne s m hlt 10).trans (by simp [h10])
          have H10 := Lib.hid h10
          have hms : ((m : Int) == (s.size : Int)) = false := by simp only [beq_eq_false_iff_ne]; omega
          clear h10
          by_cases hmn : m = n
          · have hx : flGo 0 ((bl s).drop n) 0 = (6, 0) := by rw [HS.out, if_neg (by rw [H10.out]; decide), if_pos H10.out, if_neg (by subst hmn; rw [prevN_self]; decide)]
            have HX := Lib.hid (HU.out.1.symm.trans (unGo_err f first _ n _ 6 0 hx (by decide)))
            have hmn2 : ((m : Int) == (n : Int)) = true := by simp [hmn]
            clear hx hmn
            go_wp2
            go_ret3
            rw [HX.out]
            exact ⟨⟨#[]⟩, rfl, rfl, rfl⟩
          · have hmn2 : ((m : Int) == (n : Int)) = false := by simp only [beq_eq_false_iff_ne]; omega
            obtain ⟨j, rfl⟩ : ∃ j, m = j + 1 := ⟨m - 1, by omega⟩
            have hj : j < s.size := by omega
            by_cases h13 : s[j] = 13
            · have e13 : (((s[j].toNat : Nat) : Int) != 13) = false := (byte_ne s j hj 13).trans (by simp [h13])
              obtain ⟨z, rfl⟩ : ∃ z, j = n + z := ⟨j - n, by omega⟩
              have hx : flGo 0 ((bl s).drop n) 0 = (0, z + 1) := by rw [HS.out, if_neg (by rw [H10.out]; decide), if_pos H10.out, if_pos (by rw [prevN_succ s n _ (by omega) hj]; exact h13)]; congr 1; omega
              obtain ⟨_, _, hbL⟩ := line_of s n (z + 1) hn hx
              rw [show n + (z + 1) - 1 = n + z by omega] at hbL
              have hsz : (s.extract n (n + z)).size = z := by rw [ByteArray.size_extract]; omega
              obtain ⟨L, hL⟩ : ∃ L, s.extract n (n + z) = L := ⟨_, rfl⟩
              rw [hL] at hbL hsz
              have HK := Lib.hid (And.intro hx (And.intro hbL HU.out.1))
              have hdot := dot_eq L
              clear h13 hx hbL
              by_cases hd : bl L = [46]
              · rw [decide_eq_true hd] at hdot
                have HX := Lib.hid (un_dot HK.out.1 HK.out.2.1 HK.out.2.2 hd)
                clear hd
                cases first with
                | true =>
                  go_wp2
                  go_ret3
                  rw [HX.out]
                  exact ⟨⟨#[]⟩, rfl, rfl, rfl⟩
                | false =>
                  go_wp2
                  go_ret3
                  rw [HX.out]
                  exact ⟨t, by simp; omega, rfl, rfl⟩
              · rw [decide_eq_false hd] at hdot
                by_cases hz : z = 0
                · have hzi : ¬ 0 < z := by omega
                  have hh : (bl L).head? ≠ some 46 := by
                    have := bl_length L
                    rw [hsz, hz] at this
                    rw [List.length_eq_zero_iff.1 this]
                    simp
                  have HD := Lib.hid (show bl L ≠ [46] ∧ (((bl L).head? ≠ some 46 ∧ bl L = bl L) ∨ ((bl L).head? = some 46 ∧ (bl L)[1]? = some 46 ∧ bl L = (bl L).drop 1)) from ⟨hd, .inl ⟨hh, rfl⟩⟩)
                  have HZ := Lib.hid hsz
                  clear hd hh hz
                  cases first with
                  | true =>
                    have hbt : bl (t ++ L) = addL true (bl t) (bl L) := by unfold addL preL; simp [bl]
                    have hlen : (addL true (bl t) (bl L)).length = (t.size + z) := by rw [← hbt, bl_length, ByteArray.size_append, HZ.out]
                    by_cases h5 : 262144 < (addL true (bl t) (bl L)).length
                    · have hx := un_long HK.out.1 HK.out.2.1 HK.out.2.2 HD.out.1 _ HD.out.2 h5
                      rw [hlen] at h5
                      have HX := Lib.hid (And.intro hx (And.intro hbt hlen))
                      clear hx hbt hlen
                      omega
                    · have hx := un_more HK.out.1 HK.out.2.1 HK.out.2.2 HD.out.1 _ HD.out.2 h5
                      rw [hlen] at h5
                      have HX := Lib.hid (And.intro hx (And.intro hbt hlen))
                      clear hx hbt hlen
                      go_wp2
                      go_round
                      case rel => exact ⟨n + ((z + 1) + 1), f, false, _, by omega, rfl, rfl, by go_num, by have := HU.out.2; omega, by have := HX.out.2.2; rw [← HX.out.2.1, bl_length] at this; omega, by rw [HX.out.2.1]; exact HX.out.1⟩
                      case measure => simp [intOf] <;> omega
                  | false =>
                    have hbt : bl ((t ++ (⟨#[10]⟩ : ByteArray)) ++ L) = addL false (bl t) (bl L) := by unfold addL preL; simp [bl]
                    have hlen : (addL false (bl t) (bl L)).length = (t.size + 1 + z) := by rw [← hbt, bl_length, ByteArray.size_append, HZ.out]; rw [ByteArray.size_append]; rfl
                    by_cases h5 : 262144 < (addL false (bl t) (bl L)).length
                    · have hx := un_long HK.out.1 HK.out.2.1 HK.out.2.2 HD.out.1 _ HD.out.2 h5
                      rw [hlen] at h5
                      have HX := Lib.hid (And.intro hx (And.intro hbt hlen))
                      clear hx hbt hlen
                      go_wp2
                      go_ret3
                      rw [HX.out.1]
                      exact ⟨⟨#[]⟩, rfl, rfl, rfl⟩
                    · have hx := un_more HK.out.1 HK.out.2.1 HK.out.2.2 HD.out.1 _ HD.out.2 h5
                      rw [hlen] at h5
                      have HX := Lib.hid (And.intro hx (And.intro hbt hlen))
                      clear hx hbt hlen
                      go_wp2
                      go_round
                      case rel => exact ⟨n + ((z + 1) + 1), f, false, _, by omega, rfl, rfl, by go_num, by have := HU.out.2; omega, by have := HX.out.2.2; rw [← HX.out.2.1, bl_length] at this; omega, by rw [HX.out.2.1]; exact HX.out.1⟩
                      case measure => simp [intOf] <;> omega
                · have hz0 : 0 < L.size := by omega
                  have hzp : 0 < z := by omega
                  have hL0 : (bl L).head? = some L[0] := by rw [List.head?_eq_getElem?, List.getElem?_eq_getElem (by rw [bl_length]; exact hz0)]; rfl
                  by_cases h46 : L[0] = 46
                  · have e46 : (((L[0].toNat : Nat) : Int) == 46) = true := (byte_eq L 0 hz0 46).trans (by simp [h46])
                    have hp : (bl L).head? = some 46 := by rw [hL0, h46]
                    obtain ⟨h1s, h1⟩ := head_dot L hp hd
                    by_cases h146 : L[1] = 46
                    · have e146 : (((L[1].toNat : Nat) : Int) != 46) = false := (byte_ne L 1 h1s 46).trans (by simp [h146])
                      obtain ⟨q, rfl⟩ : ∃ q, z = q + 1 := ⟨z - 1, by omega⟩
                      have hq1 : 1 ≤ q := by omega
                      have hone := bl_one L
                      rw [hsz] at hone
                      have hz2 : (L.extract 1 (q + 1)).size = q := by rw [ByteArray.size_extract]; omega
                      obtain ⟨L2, hL2⟩ : ∃ L2, L.extract 1 (q + 1) = L2 := ⟨_, rfl⟩
                      rw [hL2] at hone hz2
                      have HD := Lib.hid (show bl L ≠ [46] ∧ (((bl L).head? ≠ some 46 ∧ bl L2 = bl L) ∨ ((bl L).head? = some 46 ∧ (bl L)[1]? = some 46 ∧ bl L2 = (bl L).drop 1)) from ⟨hd, .inr ⟨hp, by rw [h1, h146], hone⟩⟩)
                      have HZ := Lib.hid hz2
                      clear hd hp h46 h1 hone h146 hL0
                      cases first with
                      | true =>
                        have hbt : bl (t ++ L2) = addL true (bl t) (bl L2) := by unfold addL preL; simp [bl]
                        have hlen : (addL true (bl t) (bl L2)).length = (t.size + q) := by rw [← hbt, bl_length, ByteArray.size_append, HZ.out]
                        by_cases h5 : 262144 < (addL true (bl t) (bl L2)).length
                        · have hx := un_long HK.out.1 HK.out.2.1 HK.out.2.2 HD.out.1 _ HD.out.2 h5
                          rw [hlen] at h5
                          have HX := Lib.hid (And.intro hx (And.intro hbt hlen))
                          clear hx hbt hlen
                          go_wp2
                          go_ret3
                          rw [HX.out.1]
                          exact ⟨⟨#[]⟩, rfl, rfl, rfl⟩
                        · have hx := un_more HK.out.1 HK.out.2.1 HK.out.2.2 HD.out.1 _ HD.out.2 h5
                          rw [hlen] at h5
                          have HX := Lib.hid (And.intro hx (And.intro hbt hlen))
                          clear hx hbt hlen
                          go_wp2
                          go_round
                          case rel => exact ⟨n + ((q + 1 + 1) + 1), f, false, _, by omega, rfl, rfl, by go_num, by have := HU.out.2; omega, by have := HX.out.2.2; rw [← HX.out.2.1, bl_length] at this; omega, by rw [HX.out.2.1]; exact HX.out.1⟩
                          case measure => simp [intOf] <;> omega
                      | false =>
                        have hbt : bl ((t ++ (⟨#[10]⟩ : ByteArray)) ++ L2) = addL false (bl t) (bl L2) := by unfold addL preL; simp [bl]
                        have hlen : (addL false (bl t) (bl L2)).length = (t.size + 1 + q) := by rw [← hbt, bl_length, ByteArray.size_append, HZ.out]; rw [ByteArray.size_append]; rfl
                        by_cases h5 : 262144 < (addL false (bl t) (bl L2)).length
                        · have hx := un_long HK.out.1 HK.out.2.1 HK.out.2.2 HD.out.1 _ HD.out.2 h5
                          rw [hlen] at h5
                          have HX := Lib.hid (And.intro hx (And.intro hbt hlen))
                          clear hx hbt hlen
                          go_wp2
                          go_ret3
                          rw [HX.out.1]
                          exact ⟨⟨#[]⟩, rfl, rfl, rfl⟩
                        · have hx := un_more HK.out.1 HK.out.2.1 HK.out.2.2 HD.out.1 _ HD.out.2 h5
                          rw [hlen] at h5
                          have HX := Lib.hid (And.intro hx (And.intro hbt hlen))
                          clear hx hbt hlen
                          go_wp2
                          go_round
                          case rel => exact ⟨n + ((q + 1 + 1) + 1), f, false, _, by omega, rfl, rfl, by go_num, by have := HU.out.2; omega, by have := HX.out.2.2; rw [← HX.out.2.1, bl_length] at this; omega, by rw [HX.out.2.1]; exact HX.out.1⟩
                          case measure => simp [intOf] <;> omega
                    · have e146 : (((L[1].toNat : Nat) : Int) != 46) = true := (byte_ne L 1 h1s 46).trans (by simp [h146])
                      have HX := Lib.hid (un_bad HK.out.1 HK.out.2.1 HK.out.2.2 hd hp (by rw [h1]; simpa using h146))
                      have h1z : 1 < z := by omega
                      clear hd hp h46 h1 h146 hL0
                      go_wp2
                      go_ret3
                      rw [HX.out]
                      exact ⟨⟨#[]⟩, rfl, rfl, rfl⟩
                  · have e46 : (((L[0].toNat : Nat) : Int) == 46) = false := (byte_eq L 0 hz0 46).trans (by simp [h46])
                    have hp : (bl L).head? ≠ some 46 := by rw [hL0]; simpa using h46
                    have HD := Lib.hid (show bl L ≠ [46] ∧ (((bl L).head? ≠ some 46 ∧ bl L = bl L) ∨ ((bl L).head? = some 46 ∧ (bl L)[1]? = some 46 ∧ bl L = (bl L).drop 1)) from ⟨hd, .inl ⟨hp, rfl⟩⟩)
                    have HZ := Lib.hid hsz
                    clear hd hp h46 hL0
                    cases first with
                    | true =>
                      have hbt : bl (t ++ L) = addL true (bl t) (bl L) := by unfold addL preL; simp [bl]
                      have hlen : (addL true (bl t) (bl L)).length = (t.size + z) := by rw [← hbt, bl_length, ByteArray.size_append, HZ.out]
                      by_cases h5 : 262144 < (addL true (bl t) (bl L)).length
                      · have hx := un_long HK.out.1 HK.out.2.1 HK.out.2.2 HD.out.1 _ HD.out.2 h5
                        rw [hlen] at h5
                        have HX := Lib.hid (And.intro hx (And.intro hbt hlen))
                        clear hx hbt hlen
                        go_wp2
                        go_ret3
                        rw [HX.out.1]
                        exact ⟨⟨#[]⟩, rfl, rfl, rfl⟩
                      · have hx := un_more HK.out.1 HK.out.2.1 HK.out.2.2 HD.out.1 _ HD.out.2 h5
                        rw [hlen] at h5
                        have HX := Lib.hid (And.intro hx (And.intro hbt hlen))
                        clear hx hbt hlen
                        go_wp2
                        go_round
                        case rel => exact ⟨n + ((z + 1) + 1), f, false, _, by omega, rfl, rfl, by go_num, by have := HU.out.2; omega, by have := HX.out.2.2; rw [← HX.out.2.1, bl_length] at this; omega, by rw [HX.out.2.1]; exact HX.out.1⟩
                        case measure => simp [intOf] <;> omega
                    | false =>
                      have hbt : bl ((t ++ (⟨#[10]⟩ : ByteArray)) ++ L) = addL false (bl t) (bl L) := by unfold addL preL; simp [bl]
                      have hlen : (addL false (bl t) (bl L)).length = (t.size + 1 + z) := by rw [← hbt, bl_length, ByteArray.size_append, HZ.out]; rw [ByteArray.size_append]; rfl
                      by_cases h5 : 262144 < (addL false (bl t) (bl L)).length
                      · have hx := un_long HK.out.1 HK.out.2.1 HK.out.2.2 HD.out.1 _ HD.out.2 h5
                        rw [hlen] at h5
                        have HX := Lib.hid (And.intro hx (And.intro hbt hlen))
                        clear hx hbt hlen
                        go_wp2
                        go_ret3
                        rw [HX.out.1]
                        exact ⟨⟨#[]⟩, rfl, rfl, rfl⟩
                      · have hx := un_more HK.out.1 HK.out.2.1 HK.out.2.2 HD.out.1 _ HD.out.2 h5
                        rw [hlen] at h5
                        have HX := Lib.hid (And.intro hx (And.intro hbt hlen))
                        clear hx hbt hlen
                        go_wp2
                        go_round
                        case rel => exact ⟨n + ((z + 1) + 1), f, false, _, by omega, rfl, rfl, by go_num, by have := HU.out.2; omega, by have := HX.out.2.2; rw [← HX.out.2.1, bl_length] at this; omega, by rw [HX.out.2.1]; exact HX.out.1⟩
                        case measure => simp [intOf] <;> omega
            · have e13 : (((s[j].toNat : Nat) : Int) != 13) = true := (byte_ne s j hj 13).trans (by simp [h13])
              have hx : flGo 0 ((bl s).drop n) 0 = (6, 0) := by rw [HS.out, if_neg (by rw [H10.out]; decide), if_pos H10.out, if_neg (by rw [prevN_succ s n _ (by omega) hj]; exact h13)]
              have HX := Lib.hid (HU.out.1.symm.trans (unGo_err f first _ n _ 6 0 hx (by decide)))
              clear hx h13
              go_wp2
              go_ret3
              rw [HX.out]
              exact ⟨⟨#[]⟩, rfl, rfl, rfl⟩
        · have e10 : (((s[m].toNat : Nat) : Int) != 10) = true := (byte_ne s m hlt 10).trans (by simp [h10])
          have H10 := Lib.hid h10
          clear h10
          by_cases h13 : s[m] = 13
          · have e13 : (((s[m].toNat : Nat) : Int) == 13) = true := (byte_eq s m hlt 13).trans (by simp [h13])
            have H13 := Lib.hid h13
            clear h13
            by_cases h2 : m + 1 < s.size
            · by_cases hn10 : s[m + 1] = 10
              · have en : (((s[m + 1].toNat : Nat) : Int) != 10) = false := (byte_ne s (m + 1) h2 10).trans (by simp [hn10])
                have HN := Lib.hid hn10
                clear hn10
                go_wp2
                go_round
                case rel => exact ⟨m + 1, by omega, by omega, by go_num, by rw [HS.out, if_pos H13.out, if_pos (fun _ => HN.out)]⟩
                case measure => simp [intOf]; omega
              · have en : (((s[m + 1].toNat : Nat) : Int) != 10) = true := (byte_ne s (m + 1) h2 10).trans (by simp [hn10])
                have hx : flGo 0 ((bl s).drop n) 0 = (6, 0) := by rw [HS.out, if_pos H13.out, if_neg (fun hh => hn10 (hh h2))]
                have HX := Lib.hid (HU.out.1.symm.trans (unGo_err f first _ n _ 6 0 hx (by decide)))
                clear hx hn10
                go_wp2
                go_ret3
                rw [HX.out]
                exact ⟨⟨#[]⟩, rfl, rfl, rfl⟩
            · go_wp2
              go_round
              case rel => exact ⟨m + 1, by omega, by omega, by go_num, by rw [HS.out, if_pos H13.out, if_pos (fun hh => absurd hh h2)]⟩
              case measure => simp [intOf]; omega
          · have e13 : (((s[m].toNat : Nat) : Int) == 13) = false := (byte_eq s m hlt 13).trans (by simp [h13])
            have H13 := Lib.hid h13
            clear h13
            go_wp2
            go_round
            case rel => exact ⟨m + 1, by omega, by omega, by go_num, by rw [HS.out, if_neg H13.out, if_neg H10.out]⟩
            case measure => simp [intOf]; omega
      · obtain rfl : m = s.size := by omega
        have hx : flGo 0 ((bl s).drop n) 0 = (4, 0) := HF.out.trans (flN_end s n _ (Nat.le_refl _))
        have HX := Lib.hid (HU.out.1.symm.trans (unGo_err f first _ n _ 4 0 hx (by decide)))
        clear hx
        go_wp2
        go_ret3
        rw [HX.out]
        exact ⟨⟨#[]⟩, rfl, rfl, rfl⟩
end Go.Proofs.YtfbpipknhghneaaGreatDoor
