/- command.Unstuff. -/
import Derived.Test.YtfbpipknhghneaaDoorUnP
import Derived.Test.YtfbpipknhghneaaDoorBld
namespace Go.Proofs.YtfbpipknhghneaaDoor
open Go.RowKit
theorem bl_inj {a b : ByteArray} (h : bl a = bl b) : a = b := by
  obtain ⟨⟨a⟩⟩ := a
  obtain ⟨⟨b⟩⟩ := b
  exact congrArg (fun l => (⟨⟨l⟩⟩ : ByteArray)) h
theorem bl_from (s : ByteArray) (n : Nat) : bl (s.extract n s.size) = (bl s).drop n := by
  show (s.extract n s.size).data.toList = _
  rw [Lib.extract_data, List.take_of_length_le (by rw [List.length_drop]; show (bl s).length - n ≤ s.size - n; rw [bl_length]; exact Nat.le_refl _)]
/-- The first line of what stands from n on. -/
theorem first_no (s : ByteArray) (n : Nat) (e : Int) (k : Nat) (h : flGo 0 ((bl s).drop n) 0 = (e, k)) (he : e ≠ 0) (w : World) (hs : s.size ≤ 1000000) :
    Calls Tryd.prog 47 #[.string (s.extract n s.size)] w fun x w' => x = .returned (.tuple #[.string ⟨#[]⟩, .int .i64 e]) ∧ w' = w := by
  have h1 := first47 (s.extract n s.size) w (by rw [ByteArray.size_extract]; omega)
  rw [bl_from, h] at h1
  unfold flS at h1
  rw [if_neg he] at h1
  exact h1
theorem first_ok (s : ByteArray) (n m : Nat) (h : flGo 0 ((bl s).drop n) 0 = (0, m + 1)) (w : World) (hs : s.size ≤ 1000000) (hn : n ≤ s.size) :
    Calls Tryd.prog 47 #[.string (s.extract n s.size)] w fun x w' => x = .returned (.tuple #[.string (s.extract n (n + m)), .int .i64 0]) ∧ w' = w := by
  have h1 := first47 (s.extract n s.size) w (by rw [ByteArray.size_extract]; omega)
  rw [bl_from, h] at h1
  unfold flS at h1
  rw [if_pos rfl] at h1
  obtain ⟨_, h3, h4⟩ := line_of s n (m + 1) hn h
  have e1 : (s.extract n s.size).extract 0 (m + 1 - 1) = s.extract n (n + m) := by
    apply bl_inj
    rw [show n + m = n + (m + 1) - 1 by omega, h4, bl_seg _ 0 _ (by rw [ByteArray.size_extract]; omega)]
    unfold seg
    rw [bl_from, List.drop_zero, Nat.sub_zero]
  rw [e1] at h1
  exact h1
theorem dot_eq (L : ByteArray) : (L.toList == [46]) = decide (bl L = [46]) := by
  rw [ByteArray.toList_eq, Bool.eq_iff_iff, decide_eq_true_eq, beq_iff_eq]
theorem head_dot (L : ByteArray) (h : (bl L).head? = some 46) (hd : bl L ≠ [46]) : ∃ h2 : 1 < L.size, (bl L)[1]? = some L[1] := by
  have hl := bl_length L
  have h2 : 1 < L.size := by
    rw [← hl]
    cases hb : bl L with
    | nil => rw [hb] at h; cases h
    | cons a t =>
      cases t with
      | nil => rw [hb] at h hd; simp at h; exact absurd (by rw [h]) hd
      | cons b t => simp
  exact ⟨h2, by rw [List.getElem?_eq_getElem (by rw [hl]; exact h2)]; rfl⟩
/-- The line without the dot ahead of it. -/
theorem bl_one (L : ByteArray) : bl (L.extract 1 L.size) = (bl L).drop 1 := bl_from L 1
def UnInv (s : ByteArray) (w0 : World) (i f : Value) (w : World) : Prop :=
  ∃ (n fuel : Nat) (first : Bool) (text : List UInt8), n ≤ s.size ∧ i = .int .i64 n ∧ f = .bool first ∧ s.size - n < fuel ∧ text.length ≤ 262144 ∧ unGo fuel first text n ((bl s).drop n) = unL (bl s) ∧ Bd w0.heap.size w0.heap.size text [] w ∧ Below w0.heap.size w0 w
set_option maxRecDepth 100000 in
set_option maxHeartbeats 6400000 in
theorem unstuff19 (s : ByteArray) (w : World) (hs : s.size ≤ 1000000) :
    Calls Tryd.prog 19 #[.string s] w fun e w' => ∃ t, e = .returned (.tuple #[.string t, .int .i64 (unL (bl s)).2.1, .int .i64 (unL (bl s)).2.2]) ∧ bl t = (unL (bl s)).1 ∧ Below w.heap.size w w' := by
  have HB0 := Lib.hid (Bd.new w)
  have HW0 := Lib.hid (below_alloc w (.cells #[.pointer none, .slice none 0 0] 85))
  go_enter Tryd.func19, Tryd.ntmps19
  go_wp2
  go_loopw [3, 6] (fun i f wr => UnInv s w i f wr) (fun i _ _ => s.size - (intOf i).toNat)
  case atStart => exact ⟨0, s.size + 1, true, [], Nat.zero_le _, rfl, rfl, by omega, by simp, by unfold unL; rw [bl_length]; rfl, HB0.out, HW0.out⟩
  case round =>
    obtain ⟨n, fuel, first, text, hn, rfl, rfl, hf, ht, hu, hb, hw⟩ := hrel
    obtain ⟨f, rfl⟩ : ∃ f, fuel = f + 1 := ⟨fuel - 1, by omega⟩
    obtain ⟨e, k, hr⟩ : ∃ e k, flGo 0 ((bl s).drop n) 0 = (e, k) := ⟨_, _, rfl⟩
    by_cases he : e ≠ 0
    · have HE := Lib.hid (And.intro (unGo_err f first text n _ e k hr he) (And.intro hr (And.intro he (And.intro hu hw))))
      have hen : (e != 0) = true := by simpa using he
      clear hr he hu hb hw hf
      go_wp2_with (go_at_call 47; refine (first_no s n e k HE.out.2.1 HE.out.2.2.1 _ hs).mono ?_; rintro x w1 ⟨rfl, rfl⟩)
      go_ret3
      rw [← HE.out.2.2.2.1, HE.out.1]
      exact ⟨⟨#[]⟩, rfl, rfl, HE.out.2.2.2.2⟩
    · obtain rfl : e = 0 := by omega
      obtain ⟨h1, h2, h3⟩ := line_of s n k hn hr
      obtain ⟨m, rfl⟩ : ∃ m, k = m + 1 := ⟨k - 1, by omega⟩
      rw [show n + (m + 1) - 1 = n + m by omega] at h3
      have hsz : (s.extract n (n + m)).size = m := by rw [ByteArray.size_extract]; omega
      have H47 := Lib.hid (fun w1 => first_ok s n m hr w1 hs hn)
      obtain ⟨L, hL⟩ : ∃ L, s.extract n (n + m) = L := ⟨_, rfl⟩
      rw [hL] at H47 h3 hsz
      have hdot := dot_eq L
      have hpre := pre_dot L
      have HU := Lib.hid (And.intro hr (And.intro h3 (And.intro hu (And.intro hb (And.intro hw hf)))))
      clear hL h1 he hr h3 hu hb hw hf
      by_cases hd : bl L = [46]
      · rw [decide_eq_true hd] at hdot
        have HX := Lib.hid (And.intro (un_dot HU.out.1 HU.out.2.1 HU.out.2.2.1 hd) hpre)
        clear hd hpre
        cases first with
        | true =>
          go_wp2_with (go_at_call 47; refine (H47.out _).mono ?_; rintro x w1 ⟨rfl, rfl⟩)
          go_ret3
          rw [HX.out.1]
          exact ⟨⟨#[]⟩, rfl, rfl, HU.out.2.2.2.2.1⟩
        | false =>
          go_wp2_with (first
            | (go_at_call 47; refine (H47.out _).mono ?_; rintro x w1 ⟨rfl, rfl⟩)
            | (go_at_call 44; refine (HU.out.2.2.2.1.string).mono ?_; rintro x w1 ⟨rfl, hw1⟩; have HW1 := Lib.hid hw1; clear hw1))
          go_ret3
          rw [HX.out.1]
          exact ⟨⟨text.toArray⟩, by simp; omega, rfl, Below.trans HU.out.2.2.2.2.1 HW1.out⟩
      · rw [decide_eq_false hd] at hdot
        by_cases hp : (bl L).head? = some 46
        · rw [decide_eq_true hp] at hpre
          have HP := Lib.hid hpre
          obtain ⟨h1s, h1⟩ := head_dot L hp hd
          obtain ⟨q, rfl⟩ : ∃ q, m = q + 1 := ⟨m - 1, by omega⟩
          have hq1 : 1 ≤ q := by omega
          have hq0 : 0 < q := hq1
          have hone := bl_one L
          rw [hsz] at hone
          have hz2 : (L.extract 1 (q + 1)).size = q := by rw [ByteArray.size_extract]; omega
          have hg : (L.extract 1 (q + 1))[0]'(by omega) = L[1] := by rw [ByteArray.getElem_extract]
          obtain ⟨L2, hL2⟩ : ∃ L2, L.extract 1 (q + 1) = L2 := ⟨_, rfl⟩
          have hg0 : 0 < L2.size := by rw [← hL2]; omega
          have hg2 : L2[0] = L[1] := by subst hL2; exact hg
          rw [hL2] at hone hz2
          clear hg
          rw [← hg2] at h1
          have hb2 : ∀ c : UInt8, (((L2[0].toNat : Nat) : Int) != ((c.toNat : Nat) : Int)) = (L2[0] != c) := fun c => by
            unfold bne
            rw [Bool.not_inj_iff, Bool.eq_iff_iff]; simp only [beq_iff_eq, Int.natCast_inj]; exact ⟨UInt8.toNat_inj.1, fun h => by rw [h]⟩
          by_cases h46 : L2[0] = 46
          · have e46 : (((L2[0].toNat : Nat) : Int) != 46) = false := (hb2 46).trans (by simp [h46])
            have HD := Lib.hid (show bl L ≠ [46] ∧ (((bl L).head? ≠ some 46 ∧ bl L2 = bl L) ∨ ((bl L).head? = some 46 ∧ (bl L)[1]? = some 46 ∧ bl L2 = (bl L).drop 1)) from ⟨hd, .inr ⟨hp, by rw [h1, h46], hone⟩⟩)
            have HZ := Lib.hid hz2
            clear hd hp hpre hb2 h46 h1 hone hg2
            cases first with
            | true =>
              obtain ⟨N, hN⟩ : ∃ N, (text ++ bl L2).length = N := ⟨_, rfl⟩
              have hNe : (addL true text (bl L2)).length = N := hN
              by_cases h5 : 262144 < (addL true text (bl L2)).length
              · have hx := un_long HU.out.1 HU.out.2.1 HU.out.2.2.1 HD.out.1 _ HD.out.2 h5
                have hlen : (262144 : Int) < (N : Int) := by omega
                have HX := Lib.hid (And.intro hx h5)
                have HN := Lib.hid (And.intro hN hNe)
                clear hx h5 hN hNe
                have T0 : True := trivial
                have T1 : True := trivial
                have T2 : True := trivial
                go_wp2_with (first
                  | (go_at_call 47; refine (H47.out _).mono ?_; rintro x w1 ⟨rfl, rfl⟩)
                  | (have hh := T0; clear hh T0; go_at_call 41; refine (Tryd.strings_HasPrefix L ⟨#[46]⟩ _).mono ?_; rw [show Lib.hasPrefix L.data.toList (⟨#[46]⟩ : ByteArray).data.toList = true from HP.out]; rintro x w1 ⟨rfl, rfl⟩)
                  | (have hh := T2; clear hh T2; go_at_call 43; refine (HU.out.2.2.2.1.str L2 (by rw [HZ.out]; (try simp only [List.length_append, List.length_cons, List.length_nil]); omega)).mono ?_; rintro x w3 ⟨rfl, hb3, hk3⟩; have H3 := Lib.hid (And.intro hb3 hk3); clear hb3 hk3)
                  | (go_at_call 48; refine (H3.out.1.len).mono ?_; rw [HN.out.1]; rintro x w4 ⟨rfl, rfl⟩))
                go_ret3
                rw [HX.out.1]
                exact ⟨⟨#[]⟩, rfl, rfl, HU.out.2.2.2.2.1.trans H3.out.2.1⟩
              · have hx := un_more HU.out.1 HU.out.2.1 HU.out.2.2.1 HD.out.1 _ HD.out.2 h5
                have hlen : ¬ (262144 : Int) < (N : Int) := by omega
                have HX := Lib.hid (And.intro hx h5)
                have HN := Lib.hid (And.intro hN hNe)
                clear hx h5 hN hNe
                have T0 : True := trivial
                have T1 : True := trivial
                have T2 : True := trivial
                go_wp2_with (first
                  | (go_at_call 47; refine (H47.out _).mono ?_; rintro x w1 ⟨rfl, rfl⟩)
                  | (have hh := T0; clear hh T0; go_at_call 41; refine (Tryd.strings_HasPrefix L ⟨#[46]⟩ _).mono ?_; rw [show Lib.hasPrefix L.data.toList (⟨#[46]⟩ : ByteArray).data.toList = true from HP.out]; rintro x w1 ⟨rfl, rfl⟩)
                  | (have hh := T2; clear hh T2; go_at_call 43; refine (HU.out.2.2.2.1.str L2 (by rw [HZ.out]; (try simp only [List.length_append, List.length_cons, List.length_nil]); omega)).mono ?_; rintro x w3 ⟨rfl, hb3, hk3⟩; have H3 := Lib.hid (And.intro hb3 hk3); clear hb3 hk3)
                  | (go_at_call 48; refine (H3.out.1.len).mono ?_; rw [HN.out.1]; rintro x w4 ⟨rfl, rfl⟩))
                go_roundw
                case rel => exact ⟨n + ((q + 1) + 1 + 1), f, false, _, by omega, by go_num, rfl, by have := HU.out.2.2.2.2.2; omega, by have := HX.out.2; omega, HX.out.1, H3.out.1, HU.out.2.2.2.2.1.trans H3.out.2.1⟩
                case measure => simp [intOf] <;> omega
            | false =>
              obtain ⟨N, hN⟩ : ∃ N, (text ++ [10] ++ bl L2).length = N := ⟨_, rfl⟩
              have hNe : (addL false text (bl L2)).length = N := hN
              by_cases h5 : 262144 < (addL false text (bl L2)).length
              · have hx := un_long HU.out.1 HU.out.2.1 HU.out.2.2.1 HD.out.1 _ HD.out.2 h5
                have hlen : (262144 : Int) < (N : Int) := by omega
                have HX := Lib.hid (And.intro hx h5)
                have HN := Lib.hid (And.intro hN hNe)
                clear hx h5 hN hNe
                have T0 : True := trivial
                have T1 : True := trivial
                have T2 : True := trivial
                go_wp2_with (first
                  | (go_at_call 47; refine (H47.out _).mono ?_; rintro x w1 ⟨rfl, rfl⟩)
                  | (have hh := T0; clear hh T0; go_at_call 41; refine (Tryd.strings_HasPrefix L ⟨#[46]⟩ _).mono ?_; rw [show Lib.hasPrefix L.data.toList (⟨#[46]⟩ : ByteArray).data.toList = true from HP.out]; rintro x w1 ⟨rfl, rfl⟩)
                  | (have hh := T1; clear hh T1; go_at_call 42; refine (HU.out.2.2.2.1.byte 10 10 rfl (by omega)).mono ?_; rintro x w2 ⟨rfl, hb2, hk2⟩; have H2 := Lib.hid (And.intro hb2 hk2); clear hb2 hk2)
                  | (have hh := T2; clear hh T2; go_at_call 43; refine (H2.out.1.str L2 (by rw [HZ.out]; (try simp only [List.length_append, List.length_cons, List.length_nil]); omega)).mono ?_; rintro x w3 ⟨rfl, hb3, hk3⟩; have H3 := Lib.hid (And.intro hb3 hk3); clear hb3 hk3)
                  | (go_at_call 48; refine (H3.out.1.len).mono ?_; rw [HN.out.1]; rintro x w4 ⟨rfl, rfl⟩))
                go_ret3
                rw [HX.out.1]
                exact ⟨⟨#[]⟩, rfl, rfl, (HU.out.2.2.2.2.1.trans H2.out.2.1).trans H3.out.2.1⟩
              · have hx := un_more HU.out.1 HU.out.2.1 HU.out.2.2.1 HD.out.1 _ HD.out.2 h5
                have hlen : ¬ (262144 : Int) < (N : Int) := by omega
                have HX := Lib.hid (And.intro hx h5)
                have HN := Lib.hid (And.intro hN hNe)
                clear hx h5 hN hNe
                have T0 : True := trivial
                have T1 : True := trivial
                have T2 : True := trivial
                go_wp2_with (first
                  | (go_at_call 47; refine (H47.out _).mono ?_; rintro x w1 ⟨rfl, rfl⟩)
                  | (have hh := T0; clear hh T0; go_at_call 41; refine (Tryd.strings_HasPrefix L ⟨#[46]⟩ _).mono ?_; rw [show Lib.hasPrefix L.data.toList (⟨#[46]⟩ : ByteArray).data.toList = true from HP.out]; rintro x w1 ⟨rfl, rfl⟩)
                  | (have hh := T1; clear hh T1; go_at_call 42; refine (HU.out.2.2.2.1.byte 10 10 rfl (by omega)).mono ?_; rintro x w2 ⟨rfl, hb2, hk2⟩; have H2 := Lib.hid (And.intro hb2 hk2); clear hb2 hk2)
                  | (have hh := T2; clear hh T2; go_at_call 43; refine (H2.out.1.str L2 (by rw [HZ.out]; (try simp only [List.length_append, List.length_cons, List.length_nil]); omega)).mono ?_; rintro x w3 ⟨rfl, hb3, hk3⟩; have H3 := Lib.hid (And.intro hb3 hk3); clear hb3 hk3)
                  | (go_at_call 48; refine (H3.out.1.len).mono ?_; rw [HN.out.1]; rintro x w4 ⟨rfl, rfl⟩))
                go_roundw
                case rel => exact ⟨n + ((q + 1) + 1 + 1), f, false, _, by omega, by go_num, rfl, by have := HU.out.2.2.2.2.2; omega, by have := HX.out.2; omega, HX.out.1, H3.out.1, (HU.out.2.2.2.2.1.trans H2.out.2.1).trans H3.out.2.1⟩
                case measure => simp [intOf] <;> omega
          · have e46 : (((L2[0].toNat : Nat) : Int) != 46) = true := (hb2 46).trans (by simp [h46])
            have HX := Lib.hid (un_bad HU.out.1 HU.out.2.1 HU.out.2.2.1 hd hp (by rw [h1]; simpa using h46))
            clear hd hp hpre hb2 h46 h1 hone hg2
            have T0 : True := trivial
            go_wp2_with (first
              | (go_at_call 47; refine (H47.out _).mono ?_; rintro x w1 ⟨rfl, rfl⟩)
              | (have hh := T0; clear hh T0; go_at_call 41; refine (Tryd.strings_HasPrefix L ⟨#[46]⟩ _).mono ?_; rw [show Lib.hasPrefix L.data.toList (⟨#[46]⟩ : ByteArray).data.toList = true from HP.out]; rintro x w1 ⟨rfl, rfl⟩))
            go_ret3
            rw [HX.out]
            exact ⟨⟨#[]⟩, rfl, rfl, HU.out.2.2.2.2.1⟩
        · rw [decide_eq_false hp] at hpre
          have HP := Lib.hid hpre
          have HD := Lib.hid (show bl L ≠ [46] ∧ (((bl L).head? ≠ some 46 ∧ bl L = bl L) ∨ ((bl L).head? = some 46 ∧ (bl L)[1]? = some 46 ∧ bl L = (bl L).drop 1)) from ⟨hd, .inl ⟨hp, rfl⟩⟩)
          have HZ := Lib.hid hsz
          clear hd hp hpre
          cases first with
          | true =>
            obtain ⟨N, hN⟩ : ∃ N, (text ++ bl L).length = N := ⟨_, rfl⟩
            have hNe : (addL true text (bl L)).length = N := hN
            by_cases h5 : 262144 < (addL true text (bl L)).length
            · have hx := un_long HU.out.1 HU.out.2.1 HU.out.2.2.1 HD.out.1 _ HD.out.2 h5
              have hlen : (262144 : Int) < (N : Int) := by omega
              have HX := Lib.hid (And.intro hx h5)
              have HN := Lib.hid (And.intro hN hNe)
              clear hx h5 hN hNe
              have T0 : True := trivial
              have T1 : True := trivial
              have T2 : True := trivial
              go_wp2_with (first
                | (go_at_call 47; refine (H47.out _).mono ?_; rintro x w1 ⟨rfl, rfl⟩)
                | (have hh := T0; clear hh T0; go_at_call 41; refine (Tryd.strings_HasPrefix L ⟨#[46]⟩ _).mono ?_; rw [show Lib.hasPrefix L.data.toList (⟨#[46]⟩ : ByteArray).data.toList = false from HP.out]; rintro x w1 ⟨rfl, rfl⟩)
                | (have hh := T2; clear hh T2; go_at_call 43; refine (HU.out.2.2.2.1.str L (by rw [HZ.out]; (try simp only [List.length_append, List.length_cons, List.length_nil]); omega)).mono ?_; rintro x w3 ⟨rfl, hb3, hk3⟩; have H3 := Lib.hid (And.intro hb3 hk3); clear hb3 hk3)
                | (go_at_call 48; refine (H3.out.1.len).mono ?_; rw [HN.out.1]; rintro x w4 ⟨rfl, rfl⟩))
              go_ret3
              rw [HX.out.1]
              exact ⟨⟨#[]⟩, rfl, rfl, HU.out.2.2.2.2.1.trans H3.out.2.1⟩
            · have hx := un_more HU.out.1 HU.out.2.1 HU.out.2.2.1 HD.out.1 _ HD.out.2 h5
              have hlen : ¬ (262144 : Int) < (N : Int) := by omega
              have HX := Lib.hid (And.intro hx h5)
              have HN := Lib.hid (And.intro hN hNe)
              clear hx h5 hN hNe
              have T0 : True := trivial
              have T1 : True := trivial
              have T2 : True := trivial
              go_wp2_with (first
                | (go_at_call 47; refine (H47.out _).mono ?_; rintro x w1 ⟨rfl, rfl⟩)
                | (have hh := T0; clear hh T0; go_at_call 41; refine (Tryd.strings_HasPrefix L ⟨#[46]⟩ _).mono ?_; rw [show Lib.hasPrefix L.data.toList (⟨#[46]⟩ : ByteArray).data.toList = false from HP.out]; rintro x w1 ⟨rfl, rfl⟩)
                | (have hh := T2; clear hh T2; go_at_call 43; refine (HU.out.2.2.2.1.str L (by rw [HZ.out]; (try simp only [List.length_append, List.length_cons, List.length_nil]); omega)).mono ?_; rintro x w3 ⟨rfl, hb3, hk3⟩; have H3 := Lib.hid (And.intro hb3 hk3); clear hb3 hk3)
                | (go_at_call 48; refine (H3.out.1.len).mono ?_; rw [HN.out.1]; rintro x w4 ⟨rfl, rfl⟩))
              go_roundw
              case rel => exact ⟨n + (m + 1 + 1), f, false, _, by omega, by go_num, rfl, by have := HU.out.2.2.2.2.2; omega, by have := HX.out.2; omega, HX.out.1, H3.out.1, HU.out.2.2.2.2.1.trans H3.out.2.1⟩
              case measure => simp [intOf] <;> omega
          | false =>
            obtain ⟨N, hN⟩ : ∃ N, (text ++ [10] ++ bl L).length = N := ⟨_, rfl⟩
            have hNe : (addL false text (bl L)).length = N := hN
            by_cases h5 : 262144 < (addL false text (bl L)).length
            · have hx := un_long HU.out.1 HU.out.2.1 HU.out.2.2.1 HD.out.1 _ HD.out.2 h5
              have hlen : (262144 : Int) < (N : Int) := by omega
              have HX := Lib.hid (And.intro hx h5)
              have HN := Lib.hid (And.intro hN hNe)
              clear hx h5 hN hNe
              have T0 : True := trivial
              have T1 : True := trivial
              have T2 : True := trivial
              go_wp2_with (first
                | (go_at_call 47; refine (H47.out _).mono ?_; rintro x w1 ⟨rfl, rfl⟩)
                | (have hh := T0; clear hh T0; go_at_call 41; refine (Tryd.strings_HasPrefix L ⟨#[46]⟩ _).mono ?_; rw [show Lib.hasPrefix L.data.toList (⟨#[46]⟩ : ByteArray).data.toList = false from HP.out]; rintro x w1 ⟨rfl, rfl⟩)
                | (have hh := T1; clear hh T1; go_at_call 42; refine (HU.out.2.2.2.1.byte 10 10 rfl (by omega)).mono ?_; rintro x w2 ⟨rfl, hb2, hk2⟩; have H2 := Lib.hid (And.intro hb2 hk2); clear hb2 hk2)
                | (have hh := T2; clear hh T2; go_at_call 43; refine (H2.out.1.str L (by rw [HZ.out]; (try simp only [List.length_append, List.length_cons, List.length_nil]); omega)).mono ?_; rintro x w3 ⟨rfl, hb3, hk3⟩; have H3 := Lib.hid (And.intro hb3 hk3); clear hb3 hk3)
                | (go_at_call 48; refine (H3.out.1.len).mono ?_; rw [HN.out.1]; rintro x w4 ⟨rfl, rfl⟩))
              go_ret3
              rw [HX.out.1]
              exact ⟨⟨#[]⟩, rfl, rfl, (HU.out.2.2.2.2.1.trans H2.out.2.1).trans H3.out.2.1⟩
            · have hx := un_more HU.out.1 HU.out.2.1 HU.out.2.2.1 HD.out.1 _ HD.out.2 h5
              have hlen : ¬ (262144 : Int) < (N : Int) := by omega
              have HX := Lib.hid (And.intro hx h5)
              have HN := Lib.hid (And.intro hN hNe)
              clear hx h5 hN hNe
              have T0 : True := trivial
              have T1 : True := trivial
              have T2 : True := trivial
              go_wp2_with (first
                | (go_at_call 47; refine (H47.out _).mono ?_; rintro x w1 ⟨rfl, rfl⟩)
                | (have hh := T0; clear hh T0; go_at_call 41; refine (Tryd.strings_HasPrefix L ⟨#[46]⟩ _).mono ?_; rw [show Lib.hasPrefix L.data.toList (⟨#[46]⟩ : ByteArray).data.toList = false from HP.out]; rintro x w1 ⟨rfl, rfl⟩)
                | (have hh := T1; clear hh T1; go_at_call 42; refine (HU.out.2.2.2.1.byte 10 10 rfl (by omega)).mono ?_; rintro x w2 ⟨rfl, hb2, hk2⟩; have H2 := Lib.hid (And.intro hb2 hk2); clear hb2 hk2)
                | (have hh := T2; clear hh T2; go_at_call 43; refine (H2.out.1.str L (by rw [HZ.out]; (try simp only [List.length_append, List.length_cons, List.length_nil]); omega)).mono ?_; rintro x w3 ⟨rfl, hb3, hk3⟩; have H3 := Lib.hid (And.intro hb3 hk3); clear hb3 hk3)
                | (go_at_call 48; refine (H3.out.1.len).mono ?_; rw [HN.out.1]; rintro x w4 ⟨rfl, rfl⟩))
              go_roundw
              case rel => exact ⟨n + (m + 1 + 1), f, false, _, by omega, by go_num, rfl, by have := HU.out.2.2.2.2.2; omega, by have := HX.out.2; omega, HX.out.1, H3.out.1, (HU.out.2.2.2.2.1.trans H2.out.2.1).trans H3.out.2.1⟩
              case measure => simp [intOf] <;> omega
end Go.Proofs.YtfbpipknhghneaaDoor
