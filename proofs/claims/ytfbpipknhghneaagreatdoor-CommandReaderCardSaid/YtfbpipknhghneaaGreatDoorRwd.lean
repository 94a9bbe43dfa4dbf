/- The reference's words and numbers. -/
import Derived.Test.YtfbpipknhghneaaGreatDoorRpA
namespace Go.Proofs.YtfbpipknhghneaaGreatDoor
open Go.RowKit
theorem mk_seg (s : ByteArray) (j k : Nat) (hk : k ≤ s.size) : mkB (seg s j k) = s.extract j k := bl_inj (by rw [bl_seg s j k hk]; rfl)
def WdI (s : ByteArray) (j k : Nat) (xs : List ByteArray) : Prop :=
  (k ≤ s.size ∧ j ≤ k ∧ xs ++ (splitGo 32 (seg s j k) ((bl s).drop k)).map mkB = (splitGo 32 [] (bl s)).map mkB) ∨ (k = s.size + 1 ∧ xs = (splitGo 32 [] (bl s)).map mkB)
theorem WdI.len {s : ByteArray} {j k : Nat} {xs : List ByteArray} (h : WdI s j k xs) : xs.length ≤ s.size + 1 := by
  have h1 := splitGo_len2 32 (bl s) []
  rw [bl_length] at h1
  rcases h with ⟨_, _, h⟩ | ⟨_, h⟩
  · have h2 := congrArg List.length h
    rw [List.length_append, List.length_map, List.length_map] at h2
    omega
  · rw [h, List.length_map]
    exact h1
set_option maxRecDepth 100000 in
set_option maxHeartbeats 3200000 in
theorem words63 (s : ByteArray) (w : World) (hs : s.size ≤ 1000000) :
    Calls Tryz.prog 56 #[.string s] w fun e w' => ∃ v, e = .returned v ∧ Own w' w.heap.size 9 1 cS v ((splitGo 32 [] (bl s)).map mkB) ∧ Below w.heap.size w w' := by
  go_enter Tryz.func56, Tryz.ntmps56
  go_wp2
  go_loopw [3, 4, 5] (fun v fv i wr => ∃ (j k : Nat) (xs : List ByteArray), i = .int .i64 (k : Int) ∧ fv = .int .i64 (j : Int) ∧ WdI s j k xs ∧ Own wr w.heap.size 9 1 cS v xs ∧ Below w.heap.size w wr) (fun _ _ i _ => s.size + 1 - (intOf i).toNat)
  case atStart => exact ⟨0, 0, [], rfl, rfl, Or.inl ⟨Nat.zero_le _, Nat.le_refl _, by rw [seg_self, List.drop_zero, List.nil_append]⟩, Own.nil _ _ _ _ _, Below.refl _ _⟩
  case round =>
    obtain ⟨j, k, xs, rfl, rfl, hw, ho, hbl⟩ := hrel
    have HX := Lib.hid (And.intro ho (And.intro hbl hw.len))
    clear ho hbl
    rcases hw with ⟨hk, hj, hc⟩ | ⟨rfl, hc⟩
    · by_cases hlt : k < s.size
      · by_cases h32 : s[k] = 32
        · have HP := Lib.hid (show WdI s (k + 1) (k + 1) (xs ++ [s.extract j k]) by
            refine Or.inl ⟨hlt, Nat.le_refl _, ?_⟩
            rw [← hc, split_at s 32 j k hlt h32, List.map_cons, mk_seg s j k hk, List.append_assoc]
            rfl)
          have hb : (((s[k].toNat : Nat) : Int) == 32) = true := by rw [h32]; rfl
          have q1 : (k : Int) ≤ (s.size : Int) := by omega
          have q2 : ((k : Int) == (s.size : Int)) = false := by rw [beq_eq_false_iff_ne]; omega
          have q3 : (j : Int) ≤ (k : Int) := by omega
          clear hc h32
          go_wp2_with (at_builtin; refine wpList_append_sl _ rfl (.tmp 22) (.tmp 27) 22 rfl w.heap.size 9 1 16 cS underSs rowS (by decide) cS_length cS_one _ xs rfl (Own.keep HX.out.1 (below_alloc wr (.cells #[.string (s.extract j k)] 9))) _ 1 1 [s.extract j k] rfl rfl (sl_newS wr (s.extract j k)) (by have := HX.out.2.2; omega) (by have := HX.out.2.2; omega) (by have := HX.out.2.1.size; simp; omega) ?_)
          intro v2 w2 ho hg
          have hb1 : Below w.heap.size w (wr.alloc (.cells #[.string (s.extract j k)] 9)) := HX.out.2.1.alloc HX.out.2.1.size _
          have hb2 := Own.grew (Own.keep HX.out.1 (below_alloc wr (.cells #[.string (s.extract j k)] 9))) hg hb1 (Nat.le_refl _) hb1.size
          have H2 := Lib.hid (And.intro ho hb2)
          clear ho hg hb1 hb2
          go_wp2
          go_roundw
          case rel => exact ⟨k + 1, k + 1, _, by go_num, by go_num, HP.out, H2.out.1, H2.out.2⟩
          case measure => simp [intOf] <;> omega
        · have HP := Lib.hid (show WdI s j (k + 1) xs from Or.inl ⟨hlt, by omega, by rw [← split_on s 32 j k hlt hj h32]; exact hc⟩)
          have hb : (((s[k].toNat : Nat) : Int) == 32) = false := by
            rw [beq_eq_false_iff_ne]
            intro e
            exact h32 (UInt8.toNat_inj.1 (show s[k].toNat = (32 : UInt8).toNat from by have : (32 : UInt8).toNat = 32 := rfl; omega))
          have q1 : (k : Int) ≤ (s.size : Int) := by omega
          have q2 : ((k : Int) == (s.size : Int)) = false := by rw [beq_eq_false_iff_ne]; omega
          clear hc h32
          go_wp2
          go_roundw
          case rel => exact ⟨j, k + 1, xs, by go_num, rfl, HP.out, HX.out.1, HX.out.2.1⟩
          case measure => simp [intOf] <;> omega
      · obtain rfl : k = s.size := by omega
        have HP := Lib.hid (show WdI s (s.size + 1) (s.size + 1) (xs ++ [s.extract j s.size]) by
          refine Or.inr ⟨rfl, ?_⟩
          rw [← hc, split_end, List.map_singleton, mk_seg s j s.size (Nat.le_refl _)])
        have q3 : (j : Int) ≤ (s.size : Int) := by omega
        clear hc
        go_wp2_with (at_builtin; refine wpList_append_sl _ rfl (.tmp 22) (.tmp 27) 22 rfl w.heap.size 9 1 16 cS underSs rowS (by decide) cS_length cS_one _ xs rfl (Own.keep HX.out.1 (below_alloc wr (.cells #[.string (s.extract j s.size)] 9))) _ 1 1 [s.extract j s.size] rfl rfl (sl_newS wr (s.extract j s.size)) (by have := HX.out.2.2; omega) (by have := HX.out.2.2; omega) (by have := HX.out.2.1.size; simp; omega) ?_)
        intro v2 w2 ho hg
        have hb1 : Below w.heap.size w (wr.alloc (.cells #[.string (s.extract j s.size)] 9)) := HX.out.2.1.alloc HX.out.2.1.size _
        have hb2 := Own.grew (Own.keep HX.out.1 (below_alloc wr (.cells #[.string (s.extract j s.size)] 9))) hg hb1 (Nat.le_refl _) hb1.size
        have H2 := Lib.hid (And.intro ho hb2)
        clear ho hg hb1 hb2
        go_wp2
        go_roundw
        case rel => exact ⟨s.size + 1, s.size + 1, _, by go_num, by go_num, HP.out, H2.out.1, H2.out.2⟩
        case measure => simp [intOf] <;> omega
    · have HP := Lib.hid hc
      clear hc
      have q1 : ¬ ((s.size : Int) + 1 ≤ (s.size : Int)) := by omega
      go_wp2
      go_ret
      exact ⟨_, rfl, by rw [← HP.out]; exact HX.out.1, HX.out.2.1⟩
/-! ### numbers -/
def numN (l : List UInt8) : Int := if (l ≠ [] ∧ l.all digB = true ∧ ¬ (1 < l.length ∧ l.getD 0 0 = 48)) ∧ l.length ≤ 9 then numV l 0 else -1
theorem numV_bound : ∀ (l : List UInt8) (a : Int), l.all digB = true → 0 ≤ a → numV l a + 1 ≤ (a + 1) * 10 ^ l.length
  | [], a, _, _ => by simp [numV]
  | c :: r, a, h, ha => by
    rw [List.all_cons, Bool.and_eq_true] at h
    have hd := dig_range h.1
    rw [numV]
    have h1 := numV_bound r (10 * a + ((c.toNat : Int) - 48)) h.2 (by omega)
    rw [List.length_cons, Int.pow_succ]
    have h2 : (10 * a + ((c.toNat : Int) - 48) + 1) ≤ (a + 1) * 10 := by omega
    have h3 : (0 : Int) ≤ 10 ^ r.length := Int.pow_nonneg (by decide)
    have h4 := Int.mul_le_mul_of_nonneg_right h2 h3
    have h5 : (a + 1) * 10 * 10 ^ r.length = (a + 1) * (10 ^ r.length * 10) := by rw [Int.mul_assoc, Int.mul_comm 10]
    omega
theorem numV_take (s : ByteArray) (k : Nat) (h : k < s.size) : numV ((bl s).take (k + 1)) 0 = 10 * numV ((bl s).take k) 0 + ((s[k].toNat : Int) - 48) := by
  rw [List.take_succ_eq_append_getElem (by rw [bl_length]; exact h), numV_append]
  rfl
theorem all_take (s : ByteArray) (k : Nat) (h : k < s.size) (ha : ((bl s).take k).all digB = true) (hd : digB s[k] = true) : ((bl s).take (k + 1)).all digB = true := by
  rw [List.take_succ_eq_append_getElem (by rw [bl_length]; exact h), List.all_append, ha, Bool.true_and, List.all_cons, List.all_nil, Bool.and_true]
  exact hd
theorem numV_small (s : ByteArray) (k : Nat) (hk : k ≤ 9) (hs : k ≤ s.size) (ha : ((bl s).take k).all digB = true) : 0 ≤ numV ((bl s).take k) 0 ∧ numV ((bl s).take k) 0 < 1000000000 := by
  have h1 := numV_bound _ 0 ha (Int.le_refl _)
  have h2 := numV_ge _ 0 ha (Int.le_refl _)
  rw [List.length_take, bl_length, Nat.min_eq_left hs] at h1
  have h3 : (10 : Int) ^ k ≤ 1000000000 := by
    have : k = 0 ∨ k = 1 ∨ k = 2 ∨ k = 3 ∨ k = 4 ∨ k = 5 ∨ k = 6 ∨ k = 7 ∨ k = 8 ∨ k = 9 := by omega
    rcases this with rfl | rfl | rfl | rfl | rfl | rfl | rfl | rfl | rfl | rfl <;> decide
  omega
theorem digB_of (c : UInt8) : digB c = (decide (48 ≤ c.toNat) && decide (c.toNat ≤ 57)) :=
  beq_iff_eq.1 (byte_all (p := fun c => digB c == (decide (48 ≤ c.toNat) && decide (c.toNat ≤ 57))) (by decide +kernel) c)
theorem numN_no (l : List UInt8) (h : l = [] ∨ l.all digB = false ∨ (1 < l.length ∧ l.getD 0 0 = 48) ∨ 9 < l.length) : numN l = -1 := by
  unfold numN
  rw [if_neg]
  rintro ⟨⟨h1, h2, h3⟩, h4⟩
  rcases h with h | h | h | h
  · exact h1 h
  · rw [h2] at h; cases h
  · exact h3 h
  · omega
set_option maxRecDepth 100000 in
set_option maxHeartbeats 3200000 in
theorem number64 (s : ByteArray) (w : World) (hs : s.size ≤ 1000000) :
    Calls Tryz.prog 58 #[.string s] w fun e w' => e = .returned (.int .i64 (numN (bl s))) ∧ w' = w := by
  by_cases h0 : s.size = 0
  · have hs0 : s = ⟨#[]⟩ := bl_inj (List.length_eq_zero_iff.1 (by rw [bl_length]; exact h0))
    subst hs0
    go_enter Tryz.func58, Tryz.ntmps58
    go_wp2
    go_ret
    exact ⟨rfl, rfl⟩
  have he : s.toList.isEmpty = false := by rw [isE]; exact decide_eq_false h0
  have hne : bl s ≠ [] := fun e => h0 (by rw [← bl_length, e]; rfl)
  by_cases h9 : 9 < s.size
  · have HN := Lib.hid (numN_no (bl s) (Or.inr (Or.inr (Or.inr (by rw [bl_length]; exact h9)))))
    have q1 : 9 < (s.size : Int) := by omega
    clear hne
    go_enter Tryz.func58, Tryz.ntmps58
    go_wp2
    go_ret
    exact ⟨by rw [HN.out]; rfl, rfl⟩
  have q1 : ¬ 9 < (s.size : Int) := by omega
  have hp : 0 < s.size := by omega
  have hg : (bl s).getD 0 0 = s[0] := by rw [List.getD_eq_getElem?_getD, List.getElem?_eq_getElem (by rw [bl_length]; exact hp)]; rfl
  by_cases h48 : s[0] = 48 ∧ 1 < s.size
  · have HN := Lib.hid (numN_no (bl s) (Or.inr (Or.inr (Or.inl ⟨by rw [bl_length]; exact h48.2, by rw [hg]; exact h48.1⟩))))
    have q2 : (((s[0].toNat : Nat) : Int) == 48) = true := by rw [h48.1]; rfl
    have q3 : 1 < (s.size : Int) := by omega
    clear hne hg h48
    go_enter Tryz.func58, Tryz.ntmps58
    go_wp2
    go_ret
    exact ⟨by rw [HN.out]; rfl, rfl⟩
  have HZ := Lib.hid (show ¬ (1 < (bl s).length ∧ (bl s).getD 0 0 = 48) by rw [bl_length, hg]; exact fun e => h48 ⟨e.2, e.1⟩)
  have HNE := Lib.hid hne
  have hq : ((((s[0].toNat : Nat) : Int) == 48) = true ∧ ¬ 1 < (s.size : Int)) ∨ (((s[0].toNat : Nat) : Int) == 48) = false := by
    cases hc : (((s[0].toNat : Nat) : Int) == 48) with
    | false => exact Or.inr rfl
    | true =>
      refine Or.inl ⟨rfl, fun e => h48 ⟨UInt8.toNat_inj.1 ?_, by omega⟩⟩
      have := beq_iff_eq.1 hc
      have h2 : (48 : UInt8).toNat = 48 := rfl
      omega
  clear hne hg h48
  rcases hq with ⟨q2, q3⟩ | q2
  all_goals
    go_enter Tryz.func58, Tryz.ntmps58
    go_wp2
    clear q2
    go_loop [3, 4] (fun n i => ∃ k : Nat, i = .int .i64 (k : Int) ∧ k ≤ s.size ∧ ((bl s).take k).all digB = true ∧ n = .int .i64 (numV ((bl s).take k) 0)) (fun _ i => s.size + 1 - (intOf i).toNat)
    case atStart => exact ⟨0, rfl, Nat.zero_le _, rfl, rfl⟩
    case round =>
      obtain ⟨k, rfl, hk, ha, rfl⟩ := hrel
      have HA := Lib.hid ha
      by_cases hlt : k < s.size
      · have q4 : (k : Int) < (s.size : Int) := by omega
        cases hd : digB s[k] with
        | true =>
          obtain ⟨z1, z2⟩ := numV_small s k (by omega) hk ha
          have hr := hd
          rw [digB_of, Bool.and_eq_true, decide_eq_true_eq, decide_eq_true_eq] at hr
          have HT := Lib.hid (And.intro (numV_take s k hlt) (all_take s k hlt ha hd))
          obtain ⟨n0, hn0⟩ : ∃ n0, numV ((bl s).take k) 0 = n0 := ⟨_, rfl⟩
          rw [hn0] at HT z1 z2 ⊢
          obtain ⟨d, hdd⟩ : ∃ d : Nat, s[k].toNat = d + 48 := ⟨s[k].toNat - 48, by omega⟩
          have q5 : ¬ ((s[k].toNat : Nat) : Int) < 48 := by omega
          have q6 : ¬ 57 < ((s[k].toNat : Nat) : Int) := by omega
          have q7 : IntKind.u8.wrap (((s[k].toNat : Nat) : Int) - 48) = (d : Int) := by rw [hdd]; simp [IntKind.wrap, IntKind.bits, IntKind.signed]; omega
          have HW := Lib.hid (show wrap64 (wrap64 (10 * n0) + (d : Int)) = 10 * n0 + (d : Int) by
            rw [Go.IntWalk.wrap64_in (10 * n0) (by omega)]
            exact Go.IntWalk.wrap64_in _ (by omega))
          have q9 : IntKind.i64.wrap (d : Int) = (d : Int) := w64 _ (by omega) (by omega)
          have HD := Lib.hid (show numV ((bl s).take (k + 1)) 0 = 10 * n0 + (d : Int) by rw [HT.out.1, hdd]; omega)
          clear hd ha hr hdd hn0 z1 z2
          go_wp2
          go_round
          case rel => exact ⟨k + 1, by go_num, by omega, HT.out.2, by rw [HW.out, HD.out]⟩
          case measure => simp [intOf]; omega
        | false =>
          have HN := Lib.hid (numN_no (bl s) (Or.inr (Or.inl (by
            rw [Bool.eq_false_iff]
            intro e
            have := List.all_eq_true.1 e s[k] (List.getElem_mem (by rw [bl_length]; exact hlt) : (bl s)[k]'(by rw [bl_length]; exact hlt) ∈ bl s)
            rw [hd] at this
            cases this))))
          have hr := hd
          rw [digB_of, Bool.and_eq_false_iff, decide_eq_false_iff_not, decide_eq_false_iff_not] at hr
          have hr2 : ((s[k].toNat : Nat) : Int) < 48 ∨ (¬ ((s[k].toNat : Nat) : Int) < 48 ∧ 57 < ((s[k].toNat : Nat) : Int)) := by omega
          clear hd ha hr
          rcases hr2 with r1 | ⟨r1, r2⟩
          all_goals
            go_wp2
            go_ret
            exact ⟨by rw [HN.out]; rfl, rfl⟩
      · obtain rfl : k = s.size := by omega
        have HN := Lib.hid (show numN (bl s) = numV ((bl s).take s.size) 0 by
          rw [List.take_of_length_le (by rw [bl_length]; exact Nat.le_refl _)] at ha ⊢
          unfold numN
          rw [if_pos ⟨⟨HNE.out, ha, HZ.out⟩, by rw [bl_length]; omega⟩])
        clear ha
        go_wp2
        go_ret
        exact ⟨by rw [HN.out]; rfl, rfl⟩
end Go.Proofs.YtfbpipknhghneaaGreatDoor
