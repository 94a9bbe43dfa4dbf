/- The reference's Words. -/
import Derived.Test.YtnljplnjdbjplaaDoorSqz
import Derived.Test.YtnljplnjdbjplaaDoorRefTr
namespace Go.Proofs.YtnljplnjdbjplaaDoor
open Go.RowKit
/-- What the reference's Words knows before byte k: the words behind it, the place where one has begun. -/
inductive RW (s : ByteArray) (n : Nat) : Nat → Int → List ByteArray → Prop
  | out (k : Nat) (xs : List ByteArray) : k ≤ n → xs ++ (wl [] ((bl s).drop k)).map mkS = words s → RW s n k (-1) xs
  | within (k j : Nat) (xs : List ByteArray) : k ≤ n → j < k → xs ++ (wl (((bl s).drop j).take (k - j)) ((bl s).drop k)).map mkS = words s → RW s n k (j : Int) xs
  | past (f : Int) (xs : List ByteArray) : xs = words s → RW s n (n + 1) f xs
theorem take_one (s : ByteArray) (k : Nat) (h : k < s.size) : ((bl s).drop k).take (k + 1 - k) = [s[k]] := by
  rw [bl_drop s k h, show k + 1 - k = 1 by omega]
  rfl
theorem take_more (s : ByteArray) (j k : Nat) (h : k < s.size) (hj : j < k) : ((bl s).drop j).take (k + 1 - j) = ((bl s).drop j).take (k - j) ++ [s[k]] := by
  rw [show k + 1 - j = (k - j) + 1 by omega, List.take_succ_eq_append_getElem (by rw [List.length_drop, bl_length]; omega), List.getElem_drop]
  congr 2
  show (bl s)[j + (k - j)]'_ = s[k]
  rw [show s[k] = (bl s)[k]'(by rw [bl_length]; exact h) from rfl]
  congr 1
  omega
theorem take_ne (s : ByteArray) (j k : Nat) (h : k ≤ s.size) (hj : j < k) : ((bl s).drop j).take (k - j) ≠ [] := by
  intro e
  have := congrArg List.length e
  rw [List.length_take, List.length_drop, bl_length, List.length_nil] at this
  omega
theorem wl_blank (s : ByteArray) (k : Nat) (h : k < s.size) (hp : blankB s[k] = true) (cur : List UInt8) : wl cur ((bl s).drop k) = fl cur ++ wl [] ((bl s).drop (k + 1)) := by
  rw [bl_drop s k h, wl, if_pos hp]
theorem wl_letter (s : ByteArray) (k : Nat) (h : k < s.size) (hp : blankB s[k] = false) (cur : List UInt8) : wl cur ((bl s).drop k) = wl (cur ++ [s[k]]) ((bl s).drop (k + 1)) := by
  rw [bl_drop s k h, wl, if_neg (by simp [hp])]
theorem wl_end (s : ByteArray) (cur : List UInt8) : wl cur ((bl s).drop s.size) = fl cur := by
  rw [List.drop_eq_nil_of_le (by rw [bl_length]; exact Nat.le_refl _), wl]
theorem RW.len {s : ByteArray} {k : Nat} {f : Int} {xs : List ByteArray} (h : RW s s.size k f xs) : xs.length ≤ s.size + 1 := by
  have hl := words_length s
  cases h with
  | out k xs h1 h2 => rw [← h2, List.length_append] at hl; omega
  | within k j xs h1 h2 h3 => rw [← h3, List.length_append] at hl; omega
  | past f xs h => rw [h]; exact hl
set_option maxRecDepth 100000 in
set_option maxHeartbeats 1600000 in
theorem refWords24 (s : ByteArray) (w : World) (hs : s.size ≤ 1000000) :
    Calls Tryd.prog 24 #[.string s] w fun e w' => ∃ v, e = .returned v ∧ Own w' w.heap.size 9 1 cS v (words s) ∧ Below w.heap.size w w' := by
  have HL := Lib.hid hs
  go_enter Tryd.func24, Tryd.ntmps24
  go_wp2
  go_loopw [3, 4, 5] (fun v fv i wr => ∃ (k : Nat) (f : Int) (xs : List ByteArray), k ≤ s.size + 1 ∧ i = .int .i64 (k : Int) ∧ fv = .int .i64 f ∧ RW s s.size k f xs ∧ Own wr w.heap.size 9 1 cS v xs ∧ Below w.heap.size w wr) (fun _ _ i _ => s.size + 1 - (intOf i).toNat)
  case atStart => exact ⟨0, -1, [], Nat.zero_le _, rfl, rfl, .out 0 [] (Nat.zero_le _) (by rw [List.drop_zero]; rfl), Own.nil _ _ _ _ _, Below.refl _ _⟩
  case round =>
    obtain ⟨k, f, xs, hk, rfl, rfl, hrw, ho, hbl⟩ := hrel
    have HX := Lib.hid (And.intro ho (And.intro hbl (And.intro hrw.len hrw)))
    clear ho hbl
    cases hrw with
    | out k xs h1 h2 =>
      by_cases hlt : k < s.size
      · cases hp : blankB s[k] with
        | true =>
          have HP := Lib.hid (show xs ++ (wl [] ((bl s).drop (k + 1))).map mkS = words s by rw [← h2, wl_blank s k hlt hp, fl_nil]; rfl)
          clear h2
          go_wp2_with (go_at_call 46; refine (refBlank_b s[k] _).mono ?_; rintro e w' ⟨rfl, rfl⟩; rw [hp])
          go_roundw
          case rel => exact ⟨k + 1, -1, xs, by omega, by go_num, rfl, .out _ _ (by omega) HP.out, HX.out.1, HX.out.2.1⟩
          case measure => simp [intOf] <;> omega
        | false =>
          have HP := Lib.hid (show xs ++ (wl (((bl s).drop k).take (k + 1 - k)) ((bl s).drop (k + 1))).map mkS = words s by rw [← h2, wl_letter s k hlt hp, take_one s k hlt]; rfl)
          clear h2
          go_wp2_with (go_at_call 46; refine (refBlank_b s[k] _).mono ?_; rintro e w' ⟨rfl, rfl⟩; rw [hp])
          go_roundw
          case rel => exact ⟨k + 1, k, xs, by omega, by go_num, rfl, .within _ _ _ (by omega) (by omega) HP.out, HX.out.1, HX.out.2.1⟩
          case measure => simp [intOf] <;> omega
      · obtain rfl : k = s.size := by omega
        rw [wl_end, fl_nil, List.map_nil, List.append_nil] at h2
        have HP := Lib.hid h2
        clear h2
        go_wp2
        go_roundw
        case rel => exact ⟨s.size + 1, -1, xs, by omega, by go_num, rfl, .past _ _ HP.out, HX.out.1, HX.out.2.1⟩
        case measure => simp [intOf] <;> omega
    | within k j xs h1 hj h2 =>
      by_cases hlt : k < s.size
      · cases hp : blankB s[k] with
        | true =>
          have HP := Lib.hid (show (xs ++ [s.extract j k]) ++ (wl [] ((bl s).drop (k + 1))).map mkS = words s by rw [← h2, wl_blank s k hlt hp, fl_cons (take_ne s j k (by omega) hj), List.map_append, List.map_singleton, extract_mkS, List.append_assoc])
          clear h2
          have hj2 : (j : Int) ≤ (k : Int) := by omega
          go_wp2_with (first
            | (go_at_call 46; refine (refBlank_b s[k] _).mono ?_; rintro e w' ⟨rfl, rfl⟩; rw [hp])
            | (at_builtin; refine wpList_append_sl _ rfl (.tmp 28) (.tmp 33) 27 rfl w.heap.size 9 1 16 cS underSs rowS (by decide) cS_length cS_one _ xs rfl (Own.keep HX.out.1 (below_alloc wr (.cells #[.string (s.extract j k)] 9))) _ 1 1 [s.extract j k] rfl rfl (sl_newS wr (s.extract j k)) (by have := HX.out.2.2.1; have := HL.out; omega) (by have := HX.out.2.2.1; have := HL.out; omega) (by have := HX.out.2.1.size; simp; omega) ?_))
          intro v2 w2 ho hg
          have hb1 : Below w.heap.size w (wr.alloc (.cells #[.string (s.extract j k)] 9)) := HX.out.2.1.alloc HX.out.2.1.size _
          have hb2 := Own.grew (Own.keep HX.out.1 (below_alloc wr (.cells #[.string (s.extract j k)] 9))) hg hb1 (Nat.le_refl _) hb1.size
          have H2 := Lib.hid (And.intro ho hb2)
          clear ho hg hb1 hb2
          go_wp2
          go_roundw
          case rel => exact ⟨k + 1, -1, _, by omega, by go_num, rfl, .out _ _ (by omega) HP.out, H2.out.1, H2.out.2⟩
          case measure => simp [intOf] <;> omega
        | false =>
          have HP := Lib.hid (show xs ++ (wl (((bl s).drop j).take (k + 1 - j)) ((bl s).drop (k + 1))).map mkS = words s by rw [← h2, wl_letter s k hlt hp, take_more s j k hlt hj])
          clear h2
          have hj2 : ¬ (j : Int) < 0 := by omega
          go_wp2_with (go_at_call 46; refine (refBlank_b s[k] _).mono ?_; rintro e w' ⟨rfl, rfl⟩; rw [hp])
          go_roundw
          case rel => exact ⟨k + 1, j, xs, by omega, by go_num, rfl, .within _ _ _ (by omega) (by omega) HP.out, HX.out.1, HX.out.2.1⟩
          case measure => simp [intOf] <;> omega
      · obtain rfl : k = s.size := by omega
        have HP := Lib.hid (show xs ++ [s.extract j s.size] = words s by rw [← h2, wl_end, fl_cons (take_ne s j s.size (by omega) hj), List.map_singleton, extract_mkS])
        clear h2
        have hj2 : (j : Int) ≤ (s.size : Int) := by omega
        go_wp2_with (at_builtin; refine wpList_append_sl _ rfl (.tmp 28) (.tmp 33) 27 rfl w.heap.size 9 1 16 cS underSs rowS (by decide) cS_length cS_one _ xs rfl (Own.keep HX.out.1 (below_alloc wr (.cells #[.string (s.extract j s.size)] 9))) _ 1 1 [s.extract j s.size] rfl rfl (sl_newS wr (s.extract j s.size)) (by have := HX.out.2.2.1; have := HL.out; omega) (by have := HX.out.2.2.1; have := HL.out; omega) (by have := HX.out.2.1.size; simp; omega) ?_)
        intro v2 w2 ho hg
        have hb1 : Below w.heap.size w (wr.alloc (.cells #[.string (s.extract j s.size)] 9)) := HX.out.2.1.alloc HX.out.2.1.size _
        have hb2 := Own.grew (Own.keep HX.out.1 (below_alloc wr (.cells #[.string (s.extract j s.size)] 9))) hg hb1 (Nat.le_refl _) hb1.size
        have H2 := Lib.hid (And.intro ho hb2)
        clear ho hg hb1 hb2
        go_wp2
        go_roundw
        case rel => exact ⟨s.size + 1, -1, _, by omega, by go_num, rfl, .past _ _ HP.out, H2.out.1, H2.out.2⟩
        case measure => simp [intOf] <;> omega
    | past f xs h2 =>
      have HP := Lib.hid h2
      clear h2
      go_wp2
      go_ret
      exact ⟨_, rfl, by rw [← HP.out]; exact HX.out.1, HX.out.2.1⟩
end Go.Proofs.YtnljplnjdbjplaaDoor
