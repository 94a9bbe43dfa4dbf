/- The reference's stuffed. -/
import Derived.Test.YtfbpipknhghneaaDoorStf
namespace Go.Proofs.YtfbpipknhghneaaDoor
open Go.RowKit
theorem bl_app (a b : ByteArray) : bl (a ++ b) = bl a ++ bl b := by simp [bl]
theorem bl_seg (s : ByteArray) (a b : Nat) (_hb : b ≤ s.size) : bl (s.extract a b) = seg s a b := by
  unfold seg bl
  rw [Lib.extract_data]
theorem seg_head (s : ByteArray) (j k : Nat) (hj : j < k) (hk : k ≤ s.size) : (seg s j k).head? = some (s[j]'(by omega)) := by
  unfold seg
  rw [bl_drop s j (by omega), show k - j = (k - j - 1) + 1 by omega, List.take_succ_cons]
  rfl
theorem dotL_yes (s : ByteArray) (j k : Nat) (hj : j < k) (hk : k ≤ s.size) (h : (s[j]'(by omega)) = 46) : dotL (seg s j k) = 46 :: seg s j k := by
  unfold dotL
  rw [seg_head s j k hj hk, h, if_pos rfl]
theorem dotL_no (s : ByteArray) (j k : Nat) (hj : j < k) (hk : k ≤ s.size) (h : (s[j]'(by omega)) ≠ 46) : dotL (seg s j k) = seg s j k := by
  unfold dotL
  rw [seg_head s j k hj hk, if_neg (by simpa using h)]
theorem dotL_nil (s : ByteArray) (j : Nat) : dotL (seg s j j) = seg s j j := by
  rw [seg_self]; rfl
theorem put_dot (s t : ByteArray) (j k : Nat) (hj : j < k) (hk : k ≤ s.size) (h : (s[j]'(by omega)) = 46) :
    bl (((t ++ (⟨#[46]⟩ : ByteArray)) ++ s.extract j k) ++ (⟨#[13, 10]⟩ : ByteArray)) = bl t ++ (dotL (seg s j k) ++ [13, 10]) := by
  rw [dotL_yes s j k hj hk h, bl_app, bl_app, bl_app, bl_seg s j k hk]
  simp [bl]
theorem put_plain (s t : ByteArray) (j k : Nat) (hk : k ≤ s.size) (h : dotL (seg s j k) = seg s j k) :
    bl ((t ++ s.extract j k) ++ (⟨#[13, 10]⟩ : ByteArray)) = bl t ++ (dotL (seg s j k) ++ [13, 10]) := by
  rw [h, bl_app, bl_app, bl_seg s j k hk]
  simp [bl]
theorem put_nil (s t : ByteArray) (j : Nat) : bl (t ++ (⟨#[13, 10]⟩ : ByteArray)) = bl t ++ (dotL (seg s j j) ++ [13, 10]) := by
  rw [dotL_nil, seg_self, bl_app]
  simp [bl]
/-- A line more, in the middle. -/
theorem line_mid (s t u : ByteArray) (j k : Nat) (hk : k < s.size) (h10 : s[k] = 10) (hc : bl t ++ stuffP (splitGo 10 (seg s j k) ((bl s).drop k)) = stuffL (bl s)) (hu : bl u = bl t ++ (dotL (seg s j k) ++ [13, 10])) :
    bl u ++ stuffP (splitGo 10 (seg s (k + 1) (k + 1)) ((bl s).drop (k + 1))) = stuffL (bl s) := by
  rw [← hc, split_at s 10 j k hk h10, stuffP_cons, hu]
  simp only [List.append_assoc]
/-- The last line. -/
theorem line_end (s t u : ByteArray) (j : Nat) (hc : bl t ++ stuffP (splitGo 10 (seg s j s.size) ((bl s).drop s.size)) = stuffL (bl s)) (hu : bl u = bl t ++ (dotL (seg s j s.size) ++ [13, 10])) :
    bl u ++ [46, 13, 10] = stuffL (bl s) := by
  rw [← hc, split_end, stuffP_cons, hu]
  simp only [List.append_assoc]
  rfl
theorem stuff_bound (s t : ByteArray) (r : List UInt8) (hs : s.size ≤ 1000000) (hc : bl t ++ r = stuffL (bl s)) : t.size ≤ 5000000 := by
  have h1 := congrArg List.length hc
  have h2 := stuffP_le 10 (bl s) []
  rw [List.length_append, bl_length] at h1
  rw [bl_length] at h2
  unfold stuffL at h1
  simp only [List.length_nil] at h2
  omega
set_option maxRecDepth 100000 in
set_option maxHeartbeats 3200000 in
theorem stuffed46 (s : ByteArray) (w : World) (hs : s.size ≤ 1000000) :
    Calls Tryd.prog 46 #[.string s] w fun e w' => ∃ t, e = .returned (.string t) ∧ bl t = stuffL (bl s) ∧ w' = w := by
  go_enter Tryd.func46, Tryd.ntmps46
  go_wp2
  go_loop [3, 4, 5] (fun o f i => ∃ (j k : Nat) (t : ByteArray), o = .string t ∧ f = .int .i64 j ∧ i = .int .i64 k ∧ ((k ≤ s.size ∧ j ≤ k ∧ bl t ++ stuffP (splitGo 10 (seg s j k) ((bl s).drop k)) = stuffL (bl s)) ∨ (k = s.size + 1 ∧ bl t ++ [46, 13, 10] = stuffL (bl s)))) (fun o f i => s.size + 1 - (intOf i).toNat)
  case atStart => exact ⟨0, 0, ⟨#[]⟩, rfl, rfl, rfl, .inl ⟨by omega, by omega, by rw [seg_self]; rfl⟩⟩
  case round =>
    obtain ⟨j, k, t, rfl, rfl, rfl, hc⟩ := hrel
    rcases hc with ⟨hk, hj, hc⟩ | ⟨rfl, hc⟩
    · have hts := stuff_bound s t _ hs hc
      by_cases hlt : k < s.size
      · have hb : ∀ c : UInt8, (((s[k].toNat : Nat) : Int) != ((c.toNat : Nat) : Int)) = (s[k] != c) := fun c => by
          unfold bne
          rw [Bool.not_inj_iff, Bool.eq_iff_iff]; simp only [beq_iff_eq, Int.natCast_inj]; exact ⟨UInt8.toNat_inj.1, fun h => by rw [h]⟩
        by_cases h10 : s[k] = 10
        · have e10 : (((s[k].toNat : Nat) : Int) != 10) = false := (hb 10).trans (by simp [h10])
          have H10 := Lib.hid (And.intro h10 (And.intro hc hb))
          clear h10 hc hb
          by_cases hjk : j < k
          · have hjs : j < s.size := by omega
            have hb2 : ∀ c : UInt8, (((s[j].toNat : Nat) : Int) == ((c.toNat : Nat) : Int)) = (s[j] == c) := fun c => by
              rw [Bool.eq_iff_iff]; simp only [beq_iff_eq, Int.natCast_inj]; exact ⟨UInt8.toNat_inj.1, fun h => by rw [h]⟩
            by_cases h46 : s[j] = 46
            · have e46 : (((s[j].toNat : Nat) : Int) == 46) = true := (hb2 46).trans (by simp [h46])
              have H46 := Lib.hid (put_dot s t j k hjk hk h46)
              clear h46 hb2
              go_wp2
              go_round
              case rel => exact ⟨k + 1, k + 1, _, rfl, by go_num, by go_num, .inl ⟨by omega, by omega, line_mid s t _ j k hlt H10.out.1 H10.out.2.1 H46.out⟩⟩
              case measure => simp [intOf]; omega
            · have e46 : (((s[j].toNat : Nat) : Int) == 46) = false := (hb2 46).trans (by simp [h46])
              have H46 := Lib.hid (put_plain s t j k hk (dotL_no s j k hjk hk h46))
              clear h46 hb2
              go_wp2
              go_round
              case rel => exact ⟨k + 1, k + 1, _, rfl, by go_num, by go_num, .inl ⟨by omega, by omega, line_mid s t _ j k hlt H10.out.1 H10.out.2.1 H46.out⟩⟩
              case measure => simp [intOf]; omega
          · have hjk2 : j = k := by omega
            subst hjk2
            have H46 := Lib.hid (put_nil s t j)
            go_wp2
            go_round
            case rel => exact ⟨j + 1, j + 1, _, rfl, by go_num, by go_num, .inl ⟨by omega, by omega, line_mid s t _ j j hlt H10.out.1 H10.out.2.1 H46.out⟩⟩
            case measure => simp [intOf]; omega
        · have e10 : (((s[k].toNat : Nat) : Int) != 10) = true := (hb 10).trans (by simp [h10])
          have H10 := Lib.hid (And.intro h10 (And.intro hc hb))
          clear h10 hc hb
          go_wp2
          go_round
          case rel => exact ⟨j, k + 1, t, rfl, rfl, by go_num, .inl ⟨by omega, by omega, by rw [← split_on s 10 j k hlt hj H10.out.1]; exact H10.out.2.1⟩⟩
          case measure => simp [intOf]; omega
      · have hkk : k = s.size := by omega
        subst hkk
        have HC := Lib.hid hc
        clear hc hlt
        by_cases hjk : j < s.size
        · have hb2 : ∀ c : UInt8, (((s[j].toNat : Nat) : Int) == ((c.toNat : Nat) : Int)) = (s[j] == c) := fun c => by
            rw [Bool.eq_iff_iff]; simp only [beq_iff_eq, Int.natCast_inj]; exact ⟨UInt8.toNat_inj.1, fun h => by rw [h]⟩
          by_cases h46 : s[j] = 46
          · have e46 : (((s[j].toNat : Nat) : Int) == 46) = true := (hb2 46).trans (by simp [h46])
            have H46 := Lib.hid (put_dot s t j s.size hjk (Nat.le_refl _) h46)
            clear h46 hb2
            go_wp2
            go_round
            case rel => exact ⟨s.size + 1, s.size + 1, _, rfl, by go_num, by go_num, .inr ⟨rfl, line_end s t _ j HC.out H46.out⟩⟩
            case measure => simp [intOf]
          · have e46 : (((s[j].toNat : Nat) : Int) == 46) = false := (hb2 46).trans (by simp [h46])
            have H46 := Lib.hid (put_plain s t j s.size (Nat.le_refl _) (dotL_no s j s.size hjk (Nat.le_refl _) h46))
            clear h46 hb2
            go_wp2
            go_round
            case rel => exact ⟨s.size + 1, s.size + 1, _, rfl, by go_num, by go_num, .inr ⟨rfl, line_end s t _ j HC.out H46.out⟩⟩
            case measure => simp [intOf]
        · have hjk2 : j = s.size := by omega
          subst hjk2
          have H46 := Lib.hid (put_nil s t s.size)
          go_wp2
          go_round
          case rel => exact ⟨s.size + 1, s.size + 1, _, rfl, by go_num, by go_num, .inr ⟨rfl, line_end s t _ s.size HC.out H46.out⟩⟩
          case measure => simp [intOf]
    · have HC := Lib.hid hc
      have hts := stuff_bound s t _ hs hc
      clear hc
      go_wp2
      go_ret
      exact ⟨_, rfl, (bl_app _ _).trans HC.out, rfl⟩
end Go.Proofs.YtfbpipknhghneaaDoor
