/- ascii.Number. -/
import Derived.Test.YtfbpipknhghneaaDoorUnhex
namespace Go.Proofs.YtfbpipknhghneaaDoor
open Go.RowKit
set_option maxHeartbeats 400000 in
theorem skip_p (f : Nat) (p : UInt8 → Bool) (hc : ∀ c w, Calls Tryd.prog f #[vB c] w fun e w' => e = .returned (.bool (p c)) ∧ w = w') (hcf : ∀ (args : Array Value) (W : World), Sem.run Tryd.prog (callFunc f args) W = .ok (.enter f args) W) (s : ByteArray) (k : Nat) (w : World) (hk : k ≤ s.size) (hs : s.size ≤ 4611686018427387904) :
    Calls Tryd.prog 92 #[.string s, .int .i64 (k : Int), .func (.func f) #[] #[]] w fun e w' => e = .returned (.int .i64 ((k + runL p ((bl s).drop k) : Nat) : Int)) ∧ w = w' := by
  have HC := Lib.hid hc
  clear hc
  go_enter Tryd.func92, Tryd.ntmps92
  go_wp2
  go_loop [1] (fun i => ∃ j : Nat, j ≤ s.size ∧ i = .int .i64 j ∧ k + runL p ((bl s).drop k) = j + runL p ((bl s).drop j)) (fun i => s.size - (intOf i).toNat)
  case atStart => exact ⟨k, hk, rfl, rfl⟩
  case round =>
    obtain ⟨j, hj, rfl, he⟩ := hrel
    by_cases hlt : j < s.size
    · rcases hp : p s[j] with _ | _
      · rw [runL_no p s j hlt hp] at he
        have HE := Lib.hid he; clear he
        go_wp2_with (refine (HC.out _ _).mono ?_; rintro e w' ⟨rfl, rfl⟩; rw [hp])
        go_ret
        exact ⟨ret_int (by have := HE.out; omega), rfl⟩
      · rw [runL_yes p s j hlt hp] at he
        have HE := Lib.hid he; clear he
        go_wp2_with (refine (HC.out _ _).mono ?_; rintro e w' ⟨rfl, rfl⟩; rw [hp])
        go_round
        case rel => exact ⟨j + 1, hlt, by go_num, by rw [HE.out]; omega⟩
        case measure => simp [intOf]; omega
    · rw [runL_end p s j (by omega)] at he
      have HE := Lib.hid he; clear he
      have hjn : j = s.size := by omega
      subst hjn
      go_wp2
      go_ret
      exact ⟨ret_int (by have := HE.out; omega), rfl⟩
/-- The loop of Number: the digits from n on. -/
def numL (most : Int) : List UInt8 → Int → Int × Int
  | [], n => (n, 0)
  | c :: r, n => if most / 10 < n ∨ (n = most / 10 ∧ most % 10 < (c.toNat : Int) - 48) then (0, 2) else numL most r (10 * n + ((c.toNat : Int) - 48))
/-- What Number returns. -/
def numE (l : List UInt8) (most : Int) : Int × Int :=
  if l = [] ∨ runL digB l < l.length ∨ (1 < l.length ∧ l.getD 0 0 = 48) then (0, 3) else if most < 0 then (0, 2) else numL most l 0
set_option maxRecDepth 100000 in
set_option maxHeartbeats 1600000 in
theorem number29 (s : ByteArray) (most : Int) (hm0 : -9223372036854775808 ≤ most) (hm1 : most ≤ 9223372036854775807) (r : Int × Int) (hr : numE (bl s) most = r) (w : World) (hs : s.size ≤ 4294967296) :
    Calls Tryd.prog 79 #[.string s, .int .i64 most] w fun e w' => e = .returned (.tuple #[.int .i64 r.1, .int .i64 r.2]) ∧ w = w' := by
  have hcf : ∀ (args : Array Value) (W : World), Sem.run Tryd.prog (callFunc 84 args) W = .ok (.enter 84 args) W := enters_of Tryd.func84 (by kernel_rfl) rfl
  have hsk := skip_p 84 digB isDigit_b hcf s 0 w (Nat.zero_le _) (by omega)
  simp only [List.drop_zero, Nat.zero_add] at hsk
  obtain ⟨n, hn⟩ : ∃ n, runL digB (bl s) = n := ⟨_, rfl⟩
  have hle := runL_le digB (bl s)
  rw [bl_length, hn] at hle
  rw [hn] at hsk
  have HS := Lib.hid (And.intro hsk (And.intro hr hn))
  clear hsk hcf hr hn
  by_cases h0 : s.size = 0
  · have hs0 : s = ⟨#[]⟩ := by
      have : s.data = #[] := Array.eq_empty_of_size_eq_zero h0
      cases s; simp_all
    subst hs0
    have hr := HS.out.2.1
    have hr2 : r = (0, 3) := by rw [← hr]; rfl
    subst hr2
    clear hr
    go_enter Tryd.func79, Tryd.ntmps79
    go_wp2
    go_ret2
    exact ⟨rfl, rfl⟩
  · have hne2 : ¬ s.toList = [] := by
      rw [Lib.toList_data]
      intro h
      apply h0
      rw [← bl_length]
      simp [bl, h]
    have hemp : s.toList.isEmpty = false := by simpa using hne2
    have hne3 : ¬ bl s = [] := fun h => h0 (by rw [← bl_length, h]; rfl)
    by_cases h1 : n < s.size
    · have hi1 : (n : Int) < (s.size : Int) := by omega
      have hr2 : r = (0, 3) := by rw [← HS.out.2.1]; unfold numE; rw [if_pos (.inr (.inl (by rw [HS.out.2.2, bl_length]; exact h1)))]
      subst hr2
      go_enter Tryd.func79, Tryd.ntmps79
      go_wp2_with (go_at_call 92; refine HS.out.1.mono ?_; rintro e w1 ⟨rfl, rfl⟩)
      all_goals
        go_ret2
        exact ⟨rfl, rfl⟩
    · have hn1 : n = s.size := by omega
      subst hn1
      have hall := (runL_all digB (bl s)).1 (by rw [HS.out.2.2, bl_length])
      have hd : ∀ k (h : k < s.size), 48 ≤ s[k].toNat ∧ s[k].toNat ≤ 57 := fun k h => by
        have := List.all_eq_true.1 hall s[k] (List.getElem_mem (by rw [bl_length]; exact h) : (bl s)[k]'(by rw [bl_length]; exact h) ∈ bl s)
        unfold digB at this
        simp at this
        exact this
      have hlt0 : 0 < s.size := by omega
      have hi1 : (0 : Int) < (s.size : Int) := by omega
      have hg0 : (bl s).getD 0 0 = s[0] := by rw [List.getD_eq_getElem?_getD, List.getElem?_eq_getElem (by rw [bl_length]; exact hlt0)]; rfl
      have HD := Lib.hid (And.intro hd (And.intro hg0 hne3))
      clear hd hg0 hall hne3 hle
      by_cases hz : 1 < s.size ∧ (s[0].toNat : Int) = 48
      · obtain ⟨hz1, hz2⟩ := hz
        have hi2 : (1 : Int) < (s.size : Int) := by omega
        have hr2 : r = (0, 3) := by
          rw [← HS.out.2.1]; unfold numE
          rw [if_pos (.inr (.inr ⟨by rw [bl_length]; exact hz1, by rw [HD.out.2.1]; exact UInt8.toNat_inj.1 (by simp; omega)⟩))]
        subst hr2
        go_enter Tryd.func79, Tryd.ntmps79
        go_wp2_with (go_at_call 92; refine HS.out.1.mono ?_; rintro e w1 ⟨rfl, rfl⟩)
        all_goals
          go_ret2
          exact ⟨rfl, rfl⟩
      · have hr2 : r = if most < 0 then (0, 2) else numL most (bl s) 0 := by
          rw [← HS.out.2.1]; unfold numE
          rw [if_neg]
          rintro (h | h | ⟨h, h'⟩)
          · exact HD.out.2.2 h
          · rw [HS.out.2.2, bl_length] at h; omega
          · rw [bl_length] at h
            rw [HD.out.2.1] at h'
            exact hz ⟨h, by rw [h']; rfl⟩
        have hz2 : 1 < s.size → ¬ (s[0].toNat : Int) = 48 := fun h h' => hz ⟨h, h'⟩
        clear hz
        by_cases h1s : 1 < s.size
        · have hi2 : (1 : Int) < (s.size : Int) := by omega
          have hz3 : ((s[0].toNat : Int) == 48) = false := beq_eq_false_iff_ne.2 (hz2 h1s)
          clear hz2
          by_cases hneg : most < 0
          · rw [if_pos hneg] at hr2
            subst hr2
            go_enter Tryd.func79, Tryd.ntmps79
            go_wp2_with (go_at_call 92; refine HS.out.1.mono ?_; rintro e w1 ⟨rfl, rfl⟩)
            all_goals
              go_ret2
              exact ⟨rfl, rfl⟩
          · rw [if_neg hneg] at hr2
            have HR := Lib.hid hr2
            clear hr2
            have hmn : 0 ≤ most := by omega
            go_enter Tryd.func79, Tryd.ntmps79
            go_wp2_with (go_at_call 92; refine HS.out.1.mono ?_; rintro e w1 ⟨rfl, rfl⟩)
            go_loop [6, 32] (fun v i => ∃ (k : Nat) (a : Int), k ≤ s.size ∧ i = .int .i64 k ∧ v = .int .i64 a ∧ 0 ≤ a ∧ a ≤ most ∧ numL most ((bl s).drop k) a = r) (fun _ i => s.size - (intOf i).toNat)
            case atStart => exact ⟨0, 0, Nat.zero_le _, rfl, rfl, by omega, hmn, HR.out.symm⟩
            case round =>
              obtain ⟨k, a, hk, rfl, rfl, ha0, ha1, hnum⟩ := hrel
              by_cases hlt : k < s.size
              · obtain ⟨hd1, hd2⟩ := HD.out.1 k hlt
                rw [bl_drop s k hlt] at hnum
                unfold numL at hnum
                have hd3 : (48 : Int) ≤ (s[k].toNat : Int) := by omega
                have hd4 : (s[k].toNat : Int) ≤ 57 := by omega
                by_cases hov : most / 10 < a ∨ (a = most / 10 ∧ most % 10 < (s[k].toNat : Int) - 48)
                · rw [if_pos hov] at hnum
                  subst hnum
                  rcases hov with h | ⟨h, h'⟩
                  · go_wp2
                    all_goals
                      go_ret2
                      exact ⟨rfl, rfl⟩
                  · subst h
                    go_wp2
                    all_goals
                      go_ret2
                      exact ⟨rfl, rfl⟩
                · rw [if_neg hov] at hnum
                  have hng : a ≤ most / 10 := by omega
                  have hfit : 10 * a + ((s[k].toNat : Int) - 48) ≤ most := by omega
                  have HO := Lib.hid hov
                  clear hov
                  go_wp2
                  all_goals
                    go_round
                    case rel => exact ⟨k + 1, 10 * a + ((s[k].toNat : Int) - 48), by omega, by go_num, by first | rfl | (congr 1; omega), by omega, hfit, hnum⟩
                    case measure => simp [intOf]; omega
              · have hkn : k = s.size := by omega
                subst hkn
                rw [List.drop_eq_nil_of_le (by rw [bl_length]; exact Nat.le_refl _)] at hnum
                unfold numL at hnum
                subst hnum
                go_wp2
                go_ret2
                exact ⟨rfl, rfl⟩
        · have hi2 : ¬ (1 : Int) < (s.size : Int) := by omega
          clear hz2
          by_cases hneg : most < 0
          · rw [if_pos hneg] at hr2
            subst hr2
            go_enter Tryd.func79, Tryd.ntmps79
            go_wp2_with (go_at_call 92; refine HS.out.1.mono ?_; rintro e w1 ⟨rfl, rfl⟩)
            all_goals
              go_ret2
              exact ⟨rfl, rfl⟩
          · rw [if_neg hneg] at hr2
            have HR := Lib.hid hr2
            clear hr2
            have hmn : 0 ≤ most := by omega
            go_enter Tryd.func79, Tryd.ntmps79
            go_wp2_with (go_at_call 92; refine HS.out.1.mono ?_; rintro e w1 ⟨rfl, rfl⟩)
            go_loop [6, 32] (fun v i => ∃ (k : Nat) (a : Int), k ≤ s.size ∧ i = .int .i64 k ∧ v = .int .i64 a ∧ 0 ≤ a ∧ a ≤ most ∧ numL most ((bl s).drop k) a = r) (fun _ i => s.size - (intOf i).toNat)
            case atStart => exact ⟨0, 0, Nat.zero_le _, rfl, rfl, by omega, hmn, HR.out.symm⟩
            case round =>
              obtain ⟨k, a, hk, rfl, rfl, ha0, ha1, hnum⟩ := hrel
              by_cases hlt : k < s.size
              · obtain ⟨hd1, hd2⟩ := HD.out.1 k hlt
                rw [bl_drop s k hlt] at hnum
                unfold numL at hnum
                have hd3 : (48 : Int) ≤ (s[k].toNat : Int) := by omega
                have hd4 : (s[k].toNat : Int) ≤ 57 := by omega
                by_cases hov : most / 10 < a ∨ (a = most / 10 ∧ most % 10 < (s[k].toNat : Int) - 48)
                · rw [if_pos hov] at hnum
                  subst hnum
                  rcases hov with h | ⟨h, h'⟩
                  · go_wp2
                    all_goals
                      go_ret2
                      exact ⟨rfl, rfl⟩
                  · subst h
                    go_wp2
                    all_goals
                      go_ret2
                      exact ⟨rfl, rfl⟩
                · rw [if_neg hov] at hnum
                  have hng : a ≤ most / 10 := by omega
                  have hfit : 10 * a + ((s[k].toNat : Int) - 48) ≤ most := by omega
                  have HO := Lib.hid hov
                  clear hov
                  go_wp2
                  all_goals
                    go_round
                    case rel => exact ⟨k + 1, 10 * a + ((s[k].toNat : Int) - 48), by omega, by go_num, by first | rfl | (congr 1; omega), by omega, hfit, hnum⟩
                    case measure => simp [intOf]; omega
              · have hkn : k = s.size := by omega
                subst hkn
                rw [List.drop_eq_nil_of_le (by rw [bl_length]; exact Nat.le_refl _)] at hnum
                unfold numL at hnum
                subst hnum
                go_wp2
                go_ret2
                exact ⟨rfl, rfl⟩
end Go.Proofs.YtfbpipknhghneaaDoor
