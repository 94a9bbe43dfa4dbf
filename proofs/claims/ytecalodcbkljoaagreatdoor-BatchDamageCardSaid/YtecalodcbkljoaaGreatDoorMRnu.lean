/- The end of a line in the reference: bulletinref35.end. A number in the reference: bulletinref35.number. -/
import Derived.Test.YtecalodcbkljoaaGreatDoorMRsm
import Derived.Test.YtecalodcbkljoaaGreatDoorMBat
import Derived.Test.YtecalodcbkljoaaGreatDoorMCan
namespace Go.Proofs.YtecalodcbkljoaaGreatDoor
open Go.RowKit
/-- The offset of the first line feed from an offset on; -1 if there is none. -/
def endV (s : ByteArray) (a : Nat) : Int := match nlAt ((bl s).drop a) with
  | none => -1
  | some n => ((a + n : Nat) : Int)
theorem endV_step {s : ByteArray} {k : Nat} (h : k < s.size) (hne : s[k] ≠ 10) : endV s k = endV s (k + 1) := by
  have e : (bl s).drop k = s[k] :: (bl s).drop (k + 1) := List.drop_eq_getElem_cons (by rw [bl_length]; exact h)
  unfold endV
  rw [e, nlAt, if_neg hne]
  cases nlAt ((bl s).drop (k + 1)) with
  | none => rfl
  | some n =>
    show ((k + (n + 1) : Nat) : Int) = ((k + 1 + n : Nat) : Int)
    omega
theorem endV_here {s : ByteArray} {k : Nat} (h : k < s.size) (he : s[k] = 10) : endV s k = (k : Int) := by
  have e : (bl s).drop k = s[k] :: (bl s).drop (k + 1) := List.drop_eq_getElem_cons (by rw [bl_length]; exact h)
  unfold endV
  rw [e, nlAt, if_pos he]
  rfl
theorem endV_out {s : ByteArray} {k : Nat} (h : s.size ≤ k) : endV s k = -1 := by
  unfold endV
  rw [List.drop_eq_nil_of_le (by rw [bl_length]; exact h)]
  rfl
set_option maxHeartbeats 1600000 in
theorem rend_b (s : ByteArray) (a : Nat) (ha : a ≤ s.size) (hz : s.size ≤ 1073741824) (w : World) : Calls Tryz.prog 34 #[.string s, .int .i64 (a : Int)] w fun e w' => e = .returned (.int .i64 (endV s a)) ∧ w' = w := by
  have HZ := Lib.hid (And.intro ha hz)
  clear ha hz
  go_enter Tryz.func34, Tryz.ntmps34
  go_wp2
  go_loop [5] (fun i => ∃ k : Nat, k ≤ s.size ∧ i = .int .i64 (k : Int) ∧ endV s a = endV s k) (fun i => s.size - (intOf i).toNat)
  case atStart => exact ⟨a, HZ.out.1, rfl, rfl⟩
  case round =>
    obtain ⟨k, hk, rfl, he⟩ := hrel
    have HE := Lib.hid he
    have hz := HZ.out.2
    clear he
    by_cases hlt : k < s.size
    · have hlti : (k : Int) < (s.size : Int) := by omega
      obtain ⟨y, hy⟩ : ∃ y, s[k] = y := ⟨_, rfl⟩
      by_cases h10 : y = 10
      · have h10i : (y.toNat : Int) = 10 := by rw [h10]; rfl
        have HH := Lib.hid (endV_here hlt (hy.trans h10))
        clear h10
        go_wp2
        go_ret
        exact ⟨by rw [HE.out, HH.out]; rfl, rfl⟩
      · have h10i : ¬ (y.toNat : Int) = 10 := fun h => h10 (UInt8.toNat_inj.1 (by show y.toNat = 10; omega))
        have HH := Lib.hid (endV_step hlt (by rw [hy]; exact h10))
        clear h10
        go_wp2
        go_round
        case rel => exact ⟨k + 1, by omega, by go_num, by rw [HE.out, HH.out]⟩
        case measure => simp [intOf]; omega
    · have hks : k = s.size := by omega
      have HH := Lib.hid (endV_out (s := s) (k := k) (by omega))
      subst hks
      go_wp2
      go_ret
      exact ⟨by rw [HE.out, HH.out]; rfl, rfl⟩
end Go.Proofs.YtecalodcbkljoaaGreatDoor
namespace Go.Proofs.YtecalodcbkljoaaGreatDoor
open Go.RowKit
/-- The number that a text denotes, -1 if it is none. -/
def numW (l : List UInt8) (most : Int) : Int := if (numE l most).2 = 0 then (numE l most).1 else -1
theorem numV_app : ∀ (l : List UInt8) (a : Int) (c : UInt8), numV (l ++ [c]) a = numV l a * 10 + ((c.toNat : Int) - 48)
  | [], a, c => by unfold numV; show numV [] _ = _; unfold numV; omega
  | d :: r, a, c => by
    rw [List.cons_append, numV, numV]
    exact numV_app r _ c
theorem numV_lt (l : List UInt8) (h : l.all digB = true) : numV l 0 < ((10 ^ l.length : Nat) : Int) := by
  have hg : ∀ (l : List UInt8) (a : Int) (k : Nat), l.all digB = true → 0 ≤ a → a < ((10 ^ k : Nat) : Int) → numV l a < ((10 ^ (k + l.length) : Nat) : Int) := by
    intro l
    induction l with
    | nil => intro a k _ _ h2; exact h2
    | cons c r ih =>
      intro a k h1 h0 h2
      rw [List.all_cons, Bool.and_eq_true] at h1
      have hd := dig_range h1.1
      unfold numV
      have h3 := ih (10 * a + ((c.toNat : Int) - 48)) (k + 1) h1.2 (by omega) (by
        rw [Nat.pow_succ]
        omega)
      rw [List.length_cons, show k + (r.length + 1) = k + 1 + r.length by omega]
      exact h3
  have := hg l 0 0 h (Int.le_refl _) (by decide)
  rwa [Nat.zero_add] at this
theorem numW_no {l : List UInt8} {most : Int} (h : ¬ Valid l) : numW l most = -1 := by
  unfold numW
  rw [numE_no l most h]
  rfl
theorem numW_long {l : List UInt8} {most : Int} (hm : most ≤ 999999999) (h : 9 < l.length) : numW l most = -1 := by
  unfold numW
  split
  · rename_i h0
    obtain ⟨h1, h2, h3⟩ := numE_back h0 rfl
    obtain ⟨v, hv⟩ : ∃ v : Nat, (numE l most).1 = (v : Int) := ⟨(numE l most).1.toNat, by omega⟩
    rw [hv] at h1 h3
    have := itoa_len 9 v (by decide) (by omega)
    rw [h1] at h
    omega
  · rfl
theorem numW_yes {l : List UInt8} {most : Int} (h : Valid l) : numW l most = if most < numV l 0 then -1 else numV l 0 := by
  unfold numW
  rw [numE_yes l most h]
  by_cases hm : numV l 0 ≤ most
  · rw [if_pos hm, if_pos rfl, if_neg (by omega)]
  · rw [if_neg hm, if_neg (by decide), if_pos (by omega)]
theorem take_dig {s : ByteArray} {k : Nat} (h : k < s.size) : (bl s).take (k + 1) = (bl s).take k ++ [s[k]] := by
  rw [List.take_succ_eq_append_getElem (by rw [bl_length]; exact h)]
  rfl
set_option maxHeartbeats 3200000 in
theorem rnum_b (s : ByteArray) (most : Int) (h0 : 0 ≤ most) (hm : most ≤ 999999999) (hz : s.size ≤ 1073741824) (w : World) : Calls Tryz.prog 36 #[.string s, .int .i64 most] w fun e w' => e = .returned (.int .i64 (numW (bl s) most)) ∧ w' = w := by
  by_cases hemp : s.size = 0
  · have hs : s = ⟨#[]⟩ := bl_inj (List.eq_nil_of_length_eq_zero (by rw [bl_length]; exact hemp))
    subst hs
    have HN := Lib.hid (numW_no (l := bl ⟨#[]⟩) (most := most) (fun h => h.1 rfl))
    go_enter Tryz.func36, Tryz.ntmps36
    go_wp2
    go_ret
    exact ⟨by rw [HN.out]; rfl, rfl⟩
  have hse : (s.toList == []) = false := by
    rw [Lib.toList_data]
    have : ¬ bl s = [] := fun h => hemp (by rw [← bl_length, h]; rfl)
    simpa using this
  by_cases h9 : 9 < s.size
  · have h9i : (9 : Int) < (s.size : Int) := by omega
    have HN := Lib.hid (numW_long (l := bl s) hm (by rw [bl_length]; exact h9))
    go_enter Tryz.func36, Tryz.ntmps36
    go_wp2
    go_ret
    exact ⟨by rw [HN.out]; rfl, rfl⟩
  have h9i : ¬ (9 : Int) < (s.size : Int) := by omega
  have hpos : 0 < s.size := by omega
  obtain ⟨c0, hc0⟩ : ∃ c, s[0] = c := ⟨_, rfl⟩
  have hg0 : (bl s).getD 0 0 = c0 := by
    rw [List.getD_eq_getElem?_getD, List.getElem?_eq_getElem (by rw [bl_length]; exact hpos)]
    exact hc0
  by_cases hlz : 1 < s.size ∧ c0.toNat = 48
  · have h1i : (1 : Int) < (s.size : Int) := by omega
    have hz1 : (c0.toNat : Int) = 48 := by omega
    have HN := Lib.hid (numW_no (l := bl s) (most := most) (fun h => h.2.2 ⟨by rw [bl_length]; exact hlz.1, by rw [hg0]; exact UInt8.toNat_inj.1 hlz.2⟩))
    have hp0 : (0 : Int) < (s.size : Int) := by omega
    clear hlz hg0
    go_enter Tryz.func36, Tryz.ntmps36
    go_wp2
    go_ret
    exact ⟨by rw [HN.out]; rfl, rfl⟩
  have HV := Lib.hid (show (bl s).all digB = true → Valid (bl s) from fun h => ⟨fun e => hemp (by rw [← bl_length, e]; rfl), h, fun ⟨q1, q2⟩ => hlz ⟨by rw [← bl_length]; exact q1, by rw [hg0] at q2; rw [q2]; rfl⟩⟩)
  have HN0 := Lib.hid (show ∀ k (h : k < s.size), digB s[k] = false → numW (bl s) most = -1 from fun k h hd => numW_no fun hv => by
    have := List.all_eq_true.1 hv.2.1 s[k] (by rw [← show (bl s)[k]'(by rw [bl_length]; exact h) = s[k] from rfl]; exact List.getElem_mem _)
    rw [hd] at this
    cases this)
  have HS := Lib.hid (show s.size ≤ 9 ∧ 0 ≤ most ∧ most ≤ 999999999 from ⟨by omega, h0, hm⟩)
  have hp0 : (0 : Int) < (s.size : Int) := by omega
  by_cases hs1 : 1 < s.size
  all_goals
    first
    | (have h1i : (1 : Int) < (s.size : Int) := by omega
       have hz1 : ¬ (c0.toNat : Int) = 48 := fun h => hlz ⟨hs1, by omega⟩)
    | (have h1i : ¬ (1 : Int) < (s.size : Int) := by omega)
    clear hlz hg0 hm h0 h9 hemp hs1
    go_enter Tryz.func36, Tryz.ntmps36
    go_wp2
  all_goals
    go_loopw [5, 6] (fun nv i wr => ∃ k : Nat, k ≤ s.size ∧ i = .int .i64 (k : Int) ∧ nv = .int .i64 (numV ((bl s).take k) 0) ∧ ((bl s).take k).all digB = true ∧ wr = w) (fun _ i _ => s.size - (intOf i).toNat)
    case atStart => exact ⟨0, Nat.zero_le _, rfl, rfl, rfl, rfl⟩
    case round =>
      obtain ⟨k, hk, rfl, rfl, hd, rfl⟩ := hrel
      have hlt0 := numV_lt _ hd
      have hge0 := numV_ge _ 0 hd (Int.le_refl _)
      obtain ⟨m, hm⟩ : ∃ m : Int, numV ((bl s).take k) 0 = m := ⟨_, rfl⟩
      rw [hm] at hlt0 hge0
      have HM := Lib.hid hm
      have HD := Lib.hid hd
      rw [hm]
      by_cases hlt : k < s.size
      · have hlti : (k : Int) < (s.size : Int) := by omega
        have hk9 : ((10 ^ ((bl s).take k).length : Nat) : Int) ≤ 100000000 := by
          have h1 : ((bl s).take k).length ≤ 8 := by rw [List.length_take]; have := HS.out.1; omega
          have h2 : 10 ^ ((bl s).take k).length ≤ 10 ^ 8 := Nat.pow_le_pow_right (by decide) h1
          omega
        have hm8 : m < 100000000 := by omega
        obtain ⟨y, hy⟩ : ∃ y, s[k] = y := ⟨_, rfl⟩
        clear hlt0 hk9 hm hd
        cases hdy : digB y with
        | false =>
          have HN := Lib.hid (HN0.out k hlt (by rw [hy]; exact hdy))
          have hr : y.toNat < 48 ∨ 57 < y.toNat := by
            unfold digB at hdy
            simp at hdy
            omega
          rcases hr with hr | hr
          · have h1 : (y.toNat : Int) < 48 := by omega
            clear hdy hr
            go_wp2
            go_ret
            exact ⟨by rw [HN.out]; rfl, rfl⟩
          · have h1 : ¬ (y.toNat : Int) < 48 := by omega
            have h2 : (57 : Int) < (y.toNat : Int) := by omega
            clear hdy hr
            go_wp2
            go_ret
            exact ⟨by rw [HN.out]; rfl, rfl⟩
        | true =>
          have hr := dig_range hdy
          have h1 : ¬ (y.toNat : Int) < 48 := by omega
          have h2 : ¬ (57 : Int) < (y.toNat : Int) := by omega
          have HT := Lib.hid (show numV ((bl s).take (k + 1)) 0 = m * 10 + ((y.toNat : Int) - 48) ∧ ((bl s).take (k + 1)).all digB = true from by
            rw [take_dig hlt, hy]
            refine ⟨by rw [numV_app, HM.out], ?_⟩
            rw [List.all_append, HD.out, List.all_cons, hdy]
            rfl)
          have h3 : IntKind.u8.wrap ((y.toNat : Int) - 48) = (y.toNat : Int) - 48 := by simp [IntKind.wrap, IntKind.bits, IntKind.signed]; omega
          have h4 : (y.toNat : Int) ≤ 57 := by omega
          clear hdy hr
          go_wp2
          go_roundw
          case rel => exact ⟨k + 1, by omega, by go_num, by rw [HT.out.1], HT.out.2, trivial⟩
          case measure => simp [intOf]; omega
      · have hks : k = s.size := by omega
        have HW := Lib.hid (show numW (bl s) most = if most < m then -1 else m from by
          have e : (bl s).take k = bl s := List.take_of_length_le (by rw [bl_length]; omega)
          have h1 := HD.out
          have h2 := HM.out
          rw [e] at h1 h2
          rw [numW_yes (HV.out h1), h2])
        have hk9 : k ≤ 9 := by have := HS.out.1; omega
        subst hks
        clear hlt0 hm hd
        by_cases hmm : most < m
        all_goals
          have HW2 := HW.out
          first
          | rw [if_pos hmm] at HW2
          | rw [if_neg hmm] at HW2
          have HW3 := Lib.hid HW2
          clear HW2
          go_wp2
          go_ret
          exact ⟨by rw [HW3.out]; rfl, rfl⟩
end Go.Proofs.YtecalodcbkljoaaGreatDoor
