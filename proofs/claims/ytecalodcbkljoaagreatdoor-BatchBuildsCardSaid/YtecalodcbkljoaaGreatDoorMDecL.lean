/- ascii.Number. Numbers in decimal: the value of digits, and the digits of a value. -/
import Derived.Test.YtecalodcbkljoaaGreatDoorMUnhex
import Derived.Lib.ItoaNum
namespace Go.Proofs.YtecalodcbkljoaaGreatDoor
open Go.RowKit
set_option maxHeartbeats 400000 in
theorem skip_p (f : Nat) (p : UInt8 → Bool) (hc : ∀ c w, Calls Tryz.prog f #[vB c] w fun e w' => e = .returned (.bool (p c)) ∧ w = w') (hcf : ∀ (args : Array Value) (W : World), Sem.run Tryz.prog (callFunc f args) W = .ok (.enter f args) W) (s : ByteArray) (k : Nat) (w : World) (hk : k ≤ s.size) (hs : s.size ≤ 4611686018427387904) :
    Calls Tryz.prog 71 #[.string s, .int .i64 (k : Int), .func (.func f) #[] #[]] w fun e w' => e = .returned (.int .i64 ((k + runL p ((bl s).drop k) : Nat) : Int)) ∧ w = w' := by
  have HC := Lib.hid hc
  clear hc
  go_enter Tryz.func71, Tryz.ntmps71
  go_wp2
  go_loop [1] (fun i => ∃ j : Nat, j ≤ s.size ∧ i = .int .i64 j ∧ k + runL p ((bl s).drop k) = j + runL p ((bl s).drop j)) (fun i => s.size - (intOf i).toNat)
  case atStart => exact ⟨k, hk, rfl, rfl⟩
  case round =>
    obtain ⟨j, hj, rfl, he⟩ := hrel
    by_cases hlt : j < s.size
    · rcases hp : p s[j] with _ | _
      · rw [runL_no p s j hlt hp] at he
        have HE := Lib.hid he; clear he
        go_wp2_with (refine (HC.out _ _).mono ?_; rintro e w' ⟨rfl, rfl⟩; rw [hp])
        go_ret
        exact ⟨ret_int (by have := HE.out; omega), rfl⟩
      · rw [runL_yes p s j hlt hp] at he
        have HE := Lib.hid he; clear he
        go_wp2_with (refine (HC.out _ _).mono ?_; rintro e w' ⟨rfl, rfl⟩; rw [hp])
        go_round
        case rel => exact ⟨j + 1, hlt, by go_num, by rw [HE.out]; omega⟩
        case measure => simp [intOf]; omega
    · rw [runL_end p s j (by omega)] at he
      have HE := Lib.hid he; clear he
      have hjn : j = s.size := by omega
      subst hjn
      go_wp2
      go_ret
      exact ⟨ret_int (by have := HE.out; omega), rfl⟩
/-- The loop of Number: the digits from n on. -/
def numL (most : Int) : List UInt8 → Int → Int × Int
  | [], n => (n, 0)
  | c :: r, n => if most / 10 < n ∨ (n = most / 10 ∧ most % 10 < (c.toNat : Int) - 48) then (0, 2) else numL most r (10 * n + ((c.toNat : Int) - 48))
/-- What Number returns. -/
def numE (l : List UInt8) (most : Int) : Int × Int :=
  if l = [] ∨ runL digB l < l.length ∨ (1 < l.length ∧ l.getD 0 0 = 48) then (0, 3) else if most < 0 then (0, 2) else numL most l 0
set_option maxRecDepth 100000 in
set_option maxHeartbeats 1600000 in
theorem number29 (s : ByteArray) (most : Int) (hm0 : -9223372036854775808 ≤ most) (hm1 : most ≤ 9223372036854775807) (r : Int × Int) (hr : numE (bl s) most = r) (w : World) (hs : s.size ≤ 4294967296) :
    Calls Tryz.prog 54 #[.string s, .int .i64 most] w fun e w' => e = .returned (.tuple #[.int .i64 r.1, .int .i64 r.2]) ∧ w = w' := by
  have hcf : ∀ (args : Array Value) (W : World), Sem.run Tryz.prog (callFunc 72 args) W = .ok (.enter 72 args) W := enters_of Tryz.func72 (by kernel_rfl) rfl
  have hsk := skip_p 72 digB isDigit_b hcf s 0 w (Nat.zero_le _) (by omega)
  simp only [List.drop_zero, Nat.zero_add] at hsk
  obtain ⟨n, hn⟩ : ∃ n, runL digB (bl s) = n := ⟨_, rfl⟩
  have hle := runL_le digB (bl s)
  rw [bl_length, hn] at hle
  rw [hn] at hsk
  have HS := Lib.hid (And.intro hsk (And.intro hr hn))
  clear hsk hcf hr hn
  by_cases h0 : s.size = 0
  · have hs0 : s = ⟨#[]⟩ := by
      have : s.data = #[] := Array.eq_empty_of_size_eq_zero h0
      cases s; simp_all
    subst hs0
    have hr := HS.out.2.1
    have hr2 : r = (0, 3) := by rw [← hr]; rfl
    subst hr2
    clear hr
    go_enter Tryz.func54, Tryz.ntmps54
    go_wp2
    go_ret2
    exact ⟨rfl, rfl⟩
  · have hne2 : ¬ s.toList = [] := by
      rw [Lib.toList_data]
      intro h
      apply h0
      rw [← bl_length]
      simp [bl, h]
    have hemp : s.toList.isEmpty = false := by simpa using hne2
    have hne3 : ¬ bl s = [] := fun h => h0 (by rw [← bl_length, h]; rfl)
    by_cases h1 : n < s.size
    · have hi1 : (n : Int) < (s.size : Int) := by omega
      have hr2 : r = (0, 3) := by rw [← HS.out.2.1]; unfold numE; rw [if_pos (.inr (.inl (by rw [HS.out.2.2, bl_length]; exact h1)))]
      subst hr2
      go_enter Tryz.func54, Tryz.ntmps54
      go_wp2_with (go_at_call 71; refine HS.out.1.mono ?_; rintro e w1 ⟨rfl, rfl⟩)
      all_goals
        go_ret2
        exact ⟨rfl, rfl⟩
    · have hn1 : n = s.size := by omega
      subst hn1
      have hall := (runL_all digB (bl s)).1 (by rw [HS.out.2.2, bl_length])
      have hd : ∀ k (h : k < s.size), 48 ≤ s[k].toNat ∧ s[k].toNat ≤ 57 := fun k h => by
        have := List.all_eq_true.1 hall s[k] (List.getElem_mem (by rw [bl_length]; exact h) : (bl s)[k]'(by rw [bl_length]; exact h) ∈ bl s)
        unfold digB at this
        simp at this
        exact this
      have hlt0 : 0 < s.size := by omega
      have hi1 : (0 : Int) < (s.size : Int) := by omega
      have hg0 : (bl s).getD 0 0 = s[0] := by rw [List.getD_eq_getElem?_getD, List.getElem?_eq_getElem (by rw [bl_length]; exact hlt0)]; rfl
      have HD := Lib.hid (And.intro hd (And.intro hg0 hne3))
      clear hd hg0 hall hne3 hle
      by_cases hz : 1 < s.size ∧ (s[0].toNat : Int) = 48
      · obtain ⟨hz1, hz2⟩ := hz
        have hi2 : (1 : Int) < (s.size : Int) := by omega
        have hr2 : r = (0, 3) := by
          rw [← HS.out.2.1]; unfold numE
          rw [if_pos (.inr (.inr ⟨by rw [bl_length]; exact hz1, by rw [HD.out.2.1]; exact UInt8.toNat_inj.1 (by simp; omega)⟩))]
        subst hr2
        go_enter Tryz.func54, Tryz.ntmps54
        go_wp2_with (go_at_call 71; refine HS.out.1.mono ?_; rintro e w1 ⟨rfl, rfl⟩)
        all_goals
          go_ret2
          exact ⟨rfl, rfl⟩
      · have hr2 : r = if most < 0 then (0, 2) else numL most (bl s) 0 := by
          rw [← HS.out.2.1]; unfold numE
          rw [if_neg]
          rintro (h | h | ⟨h, h'⟩)
          · exact HD.out.2.2 h
          · rw [HS.out.2.2, bl_length] at h; omega
          · rw [bl_length] at h
            rw [HD.out.2.1] at h'
            exact hz ⟨h, by rw [h']; rfl⟩
        have hz2 : 1 < s.size → ¬ (s[0].toNat : Int) = 48 := fun h h' => hz ⟨h, h'⟩
        clear hz
        by_cases h1s : 1 < s.size
        · have hi2 : (1 : Int) < (s.size : Int) := by omega
          have hz3 : ((s[0].toNat : Int) == 48) = false := beq_eq_false_iff_ne.2 (hz2 h1s)
          clear hz2
          by_cases hneg : most < 0
          · rw [if_pos hneg] at hr2
            subst hr2
            go_enter Tryz.func54, Tryz.ntmps54
            go_wp2_with (go_at_call 71; refine HS.out.1.mono ?_; rintro e w1 ⟨rfl, rfl⟩)
            all_goals
              go_ret2
              exact ⟨rfl, rfl⟩
          · rw [if_neg hneg] at hr2
            have HR := Lib.hid hr2
            clear hr2
            have hmn : 0 ≤ most := by omega
            go_enter Tryz.func54, Tryz.ntmps54
            go_wp2_with (go_at_call 71; refine HS.out.1.mono ?_; rintro e w1 ⟨rfl, rfl⟩)
            go_loop [6, 32] (fun v i => ∃ (k : Nat) (a : Int), k ≤ s.size ∧ i = .int .i64 k ∧ v = .int .i64 a ∧ 0 ≤ a ∧ a ≤ most ∧ numL most ((bl s).drop k) a = r) (fun _ i => s.size - (intOf i).toNat)
            case atStart => exact ⟨0, 0, Nat.zero_le _, rfl, rfl, by omega, hmn, HR.out.symm⟩
            case round =>
              obtain ⟨k, a, hk, rfl, rfl, ha0, ha1, hnum⟩ := hrel
              by_cases hlt : k < s.size
              · obtain ⟨hd1, hd2⟩ := HD.out.1 k hlt
                rw [bl_drop s k hlt] at hnum
                unfold numL at hnum
                have hd3 : (48 : Int) ≤ (s[k].toNat : Int) := by omega
                have hd4 : (s[k].toNat : Int) ≤ 57 := by omega
                by_cases hov : most / 10 < a ∨ (a = most / 10 ∧ most % 10 < (s[k].toNat : Int) - 48)
                · rw [if_pos hov] at hnum
                  subst hnum
                  rcases hov with h | ⟨h, h'⟩
                  · go_wp2
                    all_goals
                      go_ret2
                      exact ⟨rfl, rfl⟩
                  · subst h
                    go_wp2
                    all_goals
                      go_ret2
                      exact ⟨rfl, rfl⟩
                · rw [if_neg hov] at hnum
                  have hng : a ≤ most / 10 := by omega
                  have hfit : 10 * a + ((s[k].toNat : Int) - 48) ≤ most := by omega
                  have HO := Lib.hid hov
                  clear hov
                  go_wp2
                  all_goals
                    go_round
                    case rel => exact ⟨k + 1, 10 * a + ((s[k].toNat : Int) - 48), by omega, by go_num, by first | rfl | (congr 1; omega), by omega, hfit, hnum⟩
                    case measure => simp [intOf]; omega
              · have hkn : k = s.size := by omega
                subst hkn
                rw [List.drop_eq_nil_of_le (by rw [bl_length]; exact Nat.le_refl _)] at hnum
                unfold numL at hnum
                subst hnum
                go_wp2
                go_ret2
                exact ⟨rfl, rfl⟩
        · have hi2 : ¬ (1 : Int) < (s.size : Int) := by omega
          clear hz2
          by_cases hneg : most < 0
          · rw [if_pos hneg] at hr2
            subst hr2
            go_enter Tryz.func54, Tryz.ntmps54
            go_wp2_with (go_at_call 71; refine HS.out.1.mono ?_; rintro e w1 ⟨rfl, rfl⟩)
            all_goals
              go_ret2
              exact ⟨rfl, rfl⟩
          · rw [if_neg hneg] at hr2
            have HR := Lib.hid hr2
            clear hr2
            have hmn : 0 ≤ most := by omega
            go_enter Tryz.func54, Tryz.ntmps54
            go_wp2_with (go_at_call 71; refine HS.out.1.mono ?_; rintro e w1 ⟨rfl, rfl⟩)
            go_loop [6, 32] (fun v i => ∃ (k : Nat) (a : Int), k ≤ s.size ∧ i = .int .i64 k ∧ v = .int .i64 a ∧ 0 ≤ a ∧ a ≤ most ∧ numL most ((bl s).drop k) a = r) (fun _ i => s.size - (intOf i).toNat)
            case atStart => exact ⟨0, 0, Nat.zero_le _, rfl, rfl, by omega, hmn, HR.out.symm⟩
            case round =>
              obtain ⟨k, a, hk, rfl, rfl, ha0, ha1, hnum⟩ := hrel
              by_cases hlt : k < s.size
              · obtain ⟨hd1, hd2⟩ := HD.out.1 k hlt
                rw [bl_drop s k hlt] at hnum
                unfold numL at hnum
                have hd3 : (48 : Int) ≤ (s[k].toNat : Int) := by omega
                have hd4 : (s[k].toNat : Int) ≤ 57 := by omega
                by_cases hov : most / 10 < a ∨ (a = most / 10 ∧ most % 10 < (s[k].toNat : Int) - 48)
                · rw [if_pos hov] at hnum
                  subst hnum
                  rcases hov with h | ⟨h, h'⟩
                  · go_wp2
                    all_goals
                      go_ret2
                      exact ⟨rfl, rfl⟩
                  · subst h
                    go_wp2
                    all_goals
                      go_ret2
                      exact ⟨rfl, rfl⟩
                · rw [if_neg hov] at hnum
                  have hng : a ≤ most / 10 := by omega
                  have hfit : 10 * a + ((s[k].toNat : Int) - 48) ≤ most := by omega
                  have HO := Lib.hid hov
                  clear hov
                  go_wp2
                  all_goals
                    go_round
                    case rel => exact ⟨k + 1, 10 * a + ((s[k].toNat : Int) - 48), by omega, by go_num, by first | rfl | (congr 1; omega), by omega, hfit, hnum⟩
                    case measure => simp [intOf]; omega
              · have hkn : k = s.size := by omega
                subst hkn
                rw [List.drop_eq_nil_of_le (by rw [bl_length]; exact Nat.le_refl _)] at hnum
                unfold numL at hnum
                subst hnum
                go_wp2
                go_ret2
                exact ⟨rfl, rfl⟩
end Go.Proofs.YtecalodcbkljoaaGreatDoor
namespace Go.Proofs.YtecalodcbkljoaaGreatDoor
open Go.RowKit
/-- The value of digits behind a number. -/
def numV : List UInt8 → Int → Int
  | [], n => n
  | c :: r, n => numV r (10 * n + ((c.toNat : Int) - 48))
theorem dig_range {c : UInt8} (h : digB c = true) : 48 ≤ c.toNat ∧ c.toNat ≤ 57 := by
  unfold digB at h
  simpa using h
theorem numV_ge : ∀ (l : List UInt8) (a : Int), l.all digB = true → 0 ≤ a → a ≤ numV l a
  | [], a, _, _ => Int.le_refl _
  | c :: r, a, h, h0 => by
    rw [List.all_cons, Bool.and_eq_true] at h
    have hd := dig_range h.1
    have := numV_ge r (10 * a + ((c.toNat : Int) - 48)) h.2 (by omega)
    unfold numV
    omega
theorem numL_val (most : Int) : ∀ (l : List UInt8) (a : Int), l.all digB = true → 0 ≤ a → a ≤ most → numL most l a = if numV l a ≤ most then (numV l a, 0) else (0, 2)
  | [], a, _, _, h => by unfold numL numV; rw [if_pos h]
  | c :: r, a, h, h0, hm => by
    rw [List.all_cons, Bool.and_eq_true] at h
    have hd := dig_range h.1
    unfold numL numV
    by_cases hov : most / 10 < a ∨ (a = most / 10 ∧ most % 10 < (c.toNat : Int) - 48)
    · have := numV_ge r (10 * a + ((c.toNat : Int) - 48)) h.2 (by omega)
      rw [if_pos hov, if_neg (by omega)]
    · rw [if_neg hov]
      exact numL_val most r _ h.2 (by omega) (by omega)
/-- A text that Number accepts but for its size. -/
def Valid (l : List UInt8) : Prop := l ≠ [] ∧ l.all digB = true ∧ ¬ (1 < l.length ∧ l.getD 0 0 = 48)
theorem numE_no (l : List UInt8) (most : Int) (h : ¬ Valid l) : numE l most = (0, 3) := by
  unfold numE
  rw [if_pos]
  by_cases h1 : l = []
  · exact .inl h1
  · by_cases h2 : l.all digB = true
    · refine .inr (.inr ?_)
      refine Classical.byContradiction fun h3 => h ⟨h1, h2, h3⟩
    · refine .inr (.inl ?_)
      have h3 := runL_le digB l
      rcases Nat.lt_or_ge (runL digB l) l.length with h4 | h4
      · exact h4
      · exact absurd ((runL_all digB l).1 (by omega)) h2
theorem numE_yes (l : List UInt8) (most : Int) (h : Valid l) : numE l most = if numV l 0 ≤ most then (numV l 0, 0) else (0, 2) := by
  have h0 := numV_ge l 0 h.2.1 (Int.le_refl _)
  unfold numE
  rw [if_neg]
  · by_cases hn : most < 0
    · rw [if_pos hn, if_neg (by omega)]
    · rw [if_neg hn]
      exact numL_val most l 0 h.2.1 (Int.le_refl _) (by omega)
  · rintro (h1 | h1 | h1)
    · exact h.1 h1
    · rw [(runL_all digB l).2 h.2.1] at h1
      omega
    · exact h.2.2 h1
theorem numV_append : ∀ (l r : List UInt8) (a : Int), numV (l ++ r) a = numV r (numV l a)
  | [], _, _ => rfl
  | c :: l, r, a => by
    rw [List.cons_append, numV, numV]
    exact numV_append l r _
theorem dg48 (x : Nat) (h : x < 10) : (UInt8.ofNat (48 + x)).toNat = 48 + x := by rw [UInt8.toNat_ofNat']; omega
theorem digB_dg (x : Nat) (h : x < 10) : digB (UInt8.ofNat (48 + x)) = true := by
  unfold digB
  rw [dg48 x h]
  simp
  omega
theorem dec_all : ∀ (u : Nat), (Lib.decDigits u).all digB = true := by
  intro u
  induction u using Nat.strongRecOn with
  | _ u ih =>
    rw [Lib.decDigits]
    split
    · rename_i h
      rw [List.all_cons, digB_dg u h]
      rfl
    · rename_i h
      rw [List.all_append, ih (u / 10) (by omega), List.all_cons, digB_dg (u % 10) (by omega)]
      rfl
theorem dec_val : ∀ (u : Nat), numV (Lib.decDigits u) 0 = (u : Int) := by
  intro u
  induction u using Nat.strongRecOn with
  | _ u ih =>
    rw [Lib.decDigits]
    split
    · rename_i h
      rw [numV, numV, dg48 u h]
      omega
    · rename_i h
      rw [numV_append, ih (u / 10) (by omega), numV, numV, dg48 (u % 10) (by omega)]
      omega
theorem dec_ne (u : Nat) : Lib.decDigits u ≠ [] := by
  rw [Lib.decDigits]
  split <;> simp
theorem dec_head : ∀ (u : Nat), 0 < u → (Lib.decDigits u).getD 0 0 ≠ 48 := by
  intro u
  induction u using Nat.strongRecOn with
  | _ u ih =>
    intro h0
    rw [Lib.decDigits]
    split
    · rename_i h
      intro e
      have := congrArg UInt8.toNat e
      rw [List.getD_cons_zero, dg48 u h] at this
      have h48 : (48 : UInt8).toNat = 48 := rfl
      rw [h48] at this
      omega
    · rename_i h
      have := ih (u / 10) (by omega) (by omega)
      cases hd : Lib.decDigits (u / 10) with
      | nil => exact absurd hd (dec_ne _)
      | cons c r => rw [hd] at this; exact this
theorem dec_valid (u : Nat) : Valid (Lib.decDigits u) := by
  refine ⟨dec_ne u, dec_all u, ?_⟩
  rintro ⟨h1, h2⟩
  rcases Nat.eq_zero_or_pos u with h0 | h0
  · subst h0
    rw [Lib.decDigits] at h1
    simp at h1
  · exact dec_head u h0 h2
theorem val_dec_aux : ∀ (n : Nat) (l : List UInt8), l.length = n → l ≠ [] → l.all digB = true → l.getD 0 0 ≠ 48 → 0 < numV l 0 ∧ Lib.decDigits (numV l 0).toNat = l := by
  intro n
  induction n with
  | zero => intro l h hne; exact absurd (List.eq_nil_of_length_eq_zero h) hne
  | succ n ih =>
    intro l h hne ha h48
    obtain ⟨r, c, rfl⟩ : ∃ r c, l = r ++ [c] := ⟨l.dropLast, l.getLast hne, (List.dropLast_concat_getLast hne).symm⟩
    rw [List.all_append, Bool.and_eq_true] at ha
    have hd := dig_range (show digB c = true by have := ha.2; simpa using this)
    have hc : UInt8.ofNat (48 + (c.toNat - 48)) = c := by
      rw [show 48 + (c.toNat - 48) = c.toNat by omega]
      exact UInt8.ofNat_toNat
    cases r with
    | nil =>
      have hne48 : c.toNat ≠ 48 := fun e => h48 (by simpa using UInt8.toNat_inj.1 e)
      have e1 : numV ([] ++ [c]) 0 = (c.toNat : Int) - 48 := by simp [numV]
      rw [e1]
      refine ⟨by omega, ?_⟩
      rw [show ((c.toNat : Int) - 48).toNat = c.toNat - 48 by omega, Lib.decDigits, dif_pos (by omega), hc]
      rfl
    | cons b q =>
      obtain ⟨h1, h2⟩ := ih (b :: q) (by simp at h ⊢; omega) (by simp) ha.1 h48
      obtain ⟨v, hv⟩ : ∃ v : Nat, numV (b :: q) 0 = (v : Int) := ⟨(numV (b :: q) 0).toNat, by omega⟩
      rw [hv] at h1 h2
      have e1 : numV ((b :: q) ++ [c]) 0 = 10 * (v : Int) + ((c.toNat : Int) - 48) := by rw [numV_append, hv]; rfl
      rw [e1]
      refine ⟨by omega, ?_⟩
      rw [show (10 * (v : Int) + ((c.toNat : Int) - 48)).toNat = 10 * v + (c.toNat - 48) by omega, Lib.decDigits, dif_neg (by omega), show (10 * v + (c.toNat - 48)) / 10 = v by omega, show (10 * v + (c.toNat - 48)) % 10 = c.toNat - 48 by omega, hc]
      rw [show ((v : Int)).toNat = v by omega] at h2
      rw [h2]
theorem val_dec (l : List UInt8) (h : Valid l) : Lib.decDigits (numV l 0).toNat = l := by
  by_cases h48 : l.getD 0 0 = 48
  · have h1 : l.length = 1 := by
      have := h.2.2
      have : l.length ≠ 0 := fun e => h.1 (List.eq_nil_of_length_eq_zero e)
      have : ¬ 1 < l.length := fun e => h.2.2 ⟨e, h48⟩
      omega
    match l, h1, h48 with
    | [c], _, h48 =>
      obtain rfl : c = 48 := by simpa using h48
      rw [show (numV [48] 0).toNat = 0 from rfl, Lib.decDigits]
      rfl
  · exact (val_dec_aux l.length l rfl h.1 h.2.1 h48).2
end Go.Proofs.YtecalodcbkljoaaGreatDoor
