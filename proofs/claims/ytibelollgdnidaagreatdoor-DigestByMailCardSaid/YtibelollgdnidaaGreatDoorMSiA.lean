/- The names of sites: msgid.Site and the reference's. command: Check. -/
import Derived.Test.YtibelollgdnidaaGreatDoorMTyA
namespace Go.Proofs.YtibelollgdnidaaGreatDoor
section
open Go.RowKit
def loB (c : UInt8) : Bool := decide (97 ≤ c.toNat) && decide (c.toNat ≤ 122)
def perB (c : UInt8) : Bool := loB c || digB c || c == 45 || c == 46
def misL (l : List UInt8) (j : Nat) : Bool :=
 if j = 0 then !loB (l.getD 0 0) else (l.getD j 0 == 46 && l.getD (j - 1) 0 == 46) || (decide (j + 1 = l.length) && (l.getD j 0 == 45 || l.getD j 0 == 46))
def siteB (l : List UInt8) : Bool := decide (1 ≤ l.length) && decide (l.length ≤ 30) && l.all perB && (List.range l.length).all fun j => !misL l j
set_option maxHeartbeats 400000 in
theorem isLower_b (c : UInt8) (w : World) : Calls Tryz.prog 68 #[vB c] w fun e w' => e = .returned (.bool (loB c)) ∧ w = w' := by
 go_enter Tryz.func68, Tryz.ntmps68
 go_wp2
 all_goals
  go_ret
  exact ⟨ret_bool (by unfold loB; rw [Bool.eq_iff_iff]; simp; try omega), rfl⟩
theorem byte_is (c d : UInt8) : (((c.toNat : Nat) : Int) == ((d.toNat : Nat) : Int)) = (c == d) := by
 rw [Bool.eq_iff_iff]; simp only [beq_iff_eq, Int.natCast_inj]; exact ⟨UInt8.toNat_inj.1, fun h => by rw [h]⟩
set_option maxHeartbeats 800000 in
theorem isPer (c : UInt8) (w : World) : Calls Tryz.prog 67 #[vB c] w fun e w' => e = .returned (.bool (perB c)) ∧ w = w' := by
 have e45 : (((c.toNat : Nat) : Int) == 45) = (c == 45) := byte_is c 45
 have e46 : (((c.toNat : Nat) : Int) == 46) = (c == 46) := byte_is c 46
 rcases h1 : loB c with _ | _
 ·rcases h2 : digB c with _ | _
  ·rcases h3 : (c == 45) with _ | _
   ·rcases h4 : (c == 46) with _ | _
    all_goals
     rw [h3] at e45
     rw [h4] at e46
     have H := Lib.hid (And.intro h1 (And.intro h2 (And.intro h3 h4)))
     clear h3 h4
     go_enter Tryz.func67, Tryz.ntmps67
     go_wp2_with (first
      | (go_at_call 68; refine (isLower_b _ _).mono ?_; rintro e w' ⟨rfl, rfl⟩; rw [h1])
      | (go_at_call 108; refine (isDigit_b _ _).mono ?_; rintro e w' ⟨rfl, rfl⟩; rw [h2]))
     go_ret
     exact ⟨ret_bool (by unfold perB; rw [H.out.1, H.out.2.1, H.out.2.2.1, H.out.2.2.2]; rfl), rfl⟩
   ·rw [h3] at e45
    have H := Lib.hid (And.intro h1 (And.intro h2 h3))
    clear h3
    go_enter Tryz.func67, Tryz.ntmps67
    go_wp2_with (first
     | (go_at_call 68; refine (isLower_b _ _).mono ?_; rintro e w' ⟨rfl, rfl⟩; rw [h1])
     | (go_at_call 108; refine (isDigit_b _ _).mono ?_; rintro e w' ⟨rfl, rfl⟩; rw [h2]))
    go_ret
    exact ⟨ret_bool (by unfold perB; rw [H.out.1, H.out.2.1, H.out.2.2]; rfl), rfl⟩
  ·go_enter Tryz.func67, Tryz.ntmps67
   go_wp2_with (first
    | (go_at_call 68; refine (isLower_b _ _).mono ?_; rintro e w' ⟨rfl, rfl⟩; rw [h1])
    | (go_at_call 108; refine (isDigit_b _ _).mono ?_; rintro e w' ⟨rfl, rfl⟩; rw [h2]))
   go_ret
   exact ⟨ret_bool (by unfold perB; rw [h1, h2]; rfl), rfl⟩
 ·go_enter Tryz.func67, Tryz.ntmps67
  go_wp2_with (go_at_call 68; refine (isLower_b _ _).mono ?_; rintro e w' ⟨rfl, rfl⟩; rw [h1])
  go_ret
  exact ⟨ret_bool (by unfold perB; rw [h1]; rfl), rfl⟩
def SiteR (l : List UInt8) (w : World) (e : Ending) (w' : World) : Prop := ∃ a n : Int, e = .returned (.tuple #[.int .i64 a, .int .i64 n]) ∧ decide (n = 0) = siteB l ∧ w' = w
theorem SiteR.no {l : List UInt8} {w : World} (a n : Int) (h : siteB l = false) (hn : n ≠ 0) : SiteR l w (.returned (.tuple #[.int .i64 a, .int .i64 n])) w := ⟨a, n, rfl, by rw [h]; exact decide_eq_false hn, rfl⟩
theorem SiteR.yes {l : List UInt8} {w : World} (a : Int) (h : siteB l = true) : SiteR l w (.returned (.tuple #[.int .i64 a, .int .i64 0])) w := ⟨a, 0, rfl, by rw [h]; rfl, rfl⟩
theorem getD_at (s : ByteArray) (j : Nat) (h : j < s.size) : (bl s).getD j 0 = s[j] := by
 rw [List.getD_eq_getElem?_getD, List.getElem?_eq_getElem (by rw [bl_length]; exact h)]
 rfl
theorem site_empty (s : ByteArray) (h : s.size = 0) : siteB (bl s) = false := by
 unfold siteB
 rw [bl_length, h]
 rfl
theorem site_long (s : ByteArray) (h : 30 < s.size) : siteB (bl s) = false := by
 unfold siteB
 rw [bl_length, decide_eq_false (show ¬ s.size ≤ 30 by omega)]
 simp
theorem site_per (s : ByteArray) (j : Nat) (hj : j < s.size) (h : perB s[j] = false) : siteB (bl s) = false := by
 unfold siteB
 have : (bl s).all perB = false := by
  rw [List.all_eq_false]
  exact ⟨s[j], List.getElem_mem _, by rw [h]; decide⟩
 rw [this]
 simp
theorem site_mis (s : ByteArray) (j : Nat) (hj : j < s.size) (h : misL (bl s) j = true) : siteB (bl s) = false := by
 unfold siteB
 have : ((List.range (bl s).length).all fun j => !misL (bl s) j) = false := by
  rw [List.all_eq_false]
  exact ⟨j, List.mem_range.2 (by rw [bl_length]; exact hj), by rw [h]; decide⟩
 rw [this]
 simp
theorem site_ok (s : ByteArray) (h1 : 1 ≤ s.size) (h2 : s.size ≤ 30) (h3 : ∀ j (hj : j < s.size), perB s[j] = true) (h4 : ∀ j, j < s.size → misL (bl s) j = false) : siteB (bl s) = true := by
 unfold siteB
 rw [bl_length, decide_eq_true h1, decide_eq_true h2]
 have e1 : (bl s).all perB = true := by
  rw [List.all_eq_true]
  intro x hx
  obtain ⟨j, hj, rfl⟩ := List.getElem_of_mem hx
  exact h3 j (by rw [bl_length] at hj; exact hj)
 have e2 : ((List.range s.size).all fun j => !misL (bl s) j) = true := by
  rw [List.all_eq_true]
  intro j hj
  rw [h4 j (List.mem_range.1 hj)]
  rfl
 rw [e1, e2]
 rfl
theorem mis_zero (s : ByteArray) (h : 0 < s.size) : misL (bl s) 0 = !loB s[0] := by
 unfold misL
 rw [if_pos rfl, getD_at s 0 h]
theorem mis_succ (s : ByteArray) (i : Nat) (h : i + 1 < s.size) : misL (bl s) (i + 1) = ((s[i + 1] == 46 && s[i] == 46) || (decide (i + 2 = s.size) && (s[i + 1] == 45 || s[i + 1] == 46))) := by
 unfold misL
 rw [if_neg (by omega), getD_at s (i + 1) h, Nat.add_sub_cancel, getD_at s i (by omega), bl_length]
theorem lo_not (c : UInt8) (h : loB c = true) : (c == 45) = false ∧ (c == 46) = false := by
 have h2 : (!loB c || (!(c == 45) && !(c == 46))) = true := byte_all (p := fun c => !loB c || (!(c == 45) && !(c == 46))) (by decide +kernel) c
 rw [h] at h2
 simpa using h2
theorem byte_eq0 (s : ByteArray) (j : Nat) (h : j < s.size) (c : UInt8) : (((s[j].toNat : Nat) : Int) == ((c.toNat : Nat) : Int)) = (s[j] == c) := byte_is s[j] c
set_option maxRecDepth 100000 in
set_option maxHeartbeats 6400000 in
theorem site37 (s : ByteArray) (w : World) (hs : s.size ≤ 1000000) : Calls Tryz.prog 31 #[.string s] w (SiteR (bl s) w) := by
 by_cases h0 : s.size = 0
 ·have he : s.toList.isEmpty = true := by rw [ByteArray.toList_eq, List.isEmpty_iff]; exact List.length_eq_zero_iff.1 h0
  have HX := Lib.hid (site_empty s h0)
  clear h0
  go_enter Tryz.func31, Tryz.ntmps31
  go_wp2
  go_ret2
  exact SiteR.no _ _ HX.out (by decide)
 have he : s.toList.isEmpty = false := by
  rw [ByteArray.toList_eq, Bool.eq_false_iff]
  intro e
  exact h0 (List.length_eq_zero_iff.2 (List.isEmpty_iff.1 e))
 by_cases hl : 30 < s.size
 ·have HX := Lib.hid (site_long s hl)
  clear h0
  go_enter Tryz.func31, Tryz.ntmps31
  go_wp2
  go_ret2
  exact SiteR.no _ _ HX.out (by decide)
 have HZ := Lib.hid (show 1 ≤ s.size ∧ s.size ≤ 30 by omega)
 clear h0
 go_enter Tryz.func31, Tryz.ntmps31
 go_wp2
 go_loop [17] (fun i => ∃ j : Nat, j ≤ s.size ∧ i = .int .i64 j ∧ ∀ k (h : k < s.size), k < j → perB s[k] = true) (fun i => s.size - (intOf i).toNat)
 case atStart => exact ⟨0, Nat.zero_le _, rfl, fun _ _ h => absurd h (Nat.not_lt_zero _)⟩
 case round =>
  obtain ⟨j, hj, rfl, hall⟩ := hrel
  have HP := Lib.hid hall
  clear hall
  by_cases hlt : j < s.size
  ·cases hp : perB s[j] with
   | false =>
    have HX := Lib.hid (site_per s j hlt hp)
    go_wp2_with (go_at_call 67; refine (isPer _ _).mono ?_; rintro e w' ⟨rfl, rfl⟩; rw [hp])
    go_ret2
    exact SiteR.no _ _ HX.out (by decide)
   | true =>
    have HX := Lib.hid hp
    go_wp2_with (go_at_call 67; refine (isPer _ _).mono ?_; rintro e w' ⟨rfl, rfl⟩; rw [hp])
    go_round
    case rel => exact ⟨j + 1, hlt, by go_num, fun k hk hkj => (Nat.lt_succ_iff_lt_or_eq.1 hkj).elim (fun h => HP.out k hk h) (fun h => by subst h; exact HX.out)⟩
    case measure => simp [intOf]; omega
  ·obtain rfl : j = s.size := by omega
   go_wp2
   go_loop [29] (fun i => ∃ j : Nat, j ≤ s.size ∧ i = .int .i64 j ∧ ∀ k, k < j → misL (bl s) k = false) (fun i => s.size - (intOf i).toNat)
   case atStart => exact ⟨0, Nat.zero_le _, rfl, fun _ h => absurd h (Nat.not_lt_zero _)⟩
   case round =>
    obtain ⟨j, hj2, rfl, hmis⟩ := hrel
    have HA := Lib.hid hmis
    clear hmis
    by_cases hlt : j < s.size
    ·cases j with
     | zero =>
      have hm := mis_zero s hlt
      cases hlo : loB s[0] with
      | false =>
       rw [hlo] at hm
       have HM := Lib.hid hm
       clear hm
       go_wp2_with (go_at_call 68; refine (isLower_b _ _).mono ?_; rintro e w' ⟨rfl, rfl⟩; rw [hlo])
       go_ret2
       exact SiteR.no _ _ (site_mis s 0 hlt HM.out) (by decide)
      | true =>
       rw [hlo] at hm
       have HM := Lib.hid hm
       clear hm
       obtain ⟨l1, l2⟩ := lo_not _ hlo
       have e45 : (((s[0].toNat : Nat) : Int) == 45) = false := (byte_eq0 s 0 hlt 45).trans l1
       have e46 : (((s[0].toNat : Nat) : Int) == 46) = false := (byte_eq0 s 0 hlt 46).trans l2
       clear l1 l2
       go_wp2_with (go_at_call 68; refine (isLower_b _ _).mono ?_; rintro e w' ⟨rfl, rfl⟩; rw [hlo])
       all_goals
        go_round
        case rel => exact ⟨0 + 1, hlt, by go_num, fun k hk => (Nat.lt_succ_iff_lt_or_eq.1 hk).elim (fun h => HA.out k h) (fun h => by rw [h]; exact HM.out)⟩
        case measure => simp [intOf]; omega
     | succ i =>
      have hi : i < s.size := by omega
      have hm := mis_succ s i hlt
      have e45 := byte_eq0 s (i + 1) hlt 45
      have e46 := byte_eq0 s (i + 1) hlt 46
      have p46 := byte_eq0 s i hi 46
      change (((s[i + 1].toNat : Nat) : Int) == 45) = _ at e45
      change (((s[i + 1].toNat : Nat) : Int) == 46) = _ at e46
      change (((s[i].toNat : Nat) : Int) == 46) = _ at p46
      by_cases hz : i + 2 = s.size
      ·rw [decide_eq_true hz] at hm
       have hzb : i + 2 = s.size := hz
       rcases h4 : (s[i + 1] == 46) with _ | _
       ·rw [h4] at e46
        rcases h5 : (s[i + 1] == 45) with _ | _
        ·rw [h5] at e45
         rw [h4, h5] at hm
         have HM := Lib.hid (hm.trans (show _ = false from rfl))
         clear hm
         go_wp2
         all_goals
          first
          | omega
          | (go_round
             case rel => exact ⟨(i + 1) + 1, hlt, by go_num, fun k hk => (Nat.lt_succ_iff_lt_or_eq.1 hk).elim (fun h => HA.out k h) (fun h => by rw [h]; exact HM.out)⟩
             case measure => simp [intOf]; omega)
        ·rw [h5] at e45
         rw [h4, h5] at hm
         have HM := Lib.hid (hm.trans (show _ = true from rfl))
         clear hm
         go_wp2
         all_goals
          first
          | omega
          | (go_ret2
             exact SiteR.no _ _ (site_mis s (i + 1) hlt HM.out) (by decide))
       ·rw [h4] at e46
        rcases h6 : (s[i] == 46) with _ | _
        ·rw [h6] at p46
         have h5 : (s[i + 1] == 45) = false := by rw [show s[i + 1] = 46 by simpa using h4]; decide
         rw [h5] at e45
         rw [h4, h6, h5] at hm
         have HM := Lib.hid (hm.trans (show _ = true from rfl))
         clear hm
         go_wp2
         all_goals
          first
          | omega
          | (go_ret2
             exact SiteR.no _ _ (site_mis s (i + 1) hlt HM.out) (by decide))
        ·rw [h6] at p46
         rw [h4, h6] at hm
         have HM := Lib.hid (hm.trans (show _ = true from rfl))
         clear hm
         go_wp2
         all_goals
          first
          | omega
          | (go_ret2
             exact SiteR.no _ _ (site_mis s (i + 1) hlt HM.out) (by decide))
      ·rw [decide_eq_false hz] at hm
       have hzb : ¬ (i : Int) + 1 = (s.size : Int) - 1 := by omega
       rcases h4 : (s[i + 1] == 46) with _ | _
       ·rw [h4] at e46
        rw [h4] at hm
        have HM := Lib.hid (hm.trans (show _ = false from rfl))
        clear hm
        go_wp2
        all_goals
         first
         | omega
         | (go_round
            case rel => exact ⟨(i + 1) + 1, hlt, by go_num, fun k hk => (Nat.lt_succ_iff_lt_or_eq.1 hk).elim (fun h => HA.out k h) (fun h => by rw [h]; exact HM.out)⟩
            case measure => simp [intOf]; omega)
       ·rw [h4] at e46
        rcases h6 : (s[i] == 46) with _ | _
        ·rw [h6] at p46
         rw [h4, h6] at hm
         have HM := Lib.hid (hm.trans (show _ = false from rfl))
         clear hm
         go_wp2
         all_goals
          first
          | omega
          | (go_round
             case rel => exact ⟨(i + 1) + 1, hlt, by go_num, fun k hk => (Nat.lt_succ_iff_lt_or_eq.1 hk).elim (fun h => HA.out k h) (fun h => by rw [h]; exact HM.out)⟩
             case measure => simp [intOf]; omega)
        ·rw [h6] at p46
         rw [h4, h6] at hm
         have HM := Lib.hid (hm.trans (show _ = true from rfl))
         clear hm
         go_wp2
         all_goals
          first
          | omega
          | (go_ret2
             exact SiteR.no _ _ (site_mis s (i + 1) hlt HM.out) (by decide))
    ·obtain rfl : j = s.size := by omega
     have HX := Lib.hid (site_ok s HZ.out.1 HZ.out.2 (fun k hk => HP.out k hk hk) HA.out)
     go_wp2
     go_ret2
     exact SiteR.yes _ HX.out
end
end Go.Proofs.YtibelollgdnidaaGreatDoor
