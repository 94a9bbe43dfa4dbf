/- The reference's Number. -/
import Derived.Test.YtnljplnjdbjplaaDoorRefDg2
namespace Go.Proofs.YtnljplnjdbjplaaDoor
open Go.RowKit
def NuP (w : World) (r : Int × Int) (e : Ending) (w' : World) : Prop := e = .returned (.tuple #[.int .i64 r.1, .int .i64 r.2]) ∧ w = w'
theorem nu_bad (s : ByteArray) (k : Nat) (hk : k < s.size) (h : digB s[k] = false) : ¬ Valid (bl s) := by
  rintro ⟨_, ha, _⟩
  have := List.all_eq_true.1 ha s[k] (List.getElem_mem (by rw [bl_length]; exact hk) : (bl s)[k]'(by rw [bl_length]; exact hk) ∈ bl s)
  rw [h] at this
  cases this
theorem nu_dig (s : ByteArray) (h : (bl s).all digB = true) (k : Nat) (hk : k < s.size) : 48 ≤ s[k].toNat ∧ s[k].toNat ≤ 57 :=
  dig_range (List.all_eq_true.1 h s[k] (List.getElem_mem (by rw [bl_length]; exact hk) : (bl s)[k]'(by rw [bl_length]; exact hk) ∈ bl s))
theorem nu_all (s : ByteArray) (h : ∀ j (hj : j < s.size), digB s[j] = true) : (bl s).all digB = true := by
  refine List.all_eq_true.2 fun x hx => ?_
  obtain ⟨j, hj, rfl⟩ := List.getElem_of_mem hx
  exact h j (by rw [← bl_length]; exact hj)
set_option maxRecDepth 100000 in
set_option maxHeartbeats 3200000 in
theorem refNumber31 (s : ByteArray) (most : Int) (hm0 : -9223372036854775808 ≤ most) (hm1 : most ≤ 9223372036854775807) (r : Int × Int) (hr : numE (bl s) most = r) (w : World) (hs : s.size ≤ 1000000) :
    Calls Tryd.prog 31 #[.string s, .int .i64 most] w (NuP w r) := by
  by_cases h0 : s.size = 0
  · have hz : ((s.size : Int) == 0) = true := by rw [h0]; rfl
    have hr2 : r = (0, 3) := by
      rw [← hr]
      refine numE_no _ _ fun h => h.1 (List.eq_nil_of_length_eq_zero (by rw [bl_length]; exact h0))
    subst hr2
    clear hr h0
    go_enter Tryd.func31, Tryd.ntmps31
    go_wp2
    go_ret2
    exact ⟨rfl, rfl⟩
  · have hz : ((s.size : Int) == 0) = false := beq_eq_false_iff_ne.2 (by omega)
    have hlt0 : 0 < s.size := by omega
    have hi1 : (0 : Int) < (s.size : Int) := by omega
    have hg0 : (bl s).getD 0 0 = s[0] := by rw [List.getD_eq_getElem?_getD, List.getElem?_eq_getElem (by rw [bl_length]; exact hlt0)]; rfl
    have hne : bl s ≠ [] := fun h => h0 (by rw [← bl_length, h]; rfl)
    by_cases hl : 1 < s.size ∧ s[0] = 48
    · have h1 : (s.size : Int) > 1 := by omega
      have h2 : ((s[0].toNat : Int) == 48) = true := by rw [hl.2]; rfl
      have hr2 : r = (0, 3) := by
        rw [← hr]
        refine numE_no _ _ fun h => h.2.2 ⟨by rw [bl_length]; exact hl.1, by rw [hg0]; exact hl.2⟩
      subst hr2
      clear hr hl hg0
      go_enter Tryd.func31, Tryd.ntmps31
      go_wp2
      go_ret2
      exact ⟨rfl, rfl⟩
    · have hlead : ¬ (1 < (bl s).length ∧ (bl s).getD 0 0 = 48) := by rw [hg0, bl_length]; exact hl
      have HV := Lib.hid (And.intro hr (And.intro hne hlead))
      have hfork : (¬ (s.size : Int) > 1) ∨ (((s.size : Int) > 1) ∧ ((s[0].toNat : Int) == 48) = false) := by
        by_cases h1 : 1 < s.size
        · refine .inr ⟨by omega, beq_eq_false_iff_ne.2 fun e => hl ⟨h1, UInt8.toNat_inj.1 (by rw [show (48 : UInt8).toNat = 48 from rfl]; omega)⟩⟩
        · exact .inl (by omega)
      clear hr hne hlead hg0 hl
      rcases hfork with h1 | ⟨h1, h2⟩
      all_goals
        go_enter Tryd.func31, Tryd.ntmps31
        go_wp2
        go_loop [6] (fun i => ∃ k : Nat, k ≤ s.size ∧ i = .int .i64 k ∧ ∀ j (hj : j < s.size), j < k → digB s[j] = true) (fun i => s.size - (intOf i).toNat)
        case atStart => exact ⟨0, Nat.zero_le _, rfl, fun j _ h => by omega⟩
        case round =>
          obtain ⟨k, hk, rfl, hall⟩ := hrel
          have HA := Lib.hid hall
          clear hall
          by_cases hlt : k < s.size
          · cases hd : digB s[k] with
            | false =>
              have hr2 := numE_no (bl s) most (nu_bad s k hlt hd)
              rw [HV.out.1] at hr2
              subst hr2
              go_wp2_with (go_at_call 42; refine (refDigit_b s[k] _).mono ?_; rintro e w' ⟨rfl, rfl⟩; rw [hd])
              go_ret2
              exact ⟨rfl, rfl⟩
            | true =>
              go_wp2_with (go_at_call 42; refine (refDigit_b s[k] _).mono ?_; rintro e w' ⟨rfl, rfl⟩; rw [hd])
              go_round
              case rel =>
                refine ⟨k + 1, hlt, by go_num, fun j hj hjk => ?_⟩
                by_cases hjq : j = k
                · subst hjq; exact hd
                · exact HA.out j hj (by omega)
              case measure => simp [intOf] <;> omega
          · have hkn : k = s.size := by omega
            subst hkn
            have hval : Valid (bl s) := ⟨HV.out.2.1, nu_all s (fun j hj => HA.out j hj hj), HV.out.2.2⟩
            have hnum := numE_yes (bl s) most hval
            rw [HV.out.1] at hnum
            have HN := Lib.hid (And.intro hval.2.1 hnum)
            clear hval hnum
            go_wp2
            go_loop [7, 8] (fun v i => ∃ (k : Nat) (a : Int), k ≤ s.size ∧ i = .int .i64 k ∧ v = .int .i64 a ∧ 0 ≤ a ∧ a ≤ 9223372036854775807 ∧ numV ((bl s).drop k) a = numV (bl s) 0) (fun _ i => s.size - (intOf i).toNat)
            case atStart => exact ⟨0, 0, Nat.zero_le _, rfl, rfl, by omega, by omega, rfl⟩
            case round =>
              obtain ⟨k, a, hk, rfl, rfl, ha0, ha1, hnum⟩ := hrel
              by_cases hlt : k < s.size
              · obtain ⟨hd1, hd2⟩ := nu_dig s HN.out.1 k hlt
                have hge := numV_ge ((bl s).drop (k + 1)) (10 * a + ((s[k].toNat : Int) - 48)) (by
                  refine List.all_eq_true.2 fun x hx => List.all_eq_true.1 HN.out.1 x (List.mem_of_mem_drop hx)) (by omega)
                rw [bl_drop s k hlt, numV] at hnum
                rw [hnum] at hge
                have HM := Lib.hid (And.intro hnum hge)
                clear hnum hge
                have hd3 : (48 : Int) ≤ (s[k].toNat : Int) := by omega
                have hd4 : (s[k].toNat : Int) ≤ 57 := by omega
                by_cases hov : (9223372036854775807 - ((s[k].toNat : Int) - 48)) / 10 < a
                · have hr2 : r = (0, 2) := by rw [HN.out.2, if_neg]; have := HM.out.2; omega
                  subst hr2
                  go_wp2
                  go_ret2
                  exact ⟨rfl, rfl⟩
                · have hb1 : 10 * a + ((s[k].toNat : Int) - 48) ≤ 9223372036854775807 := by omega
                  go_wp2
                  go_round
                  case rel => exact ⟨k + 1, 10 * a + ((s[k].toNat : Int) - 48), hlt, by go_num, by go_num, by omega, hb1, HM.out.1⟩
                  case measure => simp [intOf] <;> omega
              · have hkn : k = s.size := by omega
                subst hkn
                rw [List.drop_eq_nil_of_le (by rw [bl_length]; exact Nat.le_refl _), numV] at hnum
                have hfin := HN.out.2
                rw [← hnum] at hfin
                by_cases hgt : most < a
                · rw [if_neg (by omega)] at hfin
                  subst hfin
                  clear hnum
                  go_wp2
                  go_ret2
                  exact ⟨rfl, rfl⟩
                · rw [if_pos (by omega)] at hfin
                  subst hfin
                  clear hnum
                  go_wp2
                  go_ret2
                  exact ⟨rfl, rfl⟩
end Go.Proofs.YtnljplnjdbjplaaDoor
