/- msgid.Parse at a text that is no message identifier: the code of an error. -/
import Derived.Test.YtecalodcbkljoaaGreatDoorMMid
namespace Go.Proofs.YtecalodcbkljoaaGreatDoor
open Go.RowKit
def MErr (w : World) (e : Ending) (w' : World) : Prop := ∃ a n : Int, e = .returned (.tuple #[vI zI, .int .i64 a, .int .i64 n]) ∧ n ≠ 0 ∧ Below w.heap.size w w'
def AllOk (s : ByteArray) (k : Nat) : Prop := ∀ j (h : j < s.size), j < k → okAt j s[j] = true
theorem AllOk.zero (s : ByteArray) : AllOk s 0 := fun _ _ h => absurd h (Nat.not_lt_zero _)
theorem AllOk.step (s : ByteArray) (k : Nat) (hk : k < s.size) (h : AllOk s k) (ho : okAt k s[k] = true) : AllOk s (k + 1) := by
  intro j hj hlt
  by_cases e : j = k
  · subst e; exact ho
  · exact h j hj (by omega)
theorem AllOk.ident (s : ByteArray) (hz : s.size = 71) (h : AllOk s 71) : identB (bl s) = true := by
  unfold identB
  simp only [Bool.and_eq_true, decide_eq_true_eq]
  refine ⟨by rw [bl_length]; exact hz, List.all_eq_true.2 fun i hi => ?_⟩
  have hi := List.mem_range.1 hi
  rw [List.getD_eq_getElem?_getD, List.getElem?_eq_getElem (by rw [bl_length]; omega)]
  exact h i (by omega) hi
set_option maxRecDepth 100000 in
set_option maxHeartbeats 1600000 in
theorem mparse_lt (s : ByteArray) (w : World) (hz : s.size < 71) : Calls Tryz.prog 75 #[.string s] w (MErr w) := by
  have HB := Lib.hid (below_alloc w (.cells (aI zI) 37))
  go_enter Tryz.func75, Tryz.ntmps75
  go_wp2
  go_loop [10] (fun i => ∃ k : Nat, k ≤ s.size ∧ i = .int .i64 k ∧ AllOk s k) (fun i => s.size - (intOf i).toNat)
  case atStart => exact ⟨0, Nat.zero_le _, rfl, AllOk.zero s⟩
  case round =>
    obtain ⟨k, hk, rfl, ha⟩ := hrel
    have HA := Lib.hid ha; clear ha
    by_cases hlt : k < s.size
    · have hlt2 : k < s.size := by omega
      have hlt3 : k < 71 := by omega
      rcases hok : okAt k s[k] with _ | _
      · go_wp2_with (go_at_call 88; refine (fits_b k _ _ hlt3).mono ?_; rintro e w' ⟨rfl, rfl⟩)
        have hld := load_id (at_new w (cI zI) 37 w.heap.size rfl)
        exact bodyPost_ret (results_c3 (ad := ⟨w.heap.size, 0, none⟩) rfl rfl hld rfl rfl) rfl ⟨_, _, rfl, by decide, HB.out⟩
      · have H2 := Lib.hid (AllOk.step s k hlt2 HA.out hok)
        go_wp2_with (go_at_call 88; refine (fits_b k _ _ hlt3).mono ?_; rintro e w' ⟨rfl, rfl⟩)
        go_round
        case rel => exact ⟨k + 1, by omega, by go_num, H2.out⟩
        case measure => simp [intOf]; omega
    · have hkn : k = s.size := by omega
      subst hkn
      go_wp2
      have hld := load_id (at_new w (cI zI) 37 w.heap.size rfl)
      exact bodyPost_ret (results_c3 (ad := ⟨w.heap.size, 0, none⟩) rfl rfl hld rfl rfl) rfl ⟨_, _, rfl, by decide, HB.out⟩
set_option maxRecDepth 100000 in
set_option maxHeartbeats 1600000 in
theorem mparse_gt (s : ByteArray) (w : World) (hz : 71 < s.size) : Calls Tryz.prog 75 #[.string s] w (MErr w) := by
  have HB := Lib.hid (below_alloc w (.cells (aI zI) 37))
  go_enter Tryz.func75, Tryz.ntmps75
  go_wp2
  go_loop [10] (fun i => ∃ k : Nat, k ≤ 71 ∧ i = .int .i64 k ∧ AllOk s k) (fun i => 71 - (intOf i).toNat)
  case atStart => exact ⟨0, Nat.zero_le _, rfl, AllOk.zero s⟩
  case round =>
    obtain ⟨k, hk, rfl, ha⟩ := hrel
    have HA := Lib.hid ha; clear ha
    by_cases hlt : k < 71
    · have hlt2 : k < s.size := by omega
      have hlt3 : k < 71 := by omega
      rcases hok : okAt k s[k] with _ | _
      · go_wp2_with (go_at_call 88; refine (fits_b k _ _ hlt3).mono ?_; rintro e w' ⟨rfl, rfl⟩)
        have hld := load_id (at_new w (cI zI) 37 w.heap.size rfl)
        exact bodyPost_ret (results_c3 (ad := ⟨w.heap.size, 0, none⟩) rfl rfl hld rfl rfl) rfl ⟨_, _, rfl, by decide, HB.out⟩
      · have H2 := Lib.hid (AllOk.step s k hlt2 HA.out hok)
        go_wp2_with (go_at_call 88; refine (fits_b k _ _ hlt3).mono ?_; rintro e w' ⟨rfl, rfl⟩)
        go_round
        case rel => exact ⟨k + 1, by omega, by go_num, H2.out⟩
        case measure => simp [intOf]; omega
    · have hkn : k = 71 := by omega
      subst hkn
      go_wp2
      have hld := load_id (at_new w (cI zI) 37 w.heap.size rfl)
      exact bodyPost_ret (results_c3 (ad := ⟨w.heap.size, 0, none⟩) rfl rfl hld rfl rfl) rfl ⟨_, _, rfl, by decide, HB.out⟩
set_option maxRecDepth 100000 in
set_option maxHeartbeats 1600000 in
theorem mparse_eq (s : ByteArray) (w : World) (hz : s.size = 71) (h : identB (bl s) = false) : Calls Tryz.prog 75 #[.string s] w (MErr w) := by
  have HI := Lib.hid h; clear h
  have HB := Lib.hid (below_alloc w (.cells (aI zI) 37))
  go_enter Tryz.func75, Tryz.ntmps75
  go_wp2
  go_loop [10] (fun i => ∃ k : Nat, k ≤ 71 ∧ i = .int .i64 k ∧ AllOk s k) (fun i => 71 - (intOf i).toNat)
  case atStart => exact ⟨0, Nat.zero_le _, rfl, AllOk.zero s⟩
  case round =>
    obtain ⟨k, hk, rfl, ha⟩ := hrel
    have HA := Lib.hid ha; clear ha
    by_cases hlt : k < 71
    · have hlt2 : k < s.size := by omega
      have hlt3 : k < 71 := by omega
      rcases hok : okAt k s[k] with _ | _
      · go_wp2_with (go_at_call 88; refine (fits_b k _ _ hlt3).mono ?_; rintro e w' ⟨rfl, rfl⟩)
        have hld := load_id (at_new w (cI zI) 37 w.heap.size rfl)
        exact bodyPost_ret (results_c3 (ad := ⟨w.heap.size, 0, none⟩) rfl rfl hld rfl rfl) rfl ⟨_, _, rfl, by decide, HB.out⟩
      · have H2 := Lib.hid (AllOk.step s k hlt2 HA.out hok)
        go_wp2_with (go_at_call 88; refine (fits_b k _ _ hlt3).mono ?_; rintro e w' ⟨rfl, rfl⟩)
        go_round
        case rel => exact ⟨k + 1, by omega, by go_num, H2.out⟩
        case measure => simp [intOf]; omega
    · have hkn : k = 71 := by omega
      subst hkn
      exact absurd (AllOk.ident s hz HA.out) (by rw [HI.out]; decide)
theorem mparse_no (s : ByteArray) (w : World) (h : identB (bl s) = false) : Calls Tryz.prog 75 #[.string s] w (MErr w) := by
  rcases Nat.lt_trichotomy s.size 71 with hz | hz | hz
  · exact mparse_lt s w hz
  · exact mparse_eq s w hz h
  · exact mparse_gt s w hz
end Go.Proofs.YtecalodcbkljoaaGreatDoor
