/- The last line of a batch; Unpack. -/
import Derived.Test.YtecalodcbkljoaaDoorMItc
namespace Go.Proofs.YtecalodcbkljoaaDoor
open Go.RowKit
def CuE (g : Nat) (s : ByteArray) (r : Except (Int × Nat) Unit) (w : World) : Prop :=
  match r with
  | .ok _ => ∃ at_ wh, Row w g (cU ⟨s, at_, 0, wh⟩) 53
  | .error (e, k) => e ≠ 0 ∧ ∃ at_, Row w g (cU ⟨s, at_, e, (k : Int)⟩) 53
theorem last_err (g : Nat) (x : Cu) (w : World) (hrow : Row w g (cU x) 53) (h0 : x.err ≠ 0) :
    Calls Tryd.prog 20 #[.pointer (some ⟨g, 0, none⟩)] w fun e w' => e = .returned (.tuple #[]) ∧ w' = w := by
  have c2 : w.cell? ⟨g, 2, none⟩ = some (.int .i64 x.err) := by rw [hrow.cell]; rfl
  have hb : (x.err != 0) = true := by simpa using h0
  have HL := Lib.hid (line_err g x w hrow h0)
  clear hrow h0
  go_enter Tryd.func20, Tryd.ntmps20
  go_wp2_with (go_at_call 31; refine HL.out.mono ?_; rintro e w1 ⟨rfl, rfl⟩)
  go_end0
  exact ⟨rfl, rfl⟩
set_option maxRecDepth 100000 in
set_option maxHeartbeats 3200000 in
theorem last_c (g : Nat) (s : ByteArray) (a : Nat) (w : World) (hrow : Row w g (cU ⟨s, (a : Int), 0, 0⟩) 53) (hsz : s.size ≤ 1073741824) (hle : a ≤ s.size) :
    Calls Tryd.prog 20 #[.pointer (some ⟨g, 0, none⟩)] w fun e w' => e = .returned (.tuple #[]) ∧ One g w w' ∧ CuE g s (lastP (bl s) a) w' := by
  have hS := bl_length s
  rcases hq : nlAt ((bl s).drop a) with _ | n
  · have hr : lastP (bl s) a = .error (23, s.size) := by unfold lastP; rw [hq, hS]
    rw [hr]
    have HL := Lib.hid (line_no g ⟨s, (a : Int), 0, 0⟩ a w hrow rfl rfl hsz hle hq)
    clear hrow hq hr hS
    go_enter Tryd.func20, Tryd.ntmps20
    go_wp2_with (go_at_call 31; refine HL.out.mono ?_; rintro e w1 ⟨rfl, ho1, hr1⟩; have c2 : w1.cell? ⟨g, 2, none⟩ = some (.int .i64 23) := (hr1.cell 2).trans rfl; have H1 := Lib.hid (And.intro ho1 hr1); clear ho1 hr1)
    go_end0
    exact ⟨rfl, H1.out.1, by decide, _, H1.out.2⟩
  · have hlt := (nlAt_spec hq).2.2
    rw [List.length_drop, hS] at hlt
    obtain ⟨L, hL⟩ : ∃ L, s.extract a (a + n) = L := ⟨_, rfl⟩
    have hbl : bl L = ((bl s).drop a).take n := by rw [← hL, bl_piece]
    have HL := Lib.hid (line_yes g ⟨s, (a : Int), 0, 0⟩ a w n hrow rfl rfl hsz hle hq)
    have hLs : L.size ≤ 1073741824 := by rw [← bl_length, hbl, List.length_take, List.length_drop]; omega
    obtain ⟨q, hqq⟩ : ∃ q, a + n + 1 = q := ⟨_, rfl⟩
    rw [hqq] at HL
    obtain ⟨E1, hE1⟩ : ∃ E1, L ++ (⟨#[10]⟩ : ByteArray) = E1 := ⟨_, rfl⟩
    have hadd : ¬ 9223372036854775807 < L.size + 1 := by omega
    have HLL := Lib.hid hL
    by_cases he : bl L = [101, 110, 100]
    case neg =>
      have hr : lastP (bl s) a = .error (3, a) := by unfold lastP; rw [hq]; simp only []; rw [← hbl, if_pos he]
      rw [hr]
      have hcmp : (E1.toList == [101, 110, 100, 10]) = false := by
        rw [beq_eq_false_iff_ne, Lib.toList_data, ← hE1]
        intro h
        have h2 : bl (L ++ (⟨#[10]⟩ : ByteArray)) = [101, 110, 100] ++ [10] := h
        rw [bl_app] at h2
        exact he (List.append_inj_left' h2 rfl)
      clear hrow hq hr hS hbl hL hlt hqq he
      go_enter Tryd.func20, Tryd.ntmps20
      go_wp2_with (first
        | (go_at_call 31; refine HL.out.mono ?_; rintro e w1 ⟨rfl, ho1, hr1⟩; rw [HLL.out]; have c2 : w1.cell? ⟨g, 2, none⟩ = some (.int .i64 0) := (hr1.cell 2).trans rfl; have H1 := Lib.hid (And.intro ho1 hr1); clear ho1 hr1)
        | (go_at_call 34; refine (fail_c g _ 3 (a : Int) _ H1.out.2 rfl).mono ?_; rintro e w4 ⟨rfl, ho4, hr4⟩; have H4 := Lib.hid (And.intro (H1.out.1.trans ho4) hr4); clear ho4 hr4))
      go_end0
      exact ⟨rfl, H4.out.1, by decide, _, H4.out.2⟩
    have hcmp : (E1.toList == [101, 110, 100, 10]) = true := by
      rw [beq_iff_eq, Lib.toList_data, ← hE1]
      show bl (L ++ (⟨#[10]⟩ : ByteArray)) = _
      rw [bl_app, he]
      rfl
    by_cases hm : q < s.size
    case pos =>
      have hr : lastP (bl s) a = .error (5, q) := by unfold lastP; rw [hq]; simp only []; rw [← hbl, if_neg (by rw [he]; decide), if_pos (by rw [hS, hqq]; exact hm), hqq]
      rw [hr]
      have hmi : (q : Int) < (s.size : Int) := by omega
      clear hrow hq hr hS hbl hL hlt hqq he
      go_enter Tryd.func20, Tryd.ntmps20
      go_wp2_with (first
        | (go_at_call 31; refine HL.out.mono ?_; rintro e w1 ⟨rfl, ho1, hr1⟩; rw [HLL.out]; have c2 : w1.cell? ⟨g, 2, none⟩ = some (.int .i64 0) := (hr1.cell 2).trans rfl; have H1 := Lib.hid (And.intro ho1 hr1); clear ho1 hr1))
      have d0 : ∀ k, (w1.drewN k).cell? ⟨g, 0, none⟩ = some (.string s) := fun k => (H1.out.2.drewN k).cell 0
      have d1 : ∀ k, (w1.drewN k).cell? ⟨g, 1, none⟩ = some (.int .i64 (q : Int)) := fun k => (H1.out.2.drewN k).cell 1
      go_quiet (fail)
      obtain ⟨W2, hW2⟩ : ∃ W2, w1.drewN nq = W2 := ⟨_, rfl⟩
      have H2 := Lib.hid (show One g w W2 ∧ Row W2 g (cU ⟨s, (q : Int), 0, 0⟩) 53 from by rw [← hW2]; exact ⟨H1.out.1.trans (One.of_below (below_drewN _ _)), H1.out.2.drewN nq⟩)
      rw [hW2]
      clear hW2 d0 d1
      have c1 : W2.cell? ⟨g, 1, none⟩ = some (.int .i64 (q : Int)) := H2.out.2.cell 1
      go_wp2_with (go_at_call 34; refine (fail_c g _ 5 (q : Int) _ H2.out.2 rfl).mono ?_; rintro e w4 ⟨rfl, ho4, hr4⟩; have H4 := Lib.hid (And.intro (H2.out.1.trans ho4) hr4); clear ho4 hr4)
      go_end0
      exact ⟨rfl, H4.out.1, by decide, _, H4.out.2⟩
    have hr : lastP (bl s) a = .ok () := by unfold lastP; rw [hq]; simp only []; rw [← hbl, if_neg (by rw [he]; decide), if_neg (by rw [hS, hqq]; exact hm)]
    rw [hr]
    have hmi : ¬ (q : Int) < (s.size : Int) := by omega
    clear hrow hq hr hS hbl hL hlt hqq he
    go_enter Tryd.func20, Tryd.ntmps20
    go_wp2_with (first
      | (go_at_call 31; refine HL.out.mono ?_; rintro e w1 ⟨rfl, ho1, hr1⟩; rw [HLL.out]; have c2 : w1.cell? ⟨g, 2, none⟩ = some (.int .i64 0) := (hr1.cell 2).trans rfl; have H1 := Lib.hid (And.intro ho1 hr1); clear ho1 hr1))
    have d0 : ∀ k, (w1.drewN k).cell? ⟨g, 0, none⟩ = some (.string s) := fun k => (H1.out.2.drewN k).cell 0
    have d1 : ∀ k, (w1.drewN k).cell? ⟨g, 1, none⟩ = some (.int .i64 (q : Int)) := fun k => (H1.out.2.drewN k).cell 1
    go_quiet (fail)
    obtain ⟨W2, hW2⟩ : ∃ W2, w1.drewN nq = W2 := ⟨_, rfl⟩
    have H2 := Lib.hid (show One g w W2 ∧ Row W2 g (cU ⟨s, (q : Int), 0, 0⟩) 53 from by rw [← hW2]; exact ⟨H1.out.1.trans (One.of_below (below_drewN _ _)), H1.out.2.drewN nq⟩)
    rw [hW2]
    clear hW2 d0 d1
    go_wp2
    go_end0
    exact ⟨rfl, H2.out.1, _, _, H2.out.2⟩
end Go.Proofs.YtecalodcbkljoaaDoor
