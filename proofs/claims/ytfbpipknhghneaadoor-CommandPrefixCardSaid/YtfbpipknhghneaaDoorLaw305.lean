/- bulletinlaw30.CommandPrefix: whatever the command, the law returns true. -/
import Derived.Test.YtfbpipknhghneaaDoorLaw304
namespace Go.Proofs.YtfbpipknhghneaaDoor
open Go.RowKit
theorem bl_take (t : ByteArray) (k : Nat) (hk : k ≤ t.size) : bl (t.extract 0 k) = (bl t).take k := by
  rw [bl_seg t 0 k hk]
  unfold seg
  rw [List.drop_zero, Nat.sub_zero]
theorem pre_short (c : Cm) (h : chk c = 0) (t : ByteArray) (ht : bl t = encT c) (k : Nat) (hk : k < t.size) : decL (bl (t.extract 0 k)) = (zC, 0, 4) := by
  rw [bl_take t k (Nat.le_of_lt hk), ht]
  exact dec_short c h k (by rw [← ht, bl_length]; exact hk)
set_option maxRecDepth 100000 in
set_option maxHeartbeats 3200000 in
theorem law5 (c : Cm) (hc : c.ints) (w : World) (hL : Laid w) : Calls Tryd.prog 5 #[vC c] w fun e w' => e = .returned (.bool true) ∧ Below w.heap.size w w' := by
  have HL := Lib.hid hL
  obtain ⟨b, hb⟩ : ∃ b, w.heap.size = b := ⟨_, rfl⟩
  have HB1 := Lib.hid (below_alloc w (.cells (aC c) 31))
  have HR1 := Lib.hid (show Row (w.alloc (.cells (aC c) 31)) b (cC c) 31 by rw [← hb]; exact Row.new w (cC c) 31)
  obtain ⟨W1, hW1⟩ : ∃ W1, w.alloc (.cells (aC c) 31) = W1 := ⟨_, rfl⟩
  rw [hW1] at HB1 HR1
  have HC := Lib.hid (And.intro (show W1.cell? ⟨b, 1, none⟩ = some (.string c.name) from HR1.out.cell 1) (show W1.cell? ⟨b, 38, none⟩ = some (.string c.text) from (HR1.out.cell 38).trans (cC_at (aC_38 c))))
  have hbx : (bxA 31 (vC c)).run Tryd.prog w = .ok (.pointer (some ⟨b, 0, none⟩)) W1 := by rw [run_bx31, hW1, hb]
  clear hL
  by_cases hg : 300 < c.text.size ∨ 100 < c.name.size
  · have T0 : True := trivial
    have HG := Lib.hid hg
    have hg' : 300 < c.text.size ∨ (¬ 300 < c.text.size ∧ 100 < c.name.size) := by omega
    rcases hg' with hl1 | ⟨hl1, hl2⟩
    all_goals
      clear hg
      go_enter Tryd.func5, Tryd.ntmps5
      go_wp2_with (first
        | (have hh := T0; clear hh T0; go_at_call 11; refine (known11 _ (HL.out.keep HB1.out)).mono ?_; rintro e w1 ⟨rfl, hb1⟩; have c1 := cell_below HC.out.1 hb1; have c7 := cell_below HC.out.2 hb1; have H1 := Lib.hid hb1; clear hb1)
        | (go_at_call 11; refine (known11 _ ((HL.out.keep HB1.out).keep H1.out)).mono ?_; rintro e w2 ⟨rfl, hb2⟩; have H2 := Lib.hid hb2; clear hb2))
      go_ret
      exact ⟨rfl, Below.trans HB1.out ((Below.step H1.out H2.out).mono HB1.out.size)⟩
  · have hl1 : ¬ 300 < c.text.size := by omega
    have hl2 : ¬ 100 < c.name.size := by omega
    clear hg
    have H15 := Lib.hid (fun w1 (hl : Laid w1) => encode15 c w1 hl ⟨by omega, by omega, hc.size, hc.from_, hc.count, hc.code⟩)
    have HLE := Lib.hid (encT_len c (by omega))
    clear hc
    have HP := Lib.hid (show ∀ t : ByteArray, bl t = encT c → ∀ k, k < t.size → decL (bl (t.extract 0 k)) = (zC, 0, 4) from fun t ht k hk => by
      by_cases he : chk c = 0
      · exact pre_short c he t ht k hk
      · rw [encT_no c he] at ht
        have h0 : t.size = 0 := by rw [← bl_length, ht]; rfl
        omega)
    go_enter Tryd.func5, Tryd.ntmps5
    go_wp2_with (first
      | (go_at_call 11; refine (known11 _ (HL.out.keep HB1.out)).mono ?_; rintro e w1 ⟨rfl, hb1⟩; have c1 := cell_below HC.out.1 hb1; have c7 := cell_below HC.out.2 hb1; have H1 := Lib.hid hb1; clear hb1; have rr1 := okC (HR1.out.keep H1.out); have rr2 := rdC (HR1.out.keep H1.out))
      | (go_at_call 14; refine (own14 c _).mono ?_; rintro e w2 ⟨rfl, hb2⟩; clear rr1 rr2; have H2 := Lib.hid (Below.step H1.out hb2); clear hb2)
      | (go_at_call 15; refine (H15.out _ ((HL.out.keep HB1.out).keep H2.out)).mono ?_; rintro e w3 ⟨t, rfl, ht, hb3⟩; have hts : t.size ≤ 2598 := (by rw [← bl_length, ht]; exact HLE.out); have H3 := Lib.hid (And.intro (Below.trans HB1.out ((Below.step H2.out hb3).mono HB1.out.size)) (HP.out t ht)); clear ht hb3))
    go_loopw [5] (fun i wr => ∃ j : Nat, i = .int .i64 j ∧ j ≤ t.size ∧ Below w.heap.size w wr) (fun i _ => t.size + 1 - (intOf i).toNat)
    case atStart => exact ⟨0, rfl, by omega, H3.out.1⟩
    case round =>
      obtain ⟨j, rfl, hj, hbw⟩ := hrel
      have HBW := Lib.hid hbw
      clear hbw
      by_cases hlt : j < t.size
      · have hlt1 : (j : Int) < (t.size : Int) := by omega
        have H12 := Lib.hid (fun w1 => decode12 (t.extract 0 j) w1 (by have := bl_length (t.extract 0 j); rw [bl_take t j hj, List.length_take] at this; omega))
        rw [H3.out.2 j hlt] at H12
        go_wp2_with (go_at_call 12; refine (H12.out _ (HL.out.keep HBW.out)).mono ?_; rintro e w4 ⟨rfl, hb4⟩; have H4 := Lib.hid (Below.step HBW.out hb4); clear hb4)
        go_roundw
        case rel => exact ⟨j + 1, by go_num, by omega, Below.step H4.out (below_alloc _ _)⟩
        case measure => simp [intOf] <;> omega
      · have hlt1 : ¬ (j : Int) < (t.size : Int) := by omega
        go_wp2
        go_ret
        exact ⟨rfl, by rw [← hb]; exact HBW.out⟩
end Go.Proofs.YtfbpipknhghneaaDoor
