/- bulletinlaw30.CommandRoundTrip: whatever the command and what follows, the law returns true. -/
import Derived.Test.YtfbpipknhghneaaDoorPlA
namespace Go.Proofs.YtfbpipknhghneaaDoor
open Go.RowKit
/-- A command's ints are ints. -/
structure Cm.ints (c : Cm) : Prop where
  size : i64 c.size
  from_ : i64 c.from_
  count : i64 c.count
  code : i64 c.code
theorem okC {w : World} {b : Nat} {c : Cm} {t : TypeId} (h : Row w b (cC c) t) : okA w ⟨b, 0, none⟩ 39 = true := (h.okw (cC_length c)).1
theorem rdC {w : World} {b : Nat} {c : Cm} {t : TypeId} (h : Row w b (cC c) t) : rdA w ⟨b, 0, none⟩ 39 = vC c := (h.okw (cC_length c)).2
set_option maxRecDepth 100000 in
set_option maxHeartbeats 3200000 in
theorem law4 (c : Cm) (hc : c.ints) (rest : ByteArray) (w : World) (hL : Laid w) : Calls Tryd.prog 4 #[vC c, .string rest] w fun e w' => e = .returned (.bool true) ∧ Below w.heap.size w w' := by
  have HL := Lib.hid hL
  obtain ⟨b, hb⟩ : ∃ b, w.heap.size = b := ⟨_, rfl⟩
  have HB1 := Lib.hid (below_alloc w (.cells (aC c) 31))
  have HR1 := Lib.hid (show Row (w.alloc (.cells (aC c) 31)) b (cC c) 31 by rw [← hb]; exact Row.new w (cC c) 31)
  obtain ⟨W1, hW1⟩ : ∃ W1, w.alloc (.cells (aC c) 31) = W1 := ⟨_, rfl⟩
  rw [hW1] at HB1 HR1
  have HC := Lib.hid (And.intro (show W1.cell? ⟨b, 1, none⟩ = some (.string c.name) from HR1.out.cell 1) (show W1.cell? ⟨b, 38, none⟩ = some (.string c.text) from (HR1.out.cell 38).trans (cC_at (aC_38 c))))
  have hbx : (bxA 31 (vC c)).run Tryd.prog w = .ok (.pointer (some ⟨b, 0, none⟩)) W1 := by rw [run_bx31, hW1, hb]
  clear hL
  by_cases hg : 600 < c.text.size ∨ 100 < c.name.size ∨ 300 < rest.size
  · have T0 : True := trivial
    have HG := Lib.hid hg
    have hg' : 600 < c.text.size ∨ (¬ 600 < c.text.size ∧ 100 < c.name.size) ∨ (¬ 600 < c.text.size ∧ ¬ 100 < c.name.size ∧ 300 < rest.size) := by omega
    rcases hg' with hl1 | ⟨hl1, hl2⟩ | ⟨hl1, hl2, hl3⟩
    all_goals
      clear hg
      go_enter Tryd.func4, Tryd.ntmps4
      go_wp2_with (first
        | (have hh := T0; clear hh T0; go_at_call 11; refine (known11 _ (HL.out.keep HB1.out)).mono ?_; rintro e w1 ⟨rfl, hb1⟩; have c1 := cell_below HC.out.1 hb1; have c7 := cell_below HC.out.2 hb1; have H1 := Lib.hid hb1; clear hb1)
        | (go_at_call 11; refine (known11 _ ((HL.out.keep HB1.out).keep H1.out)).mono ?_; rintro e w2 ⟨rfl, hb2⟩; have H2 := Lib.hid hb2; clear hb2))
      go_ret
      exact ⟨rfl, Below.trans HB1.out ((Below.step H1.out H2.out).mono HB1.out.size)⟩
  · have hl1 : ¬ 600 < c.text.size := by omega
    have hl2 : ¬ 100 < c.name.size := by omega
    have hl3 : ¬ 300 < rest.size := by omega
    clear hg
    have H15 := Lib.hid (fun w1 (hl : Laid w1) => encode15 c w1 hl ⟨by omega, by omega, hc.size, hc.from_, hc.count, hc.code⟩)
    have H16 := Lib.hid (fun w1 (hl : FormsAt w1) => check16 c w1 hl (by omega))
    have HLE := Lib.hid (encT_len c (by omega))
    clear hc
    by_cases he : chk c = 0
    case neg =>
      have heb : (chk c != 0) = true := by simpa using he
      have HN := Lib.hid (encT_no c he)
      have T0 : True := trivial
      clear he
      go_enter Tryd.func4, Tryd.ntmps4
      go_wp2_with (first
        | (go_at_call 11; refine (known11 _ (HL.out.keep HB1.out)).mono ?_; rintro e w1 ⟨rfl, hb1⟩; have c1 := cell_below HC.out.1 hb1; have c7 := cell_below HC.out.2 hb1; have H1 := Lib.hid hb1; clear hb1; have rr1 := okC (HR1.out.keep H1.out); have rr2 := rdC (HR1.out.keep H1.out))
        | (have hh := T0; clear hh T0; go_at_call 14; refine (own14 c _).mono ?_; rintro e w2 ⟨rfl, hb2⟩; clear rr1 rr2; have H2 := Lib.hid (Below.step H1.out hb2); clear hb2)
        | (go_at_call 15; refine (H15.out _ ((HL.out.keep HB1.out).keep H2.out)).mono ?_; rintro e w3 ⟨t, rfl, ht, hb3⟩; obtain rfl : t = ⟨#[]⟩ := (bl_inj (ht.trans HN.out)); have rr1 := okC (HR1.out.keep (Below.step H2.out hb3)); have rr2 := rdC (HR1.out.keep (Below.step H2.out hb3)); have H3 := Lib.hid (Below.step H2.out hb3); clear ht hb3)
        | (go_at_call 14; refine (own14 c _).mono ?_; rintro e w4 ⟨rfl, hb4⟩; clear rr1 rr2; have H4 := Lib.hid (Below.step H3.out hb4); clear hb4)
        | (go_at_call 16; refine (H16.out _ ((HL.out.keep HB1.out).keep H4.out).forms).mono ?_; rintro e w5 ⟨rfl, hb5⟩; have H5 := Lib.hid (Below.step H4.out hb5); clear hb5))
      go_ret
      exact ⟨rfl, Below.trans HB1.out (H5.out.mono HB1.out.size)⟩
    · have HD := Lib.hid (dec_round c he (bl rest))
      have HE := Lib.hid he
      rw [he] at H15
      clear he
      go_enter Tryd.func4, Tryd.ntmps4
      go_wp2_with (first
        | (go_at_call 11; refine (known11 _ (HL.out.keep HB1.out)).mono ?_; rintro e w1 ⟨rfl, hb1⟩; have c1 := cell_below HC.out.1 hb1; have c7 := cell_below HC.out.2 hb1; have H1 := Lib.hid hb1; clear hb1; have rr1 := okC (HR1.out.keep H1.out); have rr2 := rdC (HR1.out.keep H1.out))
        | (go_at_call 14; refine (own14 c _).mono ?_; rintro e w2 ⟨rfl, hb2⟩; clear rr1 rr2; have H2 := Lib.hid (Below.step H1.out hb2); clear hb2)
        | (go_at_call 15; refine (H15.out _ ((HL.out.keep HB1.out).keep H2.out)).mono ?_; rintro e w3 ⟨t, rfl, ht, hb3⟩; have hts : t.size ≤ 2598 := (by rw [← bl_length, ht]; exact HLE.out); have H12 := Lib.hid (fun w1 => decode12 (t ++ rest) w1 (by rw [ByteArray.size_append]; omega)); rw [bl_app, ht, HD.out, ← ht, bl_length] at H12; have H3 := Lib.hid (Below.step H2.out hb3); clear ht hb3)
        | (go_at_call 12; refine (H12.out _ ((HL.out.keep HB1.out).keep H3.out)).mono ?_; rintro e w4 ⟨rfl, hb4⟩; have H4 := Lib.hid (Below.step H3.out hb4); clear hb4))
      have HR7 := Lib.hid (show Row (w4.alloc (.cells (aC c) 27)) w4.heap.size (cC c) 27 from Row.new w4 (cC c) 27)
      have H5 := Lib.hid (Below.step H4.out (below_alloc w4 (.cells (aC c) 27)))
      have HR2 := Lib.hid (HR1.out.keep H5.out)
      have HBF := Lib.hid (show Below w.heap.size w (w4.alloc (.cells (aC c) 27)) from Below.trans HB1.out (H5.out.mono HB1.out.size))
      clear hts
      refine AnyO.wp_any (by kernel_rfl) (by kernel_rfl) (pstP [isV (.int .i64 0), isV (.bool true), isV (.bool true), isV (.int .i64 (t.size : Int)), isV (.string t), isV (.int .i64 (t.size : Int)), isV (.bool true), isV (.bool true), isV (.bool true), isV (vC c), isV (vC c), isV (vC c), isV (.bool true), isV (.bool true), isV (.bool true)]) (MonoL.cons (Mono.v _) (MonoL.cons (Mono.v _) (MonoL.cons (Mono.v _) (MonoL.cons (Mono.v _) (MonoL.cons (Mono.v _) (MonoL.cons (Mono.v _) (MonoL.cons (Mono.v _) (MonoL.cons (Mono.v _) (MonoL.cons (Mono.v _) (MonoL.cons (Mono.v _) (MonoL.cons (Mono.v _) (MonoL.cons (Mono.v _) (MonoL.cons (Mono.v _) (MonoL.cons (Mono.v _) (MonoL.cons (Mono.v _) MonoL.nil))))))))))))))) ?_ ?_
      · intro i hi
        have hi2 : i = 0 ∨ i = 1 ∨ i = 2 ∨ i = 3 ∨ i = 4 ∨ i = 5 ∨ i = 6 ∨ i = 7 ∨ i = 8 ∨ i = 9 ∨ i = 10 ∨ i = 11 ∨ i = 12 ∨ i = 13 ∨ i = 14 := by simp only [List.size_toArray, List.length_cons, List.length_nil] at hi; omega
        clear hi
        rcases hi2 with rfl | rfl | rfl | rfl | rfl | rfl | rfl | rfl | rfl | rfl | rfl | rfl | rfl | rfl | rfl
        · -- 0: Op.move (Operand.tmp 9)
          refine AnyO.Step.mk rfl [] (by kernel_rfl) ?_
          intro vs u hE hp ac hb K hK
          have s9 : ac.tmps[9]?.getD undef = .int .i64 0 := by rw [hb]; kernel_rfl
          rw [if_pos (AnyO.wanted_none rfl)]
          clear hb hp
          go_simp
          exact hK _ _ (Below.refl _ _) rfl
        · -- 1: Op.binOp BinOp.eql 25 (Operand.tmp 55) (Operand.const (Value
          refine AnyO.Step.mk rfl [0] (by kernel_rfl) ?_
          intro vs u hE hp ac hb K hK
          have s55 : ac.tmps[55]?.getD undef = .int .i64 0 := by rw [hb]; exact (show _ = vs 0 by kernel_rfl).trans (hp 0 (by decide))
          rw [if_pos (AnyO.wanted_none rfl)]
          clear hb hp
          go_simp
          exact hK _ _ (Below.refl _ _) rfl
        · -- 2: Op.move (Operand.tmp 56)
          refine AnyO.Step.mk rfl [1] (by kernel_rfl) ?_
          intro vs u hE hp ac hb K hK
          have s56 : ac.tmps[56]?.getD undef = .bool true := by rw [hb]; exact (show _ = vs 1 by kernel_rfl).trans (hp 1 (by decide))
          rw [if_pos (AnyO.wanted_none rfl)]
          clear hb hp
          go_simp
          exact hK _ _ (Below.refl _ _) rfl
        · -- 3: Op.move (Operand.tmp 8)
          refine AnyO.Step.mk rfl [2] (by kernel_rfl) ?_
          intro vs u hE hp ac hb K hK
          have s8 : ac.tmps[8]?.getD undef = .int .i64 (t.size : Int) := by rw [hb]; kernel_rfl
          have s57 : ac.tmps[57]?.getD undef = .bool true := by rw [hb]; exact (show _ = vs 2 by kernel_rfl).trans (hp 2 (by decide))
          rw [if_pos (AnyO.wanted_some (g := 2) (t := 57) (want := true) rfl rfl s57)]
          clear hb hp
          go_simp
          exact hK _ _ (Below.refl _ _) rfl
        · -- 4: Op.move (Operand.tmp 5)
          refine AnyO.Step.mk rfl [2] (by kernel_rfl) ?_
          intro vs u hE hp ac hb K hK
          have s5 : ac.tmps[5]?.getD undef = .string t := by rw [hb]; kernel_rfl
          have s57 : ac.tmps[57]?.getD undef = .bool true := by rw [hb]; exact (show _ = vs 2 by kernel_rfl).trans (hp 2 (by decide))
          rw [if_pos (AnyO.wanted_some (g := 2) (t := 57) (want := true) rfl rfl s57)]
          clear hb hp
          go_simp
          exact hK _ _ (Below.refl _ _) rfl
        · -- 5: Op.call { callee := Callee.builtin Builtin.len, args := #[Op
          refine AnyO.Step.mk rfl [4, 2] (by kernel_rfl) ?_
          intro vs u hE hp ac hb K hK
          have s59 : ac.tmps[59]?.getD undef = .string t := by rw [hb]; exact (show _ = vs 4 by kernel_rfl).trans (hp 4 (by decide))
          have s57 : ac.tmps[57]?.getD undef = .bool true := by rw [hb]; exact (show _ = vs 2 by kernel_rfl).trans (hp 2 (by decide))
          rw [if_pos (AnyO.wanted_some (g := 2) (t := 57) (want := true) rfl rfl s57)]
          clear hb hp
          go_simp
          exact hK _ _ (Below.refl _ _) rfl
        · -- 6: Op.binOp BinOp.eql 3 (Operand.tmp 58) (Operand.tmp 60) 3
          refine AnyO.Step.mk rfl [3, 5, 2] (by kernel_rfl) ?_
          intro vs u hE hp ac hb K hK
          have s58 : ac.tmps[58]?.getD undef = .int .i64 (t.size : Int) := by rw [hb]; exact (show _ = vs 3 by kernel_rfl).trans (hp 3 (by decide))
          have s60 : ac.tmps[60]?.getD undef = .int .i64 (t.size : Int) := by rw [hb]; exact (show _ = vs 5 by kernel_rfl).trans (hp 5 (by decide))
          have s57 : ac.tmps[57]?.getD undef = .bool true := by rw [hb]; exact (show _ = vs 2 by kernel_rfl).trans (hp 2 (by decide))
          rw [if_pos (AnyO.wanted_some (g := 2) (t := 57) (want := true) rfl rfl s57)]
          clear hb hp
          go_simp
          exact hK _ _ (Below.refl _ _) rfl
        · -- 7: Op.pick (Operand.tmp 57) (Operand.tmp 61) (Operand.const (Va
          refine AnyO.Step.mk rfl [2, 6] (by kernel_rfl) ?_
          intro vs u hE hp ac hb K hK
          have s57 : ac.tmps[57]?.getD undef = .bool true := by rw [hb]; exact (show _ = vs 2 by kernel_rfl).trans (hp 2 (by decide))
          have s61 : ac.tmps[61]?.getD undef = .bool true := by rw [hb]; exact (show _ = vs 6 by kernel_rfl).trans (hp 6 (by decide))
          rw [if_pos (AnyO.wanted_none rfl)]
          clear hb hp
          go_simp
          exact hK _ _ (Below.refl _ _) rfl
        · -- 8: Op.move (Operand.tmp 62)
          refine AnyO.Step.mk rfl [7, 2] (by kernel_rfl) ?_
          intro vs u hE hp ac hb K hK
          have s62 : ac.tmps[62]?.getD undef = .bool true := by rw [hb]; exact (show _ = vs 7 by kernel_rfl).trans (hp 7 (by decide))
          rw [if_pos (AnyO.wanted_none rfl)]
          clear hb hp
          go_simp
          exact hK _ _ (Below.refl _ _) rfl
        · -- 9: Op.load 27 (Operand.tmp 7)
          refine AnyO.Step.mk rfl [8] (by kernel_rfl) ?_
          intro vs u hE hp ac hb K hK
          have s7 : ac.tmps[7]?.getD undef = .pointer (some ⟨w4.heap.size, 0, none⟩) := by rw [hb]; kernel_rfl
          have s63 : ac.tmps[63]?.getD undef = .bool true := by rw [hb]; exact (show _ = vs 8 by kernel_rfl).trans (hp 8 (by decide))
          rw [if_pos (AnyO.wanted_some (g := 8) (t := 63) (want := true) rfl rfl s63)]
          clear hb hp
          have rr1 := okC (HR7.out.keep (Below.step (below_drew _) hE))
          have rr2 := rdC (HR7.out.keep (Below.step (below_drew _) hE))
          go_simp
          exact hK _ _ (Below.refl _ _) rfl
        · -- 10: Op.load 31 (Operand.tmp 2)
          refine AnyO.Step.mk rfl [8] (by kernel_rfl) ?_
          intro vs u hE hp ac hb K hK
          have s2 : ac.tmps[2]?.getD undef = .pointer (some ⟨b, 0, none⟩) := by rw [hb]; kernel_rfl
          have s63 : ac.tmps[63]?.getD undef = .bool true := by rw [hb]; exact (show _ = vs 8 by kernel_rfl).trans (hp 8 (by decide))
          rw [if_pos (AnyO.wanted_some (g := 8) (t := 63) (want := true) rfl rfl s63)]
          clear hb hp
          have rr1 := okC (HR2.out.keep (Below.step (below_drew _) hE))
          have rr2 := rdC (HR2.out.keep (Below.step (below_drew _) hE))
          go_simp
          exact hK _ _ (Below.refl _ _) rfl
        · -- 11: Op.call { callee := Callee.value (Operand.func 14), args := 
          refine AnyO.Step.mk rfl [10, 8, 8] (by kernel_rfl) ?_
          intro vs u hE hp ac hb K hK
          have s65 : ac.tmps[65]?.getD undef = vC c := by rw [hb]; exact (show _ = vs 10 by kernel_rfl).trans (hp 10 (by decide))
          have s63 : ac.tmps[63]?.getD undef = .bool true := by rw [hb]; exact (show _ = vs 8 by kernel_rfl).trans (hp 8 (by decide))
          rw [if_pos (AnyO.wanted_some (g := 8) (t := 63) (want := true) rfl rfl s63)]
          clear hb hp
          go_simp
          go_at_call 14
          refine (own14 c u).mono ?_
          rintro e w2 ⟨rfl, hb2⟩
          exact hK _ _ hb2 rfl
        · -- 12: Op.binOp BinOp.eql 27 (Operand.tmp 64) (Operand.tmp 66) 27
          refine AnyO.Step.mk rfl [9, 11, 8] (by kernel_rfl) ?_
          intro vs u hE hp ac hb K hK
          have s64 : ac.tmps[64]?.getD undef = vC c := by rw [hb]; exact (show _ = vs 9 by kernel_rfl).trans (hp 9 (by decide))
          have s66 : ac.tmps[66]?.getD undef = vC c := by rw [hb]; exact (show _ = vs 11 by kernel_rfl).trans (hp 11 (by decide))
          have s63 : ac.tmps[63]?.getD undef = .bool true := by rw [hb]; exact (show _ = vs 8 by kernel_rfl).trans (hp 8 (by decide))
          rw [if_pos (AnyO.wanted_some (g := 8) (t := 63) (want := true) rfl rfl s63)]
          clear hb hp
          go_simp
          exact hK _ _ (Below.refl _ _) rfl
        · -- 13: Op.pick (Operand.tmp 63) (Operand.tmp 67) (Operand.const (Va
          refine AnyO.Step.mk rfl [8, 12] (by kernel_rfl) ?_
          intro vs u hE hp ac hb K hK
          have s63 : ac.tmps[63]?.getD undef = .bool true := by rw [hb]; exact (show _ = vs 8 by kernel_rfl).trans (hp 8 (by decide))
          have s67 : ac.tmps[67]?.getD undef = .bool true := by rw [hb]; exact (show _ = vs 12 by kernel_rfl).trans (hp 12 (by decide))
          rw [if_pos (AnyO.wanted_none rfl)]
          clear hb hp
          go_simp
          exact hK _ _ (Below.refl _ _) rfl
        · -- 14: Op.assign (Operand.tmp 68)
          refine AnyO.Step.mk rfl [13, 11, 0, 1, 2, 3, 4, 5, 6, 7, 8, 9, 10, 11, 12, 13] (by kernel_rfl) ?_
          intro vs u hE hp ac hb K hK
          have s68 : ac.tmps[68]?.getD undef = .bool true := by rw [hb]; exact (show _ = vs 13 by kernel_rfl).trans (hp 13 (by decide))
          rw [if_pos (AnyO.wanted_none rfl)]
          clear hb hp
          go_simp
          exact hK _ _ (Below.refl _ _) rfl
      · intro vs u hE hp
        have e0 : vs 0 = .int .i64 0 := hp 0 (by decide)
        have e1 : vs 1 = .bool true := hp 1 (by decide)
        have e2 : vs 2 = .bool true := hp 2 (by decide)
        have e3 : vs 3 = .int .i64 (t.size : Int) := hp 3 (by decide)
        have e4 : vs 4 = .string t := hp 4 (by decide)
        have e5 : vs 5 = .int .i64 (t.size : Int) := hp 5 (by decide)
        have e6 : vs 6 = .bool true := hp 6 (by decide)
        have e7 : vs 7 = .bool true := hp 7 (by decide)
        have e8 : vs 8 = .bool true := hp 8 (by decide)
        have e9 : vs 9 = vC c := hp 9 (by decide)
        have e10 : vs 10 = vC c := hp 10 (by decide)
        have e11 : vs 11 = vC c := hp 11 (by decide)
        have e12 : vs 12 = .bool true := hp 12 (by decide)
        have e13 : vs 13 = .bool true := hp 13 (by decide)
        have e14 : vs 14 = .bool true := hp 14 (by decide)
        clear hp
        have HE := Lib.hid hE
        clear hE
        rw [puts_range [some 55, some 56, some 57, some 58, some 59, some 60, some 61, some 62, some 63, some 64, some 65, some 66, some 67, some 68, some 4] (by kernel_rfl)]
        simp only [putL, Nat.reduceAdd, e0, e1, e2, e3, e4, e5, e6, e7, e8, e9, e10, e11, e12, e13, e14]
        clear e0 e1 e2 e3 e4 e5 e6 e7 e8 e9 e10 e11 e12 e13 e14
        go_simp
        go_wp2
        go_ret
        exact ⟨rfl, Below.step HBF.out HE.out⟩
end Go.Proofs.YtfbpipknhghneaaDoor
