/- bulletinlaw30.CommandEncode: whatever the command and the number, the law returns true. -/
import Derived.Test.YtfbpipknhghneaaDoorRlA
namespace Go.Proofs.YtfbpipknhghneaaDoor
open Go.RowKit
set_option maxRecDepth 100000 in
set_option maxHeartbeats 3200000 in
theorem law8 (c : Cm) (hc : c.ints) (v : Int) (w : World) (hL : Laid w) : Calls Tryd.prog 8 #[vC c, .int .i64 v] w fun e w' => e = .returned (.bool true) ∧ Below w.heap.size w w' := by
  have HL := Lib.hid hL
  obtain ⟨b, hb⟩ : ∃ b, w.heap.size = b := ⟨_, rfl⟩
  have HB1 := Lib.hid (below_alloc w (.cells (aC c) 31))
  have HR1 := Lib.hid (show Row (w.alloc (.cells (aC c) 31)) b (cC c) 31 by rw [← hb]; exact Row.new w (cC c) 31)
  obtain ⟨W1, hW1⟩ : ∃ W1, w.alloc (.cells (aC c) 31) = W1 := ⟨_, rfl⟩
  rw [hW1] at HB1 HR1
  have hbx : (bxA 31 (vC c)).run Tryd.prog w = .ok (.pointer (some ⟨b, 0, none⟩)) W1 := by rw [run_bx31, hW1, hb]
  have HC := Lib.hid (And.intro (show W1.cell? ⟨b, 1, none⟩ = some (.string c.name) from HR1.out.cell 1) (show W1.cell? ⟨b, 38, none⟩ = some (.string c.text) from (HR1.out.cell 38).trans (cC_at (aC_38 c))))
  clear hL
  by_cases hg : 600 < c.text.size ∨ 100 < c.name.size
  · have T0 : True := trivial
    have hg' : 600 < c.text.size ∨ (¬ 600 < c.text.size ∧ 100 < c.name.size) := by omega
    rcases hg' with hl1 | ⟨hl1, hl2⟩
    all_goals
      clear hg
      go_enter Tryd.func8, Tryd.ntmps8
      go_wp2_with (first
        | (have hh := T0; clear hh T0; go_at_call 11; refine (known11 _ (HL.out.keep HB1.out)).mono ?_; rintro e w1 ⟨rfl, hb1⟩; have c1 := cell_below HC.out.1 hb1; have c7 := cell_below HC.out.2 hb1; have H1 := Lib.hid hb1; clear hb1)
        | (go_at_call 11; refine (known11 _ ((HL.out.keep HB1.out).keep H1.out)).mono ?_; rintro e w2 ⟨rfl, hb2⟩; have H2 := Lib.hid hb2; clear hb2))
      go_ret
      exact ⟨rfl, Below.trans HB1.out ((Below.step H1.out H2.out).mono HB1.out.size)⟩
  · have hl1 : ¬ 600 < c.text.size := by omega
    have hl2 : ¬ 100 < c.name.size := by omega
    clear hg
    have H15 := Lib.hid (fun w1 (hl : Laid w1) => encode15 c w1 hl ⟨by omega, by omega, hc.size, hc.from_, hc.count, hc.code⟩)
    have H16 := Lib.hid (fun w1 (hl : FormsAt w1) => check16 c w1 hl (by omega))
    have H21 := Lib.hid (fun w1 => refEncode21 c w1 (by omega) (by omega))
    have H22 := Lib.hid (fun w1 => refCheck22 c w1 (by omega) (by omega))
    unfold RencP at H21
    unfold RchkP at H22
    obtain ⟨z0, hz0⟩ : ∃ z0, chk c = z0 := ⟨_, rfl⟩
    rw [hz0] at H15 H16 H21 H22
    clear hc hz0
    go_enter Tryd.func8, Tryd.ntmps8
    go_wp2_with (first
      | (go_at_call 11; refine (known11 _ (HL.out.keep HB1.out)).mono ?_; rintro e w1 ⟨rfl, hb1⟩; have c1 := cell_below HC.out.1 hb1; have c7 := cell_below HC.out.2 hb1; have H1 := Lib.hid hb1; clear hb1; have rr1 := okC (HR1.out.keep H1.out); have rr2 := rdC (HR1.out.keep H1.out))
      | (go_at_call 14; refine (own14 c _).mono ?_; rintro e w2 ⟨rfl, hb2⟩; clear rr1 rr2; have H2 := Lib.hid (Below.step H1.out hb2); clear hb2)
      | (go_at_call 15; refine (H15.out _ ((HL.out.keep HB1.out).keep H2.out)).mono ?_; rintro e w3 ⟨t, rfl, ht, hb3⟩; have rr1 := okC (HR1.out.keep (Below.step H2.out hb3)); have rr2 := rdC (HR1.out.keep (Below.step H2.out hb3)); have H3 := Lib.hid (And.intro ht (Below.step H2.out hb3)); clear ht hb3)
      | (go_at_call 21; refine (H21.out _).mono ?_; rintro e w4 ⟨t4, rfl, ht4, hb4⟩; obtain rfl : t4 = t := (bl_inj (ht4.trans H3.out.1.symm)); have H4 := Lib.hid (Below.step H3.out.2 hb4); clear ht4 hb4 rr1 rr2))
    have HR4 := Lib.hid (HR1.out.keep H4.out)
    have HL4 := Lib.hid ((HL.out.keep HB1.out).keep H4.out)
    have HBF := Lib.hid (show Below w.heap.size w w4 from Below.trans HB1.out (H4.out.mono HB1.out.size))
    refine AnyO.wp_any (by kernel_rfl) (by kernel_rfl) (pstP [isV (.string t4), isV (.string t4), isV (.bool true), isV (.bool true), isV (.int .i64 z0), isV (.int .i64 z0), isV (.bool true), isV (.bool true), isV (.bool true), isV (vC c), isV (vC c), isV (.int .i64 z0), isV (vC c), isV (.int .i64 z0), isV (.bool true), isV (.bool true), isV (.bool true), isV (.int .i64 v), isV (.string (nmB v)), isV (.int .i64 v), isV (.string (nmB v)), isV (.bool true), isV (.bool true), isV (.bool true)]) (MonoL.cons (Mono.v _) (MonoL.cons (Mono.v _) (MonoL.cons (Mono.v _) (MonoL.cons (Mono.v _) (MonoL.cons (Mono.v _) (MonoL.cons (Mono.v _) (MonoL.cons (Mono.v _) (MonoL.cons (Mono.v _) (MonoL.cons (Mono.v _) (MonoL.cons (Mono.v _) (MonoL.cons (Mono.v _) (MonoL.cons (Mono.v _) (MonoL.cons (Mono.v _) (MonoL.cons (Mono.v _) (MonoL.cons (Mono.v _) (MonoL.cons (Mono.v _) (MonoL.cons (Mono.v _) (MonoL.cons (Mono.v _) (MonoL.cons (Mono.v _) (MonoL.cons (Mono.v _) (MonoL.cons (Mono.v _) (MonoL.cons (Mono.v _) (MonoL.cons (Mono.v _) (MonoL.cons (Mono.v _) MonoL.nil)))))))))))))))))))))))) ?_ ?_
    · intro i hi
      have hi2 : i = 0 ∨ i = 1 ∨ i = 2 ∨ i = 3 ∨ i = 4 ∨ i = 5 ∨ i = 6 ∨ i = 7 ∨ i = 8 ∨ i = 9 ∨ i = 10 ∨ i = 11 ∨ i = 12 ∨ i = 13 ∨ i = 14 ∨ i = 15 ∨ i = 16 ∨ i = 17 ∨ i = 18 ∨ i = 19 ∨ i = 20 ∨ i = 21 ∨ i = 22 ∨ i = 23 := by simp only [List.size_toArray, List.length_cons, List.length_nil] at hi; omega
      clear hi
      rcases hi2 with rfl | rfl | rfl | rfl | rfl | rfl | rfl | rfl | rfl | rfl | rfl | rfl | rfl | rfl | rfl | rfl | rfl | rfl | rfl | rfl | rfl | rfl | rfl | rfl
      · -- 0: Op.move (Operand.tmp 5)
        refine AnyO.Step.mk rfl [] (by kernel_rfl) ?_
        intro vs u hE hp ac hb K hK
        have s5 : ac.tmps[5]?.getD undef = .string t4 := by rw [hb]; kernel_rfl
        rw [if_pos (AnyO.wanted_none rfl)]
        clear hb hp
        go_simp
        exact hK _ _ (Below.refl _ _) rfl
      · -- 1: Op.move (Operand.tmp 7)
        refine AnyO.Step.mk rfl [] (by kernel_rfl) ?_
        intro vs u hE hp ac hb K hK
        have s7 : ac.tmps[7]?.getD undef = .string t4 := by rw [hb]; kernel_rfl
        rw [if_pos (AnyO.wanted_none rfl)]
        clear hb hp
        go_simp
        exact hK _ _ (Below.refl _ _) rfl
      · -- 2: Op.binOp BinOp.eql 9 (Operand.tmp 35) (Operand.tmp 36) 9
        refine AnyO.Step.mk rfl [0, 1] (by kernel_rfl) ?_
        intro vs u hE hp ac hb K hK
        have s35 : ac.tmps[35]?.getD undef = .string t4 := by rw [hb]; exact (show _ = vs 0 by kernel_rfl).trans (hp 0 (by decide))
        have s36 : ac.tmps[36]?.getD undef = .string t4 := by rw [hb]; exact (show _ = vs 1 by kernel_rfl).trans (hp 1 (by decide))
        rw [if_pos (AnyO.wanted_none rfl)]
        clear hb hp
        go_simp
        exact hK _ _ (Below.refl _ _) rfl
      · -- 3: Op.move (Operand.tmp 37)
        refine AnyO.Step.mk rfl [2] (by kernel_rfl) ?_
        intro vs u hE hp ac hb K hK
        have s37 : ac.tmps[37]?.getD undef = .bool true := by rw [hb]; exact (show _ = vs 2 by kernel_rfl).trans (hp 2 (by decide))
        rw [if_pos (AnyO.wanted_none rfl)]
        clear hb hp
        go_simp
        exact hK _ _ (Below.refl _ _) rfl
      · -- 4: Op.move (Operand.tmp 6)
        refine AnyO.Step.mk rfl [3] (by kernel_rfl) ?_
        intro vs u hE hp ac hb K hK
        have s6 : ac.tmps[6]?.getD undef = .int .i64 z0 := by rw [hb]; kernel_rfl
        have s38 : ac.tmps[38]?.getD undef = .bool true := by rw [hb]; exact (show _ = vs 3 by kernel_rfl).trans (hp 3 (by decide))
        rw [if_pos (AnyO.wanted_some (g := 3) (t := 38) (want := true) rfl rfl s38)]
        clear hb hp
        go_simp
        exact hK _ _ (Below.refl _ _) rfl
      · -- 5: Op.move (Operand.tmp 8)
        refine AnyO.Step.mk rfl [3] (by kernel_rfl) ?_
        intro vs u hE hp ac hb K hK
        have s8 : ac.tmps[8]?.getD undef = .int .i64 z0 := by rw [hb]; kernel_rfl
        have s38 : ac.tmps[38]?.getD undef = .bool true := by rw [hb]; exact (show _ = vs 3 by kernel_rfl).trans (hp 3 (by decide))
        rw [if_pos (AnyO.wanted_some (g := 3) (t := 38) (want := true) rfl rfl s38)]
        clear hb hp
        go_simp
        exact hK _ _ (Below.refl _ _) rfl
      · -- 6: Op.binOp BinOp.eql 3 (Operand.tmp 39) (Operand.tmp 40) 3
        refine AnyO.Step.mk rfl [4, 5, 3] (by kernel_rfl) ?_
        intro vs u hE hp ac hb K hK
        have s39 : ac.tmps[39]?.getD undef = .int .i64 z0 := by rw [hb]; exact (show _ = vs 4 by kernel_rfl).trans (hp 4 (by decide))
        have s40 : ac.tmps[40]?.getD undef = .int .i64 z0 := by rw [hb]; exact (show _ = vs 5 by kernel_rfl).trans (hp 5 (by decide))
        have s38 : ac.tmps[38]?.getD undef = .bool true := by rw [hb]; exact (show _ = vs 3 by kernel_rfl).trans (hp 3 (by decide))
        rw [if_pos (AnyO.wanted_some (g := 3) (t := 38) (want := true) rfl rfl s38)]
        clear hb hp
        go_simp
        exact hK _ _ (Below.refl _ _) rfl
      · -- 7: Op.pick (Operand.tmp 38) (Operand.tmp 41) (Operand.const (Va
        refine AnyO.Step.mk rfl [3, 6] (by kernel_rfl) ?_
        intro vs u hE hp ac hb K hK
        have s38 : ac.tmps[38]?.getD undef = .bool true := by rw [hb]; exact (show _ = vs 3 by kernel_rfl).trans (hp 3 (by decide))
        have s41 : ac.tmps[41]?.getD undef = .bool true := by rw [hb]; exact (show _ = vs 6 by kernel_rfl).trans (hp 6 (by decide))
        rw [if_pos (AnyO.wanted_none rfl)]
        clear hb hp
        go_simp
        exact hK _ _ (Below.refl _ _) rfl
      · -- 8: Op.move (Operand.tmp 42)
        refine AnyO.Step.mk rfl [7, 3] (by kernel_rfl) ?_
        intro vs u hE hp ac hb K hK
        have s42 : ac.tmps[42]?.getD undef = .bool true := by rw [hb]; exact (show _ = vs 7 by kernel_rfl).trans (hp 7 (by decide))
        rw [if_pos (AnyO.wanted_none rfl)]
        clear hb hp
        go_simp
        exact hK _ _ (Below.refl _ _) rfl
      · -- 9: Op.load 31 (Operand.tmp 2)
        refine AnyO.Step.mk rfl [8] (by kernel_rfl) ?_
        intro vs u hE hp ac hb K hK
        have s2 : ac.tmps[2]?.getD undef = .pointer (some ⟨b, 0, none⟩) := by rw [hb]; kernel_rfl
        have s43 : ac.tmps[43]?.getD undef = .bool true := by rw [hb]; exact (show _ = vs 8 by kernel_rfl).trans (hp 8 (by decide))
        rw [if_pos (AnyO.wanted_some (g := 8) (t := 43) (want := true) rfl rfl s43)]
        clear hb hp
        have rr1 := okC (HR4.out.keep (Below.step (below_drew _) hE))
        have rr2 := rdC (HR4.out.keep (Below.step (below_drew _) hE))
        go_simp
        exact hK _ _ (Below.refl _ _) rfl
      · -- 10: Op.call { callee := Callee.value (Operand.func 14), args := 
        refine AnyO.Step.mk rfl [9, 8, 8] (by kernel_rfl) ?_
        intro vs u hE hp ac hb K hK
        have s44 : ac.tmps[44]?.getD undef = vC c := by rw [hb]; exact (show _ = vs 9 by kernel_rfl).trans (hp 9 (by decide))
        have s43 : ac.tmps[43]?.getD undef = .bool true := by rw [hb]; exact (show _ = vs 8 by kernel_rfl).trans (hp 8 (by decide))
        rw [if_pos (AnyO.wanted_some (g := 8) (t := 43) (want := true) rfl rfl s43)]
        clear hb hp
        go_simp
        go_at_call 14
        refine (own14 c u).mono ?_
        rintro e w2 ⟨rfl, hb2⟩
        exact hK _ _ hb2 rfl
      · -- 11: Op.call { callee := Callee.value (Operand.func 16), args := 
        refine AnyO.Step.mk rfl [10, 10, 8] (by kernel_rfl) ?_
        intro vs u hE hp ac hb K hK
        have s45 : ac.tmps[45]?.getD undef = vC c := by rw [hb]; exact (show _ = vs 10 by kernel_rfl).trans (hp 10 (by decide))
        have s43 : ac.tmps[43]?.getD undef = .bool true := by rw [hb]; exact (show _ = vs 8 by kernel_rfl).trans (hp 8 (by decide))
        rw [if_pos (AnyO.wanted_some (g := 8) (t := 43) (want := true) rfl rfl s43)]
        clear hb hp
        go_simp
        go_at_call 16
        refine (H16.out u (HL4.out.keep (Below.step (below_drew _) hE)).forms).mono ?_
        rintro e w2 ⟨rfl, hb2⟩
        exact hK _ _ hb2 rfl
      · -- 12: Op.load 31 (Operand.tmp 2)
        refine AnyO.Step.mk rfl [8] (by kernel_rfl) ?_
        intro vs u hE hp ac hb K hK
        have s2 : ac.tmps[2]?.getD undef = .pointer (some ⟨b, 0, none⟩) := by rw [hb]; kernel_rfl
        have s43 : ac.tmps[43]?.getD undef = .bool true := by rw [hb]; exact (show _ = vs 8 by kernel_rfl).trans (hp 8 (by decide))
        rw [if_pos (AnyO.wanted_some (g := 8) (t := 43) (want := true) rfl rfl s43)]
        clear hb hp
        have rr1 := okC (HR4.out.keep (Below.step (below_drew _) hE))
        have rr2 := rdC (HR4.out.keep (Below.step (below_drew _) hE))
        go_simp
        exact hK _ _ (Below.refl _ _) rfl
      · -- 13: Op.call { callee := Callee.value (Operand.func 22), args := 
        refine AnyO.Step.mk rfl [12, 11, 8] (by kernel_rfl) ?_
        intro vs u hE hp ac hb K hK
        have s47 : ac.tmps[47]?.getD undef = vC c := by rw [hb]; exact (show _ = vs 12 by kernel_rfl).trans (hp 12 (by decide))
        have s43 : ac.tmps[43]?.getD undef = .bool true := by rw [hb]; exact (show _ = vs 8 by kernel_rfl).trans (hp 8 (by decide))
        rw [if_pos (AnyO.wanted_some (g := 8) (t := 43) (want := true) rfl rfl s43)]
        clear hb hp
        go_simp
        go_at_call 22
        refine (H22.out u).mono ?_
        rintro e w2 ⟨rfl, hb2⟩
        exact hK _ _ hb2 rfl
      · -- 14: Op.binOp BinOp.eql 3 (Operand.tmp 46) (Operand.tmp 48) 3
        refine AnyO.Step.mk rfl [11, 13, 8] (by kernel_rfl) ?_
        intro vs u hE hp ac hb K hK
        have s46 : ac.tmps[46]?.getD undef = .int .i64 z0 := by rw [hb]; exact (show _ = vs 11 by kernel_rfl).trans (hp 11 (by decide))
        have s48 : ac.tmps[48]?.getD undef = .int .i64 z0 := by rw [hb]; exact (show _ = vs 13 by kernel_rfl).trans (hp 13 (by decide))
        have s43 : ac.tmps[43]?.getD undef = .bool true := by rw [hb]; exact (show _ = vs 8 by kernel_rfl).trans (hp 8 (by decide))
        rw [if_pos (AnyO.wanted_some (g := 8) (t := 43) (want := true) rfl rfl s43)]
        clear hb hp
        go_simp
        exact hK _ _ (Below.refl _ _) rfl
      · -- 15: Op.pick (Operand.tmp 43) (Operand.tmp 49) (Operand.const (Va
        refine AnyO.Step.mk rfl [8, 14] (by kernel_rfl) ?_
        intro vs u hE hp ac hb K hK
        have s43 : ac.tmps[43]?.getD undef = .bool true := by rw [hb]; exact (show _ = vs 8 by kernel_rfl).trans (hp 8 (by decide))
        have s49 : ac.tmps[49]?.getD undef = .bool true := by rw [hb]; exact (show _ = vs 14 by kernel_rfl).trans (hp 14 (by decide))
        rw [if_pos (AnyO.wanted_none rfl)]
        clear hb hp
        go_simp
        exact hK _ _ (Below.refl _ _) rfl
      · -- 16: Op.move (Operand.tmp 50)
        refine AnyO.Step.mk rfl [15, 13] (by kernel_rfl) ?_
        intro vs u hE hp ac hb K hK
        have s50 : ac.tmps[50]?.getD undef = .bool true := by rw [hb]; exact (show _ = vs 15 by kernel_rfl).trans (hp 15 (by decide))
        rw [if_pos (AnyO.wanted_none rfl)]
        clear hb hp
        go_simp
        exact hK _ _ (Below.refl _ _) rfl
      · -- 17: Op.move (Operand.tmp 1)
        refine AnyO.Step.mk rfl [16] (by kernel_rfl) ?_
        intro vs u hE hp ac hb K hK
        have s1 : ac.tmps[1]?.getD undef = .int .i64 v := by rw [hb]; kernel_rfl
        have s51 : ac.tmps[51]?.getD undef = .bool true := by rw [hb]; exact (show _ = vs 16 by kernel_rfl).trans (hp 16 (by decide))
        rw [if_pos (AnyO.wanted_some (g := 16) (t := 51) (want := true) rfl rfl s51)]
        clear hb hp
        go_simp
        exact hK _ _ (Below.refl _ _) rfl
      · -- 18: Op.call { callee := Callee.value (Operand.func 23), args := 
        refine AnyO.Step.mk rfl [17, 16, 16] (by kernel_rfl) ?_
        intro vs u hE hp ac hb K hK
        have s52 : ac.tmps[52]?.getD undef = .int .i64 v := by rw [hb]; exact (show _ = vs 17 by kernel_rfl).trans (hp 17 (by decide))
        have s51 : ac.tmps[51]?.getD undef = .bool true := by rw [hb]; exact (show _ = vs 16 by kernel_rfl).trans (hp 16 (by decide))
        rw [if_pos (AnyO.wanted_some (g := 16) (t := 51) (want := true) rfl rfl s51)]
        clear hb hp
        go_simp
        go_at_call 23
        refine (verbName23 v u (HL4.out.keep (Below.step (below_drew _) hE)).forms).mono ?_
        rintro e w2 ⟨rfl, hb2⟩
        exact hK _ _ hb2 rfl
      · -- 19: Op.move (Operand.tmp 1)
        refine AnyO.Step.mk rfl [16] (by kernel_rfl) ?_
        intro vs u hE hp ac hb K hK
        have s1 : ac.tmps[1]?.getD undef = .int .i64 v := by rw [hb]; kernel_rfl
        have s51 : ac.tmps[51]?.getD undef = .bool true := by rw [hb]; exact (show _ = vs 16 by kernel_rfl).trans (hp 16 (by decide))
        rw [if_pos (AnyO.wanted_some (g := 16) (t := 51) (want := true) rfl rfl s51)]
        clear hb hp
        go_simp
        exact hK _ _ (Below.refl _ _) rfl
      · -- 20: Op.call { callee := Callee.value (Operand.func 24), args := 
        refine AnyO.Step.mk rfl [19, 18, 16] (by kernel_rfl) ?_
        intro vs u hE hp ac hb K hK
        have s54 : ac.tmps[54]?.getD undef = .int .i64 v := by rw [hb]; exact (show _ = vs 19 by kernel_rfl).trans (hp 19 (by decide))
        have s51 : ac.tmps[51]?.getD undef = .bool true := by rw [hb]; exact (show _ = vs 16 by kernel_rfl).trans (hp 16 (by decide))
        rw [if_pos (AnyO.wanted_some (g := 16) (t := 51) (want := true) rfl rfl s51)]
        clear hb hp
        go_simp
        go_at_call 24
        refine (name24 v u).mono ?_
        rintro e w2 ⟨rfl, hb2⟩
        exact hK _ _ hb2 rfl
      · -- 21: Op.binOp BinOp.eql 9 (Operand.tmp 53) (Operand.tmp 55) 9
        refine AnyO.Step.mk rfl [18, 20, 16] (by kernel_rfl) ?_
        intro vs u hE hp ac hb K hK
        have s53 : ac.tmps[53]?.getD undef = .string (nmB v) := by rw [hb]; exact (show _ = vs 18 by kernel_rfl).trans (hp 18 (by decide))
        have s55 : ac.tmps[55]?.getD undef = .string (nmB v) := by rw [hb]; exact (show _ = vs 20 by kernel_rfl).trans (hp 20 (by decide))
        have s51 : ac.tmps[51]?.getD undef = .bool true := by rw [hb]; exact (show _ = vs 16 by kernel_rfl).trans (hp 16 (by decide))
        rw [if_pos (AnyO.wanted_some (g := 16) (t := 51) (want := true) rfl rfl s51)]
        clear hb hp
        go_simp
        exact hK _ _ (Below.refl _ _) rfl
      · -- 22: Op.pick (Operand.tmp 51) (Operand.tmp 56) (Operand.const (Va
        refine AnyO.Step.mk rfl [16, 21] (by kernel_rfl) ?_
        intro vs u hE hp ac hb K hK
        have s51 : ac.tmps[51]?.getD undef = .bool true := by rw [hb]; exact (show _ = vs 16 by kernel_rfl).trans (hp 16 (by decide))
        have s56 : ac.tmps[56]?.getD undef = .bool true := by rw [hb]; exact (show _ = vs 21 by kernel_rfl).trans (hp 21 (by decide))
        rw [if_pos (AnyO.wanted_none rfl)]
        clear hb hp
        go_simp
        exact hK _ _ (Below.refl _ _) rfl
      · -- 23: Op.assign (Operand.tmp 57)
        refine AnyO.Step.mk rfl [22, 20, 0, 1, 2, 3, 4, 5, 6, 7, 8, 9, 10, 11, 12, 13, 14, 15, 16, 17, 18, 19, 20, 21, 22] (by kernel_rfl) ?_
        intro vs u hE hp ac hb K hK
        have s57 : ac.tmps[57]?.getD undef = .bool true := by rw [hb]; exact (show _ = vs 22 by kernel_rfl).trans (hp 22 (by decide))
        rw [if_pos (AnyO.wanted_none rfl)]
        clear hb hp
        go_simp
        exact hK _ _ (Below.refl _ _) rfl
    · intro vs u hE hp
      have e0 : vs 0 = .string t4 := hp 0 (by decide)
      have e1 : vs 1 = .string t4 := hp 1 (by decide)
      have e2 : vs 2 = .bool true := hp 2 (by decide)
      have e3 : vs 3 = .bool true := hp 3 (by decide)
      have e4 : vs 4 = .int .i64 z0 := hp 4 (by decide)
      have e5 : vs 5 = .int .i64 z0 := hp 5 (by decide)
      have e6 : vs 6 = .bool true := hp 6 (by decide)
      have e7 : vs 7 = .bool true := hp 7 (by decide)
      have e8 : vs 8 = .bool true := hp 8 (by decide)
      have e9 : vs 9 = vC c := hp 9 (by decide)
      have e10 : vs 10 = vC c := hp 10 (by decide)
      have e11 : vs 11 = .int .i64 z0 := hp 11 (by decide)
      have e12 : vs 12 = vC c := hp 12 (by decide)
      have e13 : vs 13 = .int .i64 z0 := hp 13 (by decide)
      have e14 : vs 14 = .bool true := hp 14 (by decide)
      have e15 : vs 15 = .bool true := hp 15 (by decide)
      have e16 : vs 16 = .bool true := hp 16 (by decide)
      have e17 : vs 17 = .int .i64 v := hp 17 (by decide)
      have e18 : vs 18 = .string (nmB v) := hp 18 (by decide)
      have e19 : vs 19 = .int .i64 v := hp 19 (by decide)
      have e20 : vs 20 = .string (nmB v) := hp 20 (by decide)
      have e21 : vs 21 = .bool true := hp 21 (by decide)
      have e22 : vs 22 = .bool true := hp 22 (by decide)
      have e23 : vs 23 = .bool true := hp 23 (by decide)
      clear hp
      have HE := Lib.hid hE
      clear hE
      rw [puts_range [some 35, some 36, some 37, some 38, some 39, some 40, some 41, some 42, some 43, some 44, some 45, some 46, some 47, some 48, some 49, some 50, some 51, some 52, some 53, some 54, some 55, some 56, some 57, some 4] (by kernel_rfl)]
      simp only [putL, Nat.reduceAdd, e0, e1, e2, e3, e4, e5, e6, e7, e8, e9, e10, e11, e12, e13, e14, e15, e16, e17, e18, e19, e20, e21, e22, e23]
      clear e0 e1 e2 e3 e4 e5 e6 e7 e8 e9 e10 e11 e12 e13 e14 e15 e16 e17 e18 e19 e20 e21 e22 e23
      go_simp
      go_wp2
      go_ret
      exact ⟨rfl, Below.step HBF.out HE.out⟩
end Go.Proofs.YtfbpipknhghneaaDoor
