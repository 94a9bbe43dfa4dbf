/- bulletinlaw30.CommandDecode: whatever the bytes, the law returns true. -/
import Derived.Test.YtfbpipknhghneaaDoorRdec
import Derived.Test.YtfbpipknhghneaaDoorLaw304
namespace Go.Proofs.YtfbpipknhghneaaDoor
open Go.RowKit
set_option maxRecDepth 100000 in
set_option maxHeartbeats 3200000 in
theorem law3 (s : ByteArray) (w : World) (hL : Laid w) : Calls Tryd.prog 3 #[.string s] w fun e w' => e = .returned (.bool true) ∧ Below w.heap.size w w' := by
  have HL := Lib.hid hL
  clear hL
  by_cases hl : 1000 < s.size
  · have q1 : 1000 < (s.size : Int) := by omega
    have T0 : True := trivial
    go_enter Tryd.func3, Tryd.ntmps3
    go_wp2_with (first
      | (have hh := T0; clear hh T0; go_at_call 11; refine (known11 _ HL.out).mono ?_; rintro e w1 ⟨rfl, hb1⟩; have H1 := Lib.hid hb1; clear hb1)
      | (go_at_call 11; refine (known11 _ (HL.out.keep H1.out)).mono ?_; rintro e w2 ⟨rfl, hb2⟩; have H2 := Lib.hid hb2; clear hb2))
    go_ret
    exact ⟨rfl, Below.step H1.out H2.out⟩
  · have q1 : ¬ 1000 < (s.size : Int) := by omega
    have H12 := Lib.hid (fun w1 hl => decode12 s w1 (by omega) hl)
    have H13 := Lib.hid (fun w1 => refDecode13 s w1 (by omega))
    unfold RdecP at H13
    obtain ⟨⟨dc, dnn, de⟩, hd⟩ : ∃ d, decL (bl s) = d := ⟨_, rfl⟩
    rw [hd] at H12 H13
    obtain ⟨dn, hdn⟩ : ∃ dn : Int, (dnn : Int) = dn := ⟨_, rfl⟩
    dsimp only at H12 H13
    rw [hdn] at H12 H13
    clear hd hdn
    go_enter Tryd.func3, Tryd.ntmps3
    go_wp2_with (first
      | (go_at_call 11; refine (known11 _ HL.out).mono ?_; rintro e w1 ⟨rfl, hb1⟩; have H1 := Lib.hid hb1; clear hb1)
      | (go_at_call 12; refine (H12.out _ (HL.out.keep H1.out)).mono ?_; rintro e w2 ⟨rfl, hb2⟩; obtain ⟨g3, hg3⟩ : ∃ g3, w2.heap.size = g3 := ⟨_, rfl⟩; obtain ⟨W3, hW3⟩ : ∃ W3, w2.alloc (.cells (aC dc) 27) = W3 := ⟨_, rfl⟩; have H3 := Lib.hid (And.intro (show Row W3 g3 (cC dc) 27 from (by rw [← hW3, ← hg3]; exact Row.new w2 (cC dc) 27)) (show Below w.heap.size w W3 from (by rw [← hW3]; exact Below.step (Below.step H1.out hb2) (below_alloc _ _)))); clear hb2)
      | (go_at_call 13; refine (H13.out _).mono ?_; rintro e w4 ⟨rfl, hb4⟩; obtain ⟨g6, hg6⟩ : ∃ g6, w4.heap.size = g6 := ⟨_, rfl⟩; obtain ⟨W5, hW5⟩ : ∃ W5, w4.alloc (.cells (aC dc) 31) = W5 := ⟨_, rfl⟩; have H5 := Lib.hid (And.intro (And.intro (show Row W5 g3 (cC dc) 27 from (by rw [← hW5]; exact (H3.out.1.keep hb4).keep (below_alloc _ _))) (show Row W5 g6 (cC dc) 31 from (by rw [← hW5, ← hg6]; exact Row.new w4 (cC dc) 31))) (show Below w.heap.size w W5 from (by rw [← hW5]; exact Below.step (Below.step H3.out.2 hb4) (below_alloc _ _)))); clear hb4))
    have HR := Lib.hid H5.out.1
    have HBF := Lib.hid H5.out.2
    refine AnyO.wp_any (by kernel_rfl) (by kernel_rfl) (pstP [isV (vC dc), isV (vC dc), isV (vC dc), isV (.bool true), isV (.bool true), isV (.int .i64 dn), isV (.int .i64 dn), isV (.bool true), isV (.bool true), isV (.bool true), isV (.int .i64 de), isV (.int .i64 de), isV (.bool true), isV (.bool true), isV (.bool true)]) (MonoL.cons (Mono.v _) (MonoL.cons (Mono.v _) (MonoL.cons (Mono.v _) (MonoL.cons (Mono.v _) (MonoL.cons (Mono.v _) (MonoL.cons (Mono.v _) (MonoL.cons (Mono.v _) (MonoL.cons (Mono.v _) (MonoL.cons (Mono.v _) (MonoL.cons (Mono.v _) (MonoL.cons (Mono.v _) (MonoL.cons (Mono.v _) (MonoL.cons (Mono.v _) (MonoL.cons (Mono.v _) (MonoL.cons (Mono.v _) MonoL.nil))))))))))))))) ?_ ?_
    · intro i hi
      have hi2 : i = 0 ∨ i = 1 ∨ i = 2 ∨ i = 3 ∨ i = 4 ∨ i = 5 ∨ i = 6 ∨ i = 7 ∨ i = 8 ∨ i = 9 ∨ i = 10 ∨ i = 11 ∨ i = 12 ∨ i = 13 ∨ i = 14 := by simp only [List.size_toArray, List.length_cons, List.length_nil] at hi; omega
      clear hi
      rcases hi2 with rfl | rfl | rfl | rfl | rfl | rfl | rfl | rfl | rfl | rfl | rfl | rfl | rfl | rfl | rfl
      · -- 0: Op.load 27 (Operand.tmp 3)
        refine AnyO.Step.mk rfl [] (by kernel_rfl) ?_
        intro vs u hE hp ac hb K hK
        have s3 : ac.tmps[3]?.getD undef = .pointer (some ⟨g3, 0, none⟩) := by rw [hb]; kernel_rfl
        rw [if_pos (AnyO.wanted_none rfl)]
        clear hb hp
        have rr1 := okC (HR.out.1.keep (Below.step (below_drew _) hE))
        have rr2 := rdC (HR.out.1.keep (Below.step (below_drew _) hE))
        go_simp
        exact hK _ _ (Below.refl _ _) rfl
      · -- 1: Op.load 31 (Operand.tmp 6)
        refine AnyO.Step.mk rfl [] (by kernel_rfl) ?_
        intro vs u hE hp ac hb K hK
        have s6 : ac.tmps[6]?.getD undef = .pointer (some ⟨g6, 0, none⟩) := by rw [hb]; kernel_rfl
        rw [if_pos (AnyO.wanted_none rfl)]
        clear hb hp
        have rr1 := okC (HR.out.2.keep (Below.step (below_drew _) hE))
        have rr2 := rdC (HR.out.2.keep (Below.step (below_drew _) hE))
        go_simp
        exact hK _ _ (Below.refl _ _) rfl
      · -- 2: Op.call { callee := Callee.value (Operand.func 14), args := 
        refine AnyO.Step.mk rfl [1] (by kernel_rfl) ?_
        intro vs u hE hp ac hb K hK
        have s30 : ac.tmps[30]?.getD undef = vC dc := by rw [hb]; exact (show _ = vs 1 by kernel_rfl).trans (hp 1 (by decide))
        rw [if_pos (AnyO.wanted_none rfl)]
        clear hb hp
        go_simp
        go_at_call 14
        refine (own14 dc u).mono ?_
        rintro e w2 ⟨rfl, hb2⟩
        exact hK _ _ hb2 rfl
      · -- 3: Op.binOp BinOp.eql 27 (Operand.tmp 29) (Operand.tmp 31) 27
        refine AnyO.Step.mk rfl [0, 2] (by kernel_rfl) ?_
        intro vs u hE hp ac hb K hK
        have s29 : ac.tmps[29]?.getD undef = vC dc := by rw [hb]; exact (show _ = vs 0 by kernel_rfl).trans (hp 0 (by decide))
        have s31 : ac.tmps[31]?.getD undef = vC dc := by rw [hb]; exact (show _ = vs 2 by kernel_rfl).trans (hp 2 (by decide))
        rw [if_pos (AnyO.wanted_none rfl)]
        clear hb hp
        go_simp
        exact hK _ _ (Below.refl _ _) rfl
      · -- 4: Op.move (Operand.tmp 32)
        refine AnyO.Step.mk rfl [3, 2] (by kernel_rfl) ?_
        intro vs u hE hp ac hb K hK
        have s32 : ac.tmps[32]?.getD undef = .bool true := by rw [hb]; exact (show _ = vs 3 by kernel_rfl).trans (hp 3 (by decide))
        rw [if_pos (AnyO.wanted_none rfl)]
        clear hb hp
        go_simp
        exact hK _ _ (Below.refl _ _) rfl
      · -- 5: Op.move (Operand.tmp 4)
        refine AnyO.Step.mk rfl [4] (by kernel_rfl) ?_
        intro vs u hE hp ac hb K hK
        have s4 : ac.tmps[4]?.getD undef = .int .i64 dn := by rw [hb]; kernel_rfl
        have s33 : ac.tmps[33]?.getD undef = .bool true := by rw [hb]; exact (show _ = vs 4 by kernel_rfl).trans (hp 4 (by decide))
        rw [if_pos (AnyO.wanted_some (g := 4) (t := 33) (want := true) rfl rfl s33)]
        clear hb hp
        go_simp
        exact hK _ _ (Below.refl _ _) rfl
      · -- 6: Op.move (Operand.tmp 7)
        refine AnyO.Step.mk rfl [4] (by kernel_rfl) ?_
        intro vs u hE hp ac hb K hK
        have s7 : ac.tmps[7]?.getD undef = .int .i64 dn := by rw [hb]; kernel_rfl
        have s33 : ac.tmps[33]?.getD undef = .bool true := by rw [hb]; exact (show _ = vs 4 by kernel_rfl).trans (hp 4 (by decide))
        rw [if_pos (AnyO.wanted_some (g := 4) (t := 33) (want := true) rfl rfl s33)]
        clear hb hp
        go_simp
        exact hK _ _ (Below.refl _ _) rfl
      · -- 7: Op.binOp BinOp.eql 3 (Operand.tmp 34) (Operand.tmp 35) 3
        refine AnyO.Step.mk rfl [5, 6, 4] (by kernel_rfl) ?_
        intro vs u hE hp ac hb K hK
        have s34 : ac.tmps[34]?.getD undef = .int .i64 dn := by rw [hb]; exact (show _ = vs 5 by kernel_rfl).trans (hp 5 (by decide))
        have s35 : ac.tmps[35]?.getD undef = .int .i64 dn := by rw [hb]; exact (show _ = vs 6 by kernel_rfl).trans (hp 6 (by decide))
        have s33 : ac.tmps[33]?.getD undef = .bool true := by rw [hb]; exact (show _ = vs 4 by kernel_rfl).trans (hp 4 (by decide))
        rw [if_pos (AnyO.wanted_some (g := 4) (t := 33) (want := true) rfl rfl s33)]
        clear hb hp
        go_simp
        exact hK _ _ (Below.refl _ _) rfl
      · -- 8: Op.pick (Operand.tmp 33) (Operand.tmp 36) (Operand.const (Va
        refine AnyO.Step.mk rfl [4, 7] (by kernel_rfl) ?_
        intro vs u hE hp ac hb K hK
        have s33 : ac.tmps[33]?.getD undef = .bool true := by rw [hb]; exact (show _ = vs 4 by kernel_rfl).trans (hp 4 (by decide))
        have s36 : ac.tmps[36]?.getD undef = .bool true := by rw [hb]; exact (show _ = vs 7 by kernel_rfl).trans (hp 7 (by decide))
        rw [if_pos (AnyO.wanted_none rfl)]
        clear hb hp
        go_simp
        exact hK _ _ (Below.refl _ _) rfl
      · -- 9: Op.move (Operand.tmp 37)
        refine AnyO.Step.mk rfl [8, 4] (by kernel_rfl) ?_
        intro vs u hE hp ac hb K hK
        have s37 : ac.tmps[37]?.getD undef = .bool true := by rw [hb]; exact (show _ = vs 8 by kernel_rfl).trans (hp 8 (by decide))
        rw [if_pos (AnyO.wanted_none rfl)]
        clear hb hp
        go_simp
        exact hK _ _ (Below.refl _ _) rfl
      · -- 10: Op.move (Operand.tmp 5)
        refine AnyO.Step.mk rfl [9] (by kernel_rfl) ?_
        intro vs u hE hp ac hb K hK
        have s5 : ac.tmps[5]?.getD undef = .int .i64 de := by rw [hb]; kernel_rfl
        have s38 : ac.tmps[38]?.getD undef = .bool true := by rw [hb]; exact (show _ = vs 9 by kernel_rfl).trans (hp 9 (by decide))
        rw [if_pos (AnyO.wanted_some (g := 9) (t := 38) (want := true) rfl rfl s38)]
        clear hb hp
        go_simp
        exact hK _ _ (Below.refl _ _) rfl
      · -- 11: Op.move (Operand.tmp 8)
        refine AnyO.Step.mk rfl [9] (by kernel_rfl) ?_
        intro vs u hE hp ac hb K hK
        have s8 : ac.tmps[8]?.getD undef = .int .i64 de := by rw [hb]; kernel_rfl
        have s38 : ac.tmps[38]?.getD undef = .bool true := by rw [hb]; exact (show _ = vs 9 by kernel_rfl).trans (hp 9 (by decide))
        rw [if_pos (AnyO.wanted_some (g := 9) (t := 38) (want := true) rfl rfl s38)]
        clear hb hp
        go_simp
        exact hK _ _ (Below.refl _ _) rfl
      · -- 12: Op.binOp BinOp.eql 3 (Operand.tmp 39) (Operand.tmp 40) 3
        refine AnyO.Step.mk rfl [10, 11, 9] (by kernel_rfl) ?_
        intro vs u hE hp ac hb K hK
        have s39 : ac.tmps[39]?.getD undef = .int .i64 de := by rw [hb]; exact (show _ = vs 10 by kernel_rfl).trans (hp 10 (by decide))
        have s40 : ac.tmps[40]?.getD undef = .int .i64 de := by rw [hb]; exact (show _ = vs 11 by kernel_rfl).trans (hp 11 (by decide))
        have s38 : ac.tmps[38]?.getD undef = .bool true := by rw [hb]; exact (show _ = vs 9 by kernel_rfl).trans (hp 9 (by decide))
        rw [if_pos (AnyO.wanted_some (g := 9) (t := 38) (want := true) rfl rfl s38)]
        clear hb hp
        go_simp
        exact hK _ _ (Below.refl _ _) rfl
      · -- 13: Op.pick (Operand.tmp 38) (Operand.tmp 41) (Operand.const (Va
        refine AnyO.Step.mk rfl [9, 12] (by kernel_rfl) ?_
        intro vs u hE hp ac hb K hK
        have s38 : ac.tmps[38]?.getD undef = .bool true := by rw [hb]; exact (show _ = vs 9 by kernel_rfl).trans (hp 9 (by decide))
        have s41 : ac.tmps[41]?.getD undef = .bool true := by rw [hb]; exact (show _ = vs 12 by kernel_rfl).trans (hp 12 (by decide))
        rw [if_pos (AnyO.wanted_none rfl)]
        clear hb hp
        go_simp
        exact hK _ _ (Below.refl _ _) rfl
      · -- 14: Op.assign (Operand.tmp 42)
        refine AnyO.Step.mk rfl [13, 9, 0, 1, 2, 3, 4, 5, 6, 7, 8, 9, 10, 11, 12, 13] (by kernel_rfl) ?_
        intro vs u hE hp ac hb K hK
        have s42 : ac.tmps[42]?.getD undef = .bool true := by rw [hb]; exact (show _ = vs 13 by kernel_rfl).trans (hp 13 (by decide))
        rw [if_pos (AnyO.wanted_none rfl)]
        clear hb hp
        go_simp
        exact hK _ _ (Below.refl _ _) rfl
    · intro vs u hE hp
      have e0 : vs 0 = vC dc := hp 0 (by decide)
      have e1 : vs 1 = vC dc := hp 1 (by decide)
      have e2 : vs 2 = vC dc := hp 2 (by decide)
      have e3 : vs 3 = .bool true := hp 3 (by decide)
      have e4 : vs 4 = .bool true := hp 4 (by decide)
      have e5 : vs 5 = .int .i64 dn := hp 5 (by decide)
      have e6 : vs 6 = .int .i64 dn := hp 6 (by decide)
      have e7 : vs 7 = .bool true := hp 7 (by decide)
      have e8 : vs 8 = .bool true := hp 8 (by decide)
      have e9 : vs 9 = .bool true := hp 9 (by decide)
      have e10 : vs 10 = .int .i64 de := hp 10 (by decide)
      have e11 : vs 11 = .int .i64 de := hp 11 (by decide)
      have e12 : vs 12 = .bool true := hp 12 (by decide)
      have e13 : vs 13 = .bool true := hp 13 (by decide)
      have e14 : vs 14 = .bool true := hp 14 (by decide)
      clear hp
      have HE := Lib.hid hE
      clear hE
      rw [puts_range [some 29, some 30, some 31, some 32, some 33, some 34, some 35, some 36, some 37, some 38, some 39, some 40, some 41, some 42, some 2] (by kernel_rfl)]
      simp only [putL, Nat.reduceAdd, e0, e1, e2, e3, e4, e5, e6, e7, e8, e9, e10, e11, e12, e13, e14]
      clear e0 e1 e2 e3 e4 e5 e6 e7 e8 e9 e10 e11 e12 e13 e14
      go_simp
      go_wp2
      go_ret
      exact ⟨rfl, Below.step HBF.out HE.out⟩
end Go.Proofs.YtfbpipknhghneaaDoor
