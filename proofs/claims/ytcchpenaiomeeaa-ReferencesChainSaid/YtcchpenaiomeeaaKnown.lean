/- The checks of the examples answer true and leave memory as it was. -/
import Derived.Test.YtcchpenaiomeeaaIsTr
import Derived.Test.YtcchpenaiomeeaaAny
namespace Go.Proofs.Ytcchpenaiomeeaa
open Go.RowKit
theorem At.spot {w : World} {ad : Addr} {cs : List Value} (h : At w ad cs) (hne : cs ≠ []) : ad.spot = none := by
  cases cs with
  | nil => exact absurd rfl hne
  | cons c cs =>
    have := h.2 0 c rfl
    rw [show ad.add 0 = ad from rfl] at this
    unfold World.cell? at this
    split at this
    · split at this
      · cases this
      · rename_i hs
        simpa using hs
    · cases this
set_option maxRecDepth 100000 in
set_option maxHeartbeats 1600000 in
theorem known12 (w : World) : Calls Try.prog 12 #[] w fun e w' => e = .returned (.bool true) ∧ Below w.heap.size w w' := by
  have e1 : trimE [bI 1, bI 2, bI 3] 2 = ([bI 1, bI 3], 0) := by simp [trimE, trimL]
  have HE := Lib.hid e1; clear e1
  go_enter Try.func12, Try.ntmps12
  go_wp2_with fail
  have hs1 : (((w.alloc (.cells (aI (bI 1)) 33)).alloc (.cells (aI (bI 2)) 33)).alloc (.cells (aI (bI 3)) 33)).heap.size = w.heap.size + 1 + 1 + 1 := by simp
  have hat1 : At (((w.alloc (.cells (aI (bI 1)) 33)).alloc (.cells (aI (bI 2)) 33)).alloc (.cells (aI (bI 3)) 33)) ⟨w.heap.size, 0, none⟩ (cI (bI 1)) := ((at_new w (cI (bI 1)) 33 w.heap.size rfl).keep (below_alloc _ _)).keep (below_alloc _ _)
  have hat2 : At (((w.alloc (.cells (aI (bI 1)) 33)).alloc (.cells (aI (bI 2)) 33)).alloc (.cells (aI (bI 3)) 33)) ⟨w.heap.size + 1, 0, none⟩ (cI (bI 2)) := (at_new _ (cI (bI 2)) 33 (w.heap.size + 1) (by simp)).keep (below_alloc _ _)
  have hat3 : At (((w.alloc (.cells (aI (bI 1)) 33)).alloc (.cells (aI (bI 2)) 33)).alloc (.cells (aI (bI 3)) 33)) ⟨w.heap.size + 1 + 1, 0, none⟩ (cI (bI 3)) := at_new _ (cI (bI 3)) 33 (w.heap.size + 1 + 1) (by simp)
  have hb0 : Below w.heap.size w (((w.alloc (.cells (aI (bI 1)) 33)).alloc (.cells (aI (bI 2)) 33)).alloc (.cells (aI (bI 3)) 33)) := Below.step (Below.step (below_alloc _ _) (below_alloc _ _)) (below_alloc _ _)
  generalize (((w.alloc (.cells (aI (bI 1)) 33)).alloc (.cells (aI (bI 2)) 33)).alloc (.cells (aI (bI 3)) 33)) = W at *
  have hsl := sl_newI W 33 [bI 1, bI 2, bI 3]
  rw [hs1] at hsl
  have H0 := Lib.hid (And.intro hs1 (And.intro hat1 (And.intro hat2 (And.intro hat3 hb0)))); clear hs1 hat1 hat2 hat3 hb0
  refine (trim13 _ 3 2 [bI 1, bI 2, bI 3] _ hsl (by simp) (by simp)).mono ?_
  rw [HE.out]
  rintro e w1 ⟨A, n, c, rfl, hl, hc, hb, hs⟩
  obtain rfl : n = 2 := by simpa using hl.symm
  obtain ⟨⟨b, o, sp⟩, rfl, hatL⟩ := hs (by simp)
  have hsp := hatL.spot (by simp [cI, bI])
  simp only at hsp
  subst hsp
  have r0 : At w1 ⟨b, o, none⟩ (cI (bI 1)) := ⟨hatL.1, fun j u hu => hatL.2 j u (by simp only [List.flatMap_cons, List.flatMap_nil, List.append_nil]; rw [List.getElem?_append_left (List.getElem?_eq_some_iff.1 hu).1]; exact hu)⟩
  have r1 : At w1 ⟨b, o + 32, none⟩ (cI (bI 3)) := ⟨hatL.1, fun j u hu => by
    have := hatL.2 (32 + j) u (by simp only [List.flatMap_cons, List.flatMap_nil, List.append_nil]; rw [List.getElem?_append_right (by rw [cI_length]; omega), cI_length]; simpa using hu)
    rw [← add_of_add] at this
    exact this⟩
  have hbW := Below.step (below_alloc W (.cells (aIs [bI 1, bI 2, bI 3]) 33)) hb
  have r2 := H0.out.2.1.keep hbW
  have r3 := H0.out.2.2.1.keep hbW
  have r4 := H0.out.2.2.2.1.keep hbW
  have hbF := Below.step H0.out.2.2.2.2 hbW
  clear hsl hl hatL hb hc hbW H0 HE
  have LD : ∀ {ad : Addr} {x : Id}, At w1 ad (cI x) → ∀ w, Below w1.drew.heap.size w1.drew w → okA w ad 32 = true ∧ rdA w ad 32 = vI x := by
    intro ad x hat w hb
    have h := hat.keep (w' := w) ⟨hb.os, hb.tape, hb.output, hb.size, hb.block⟩
    exact ⟨by have := h.ok; rwa [cI_length] at this, by have := h.rd; rwa [cI_length] at this⟩
  have L0 := Lib.hid (LD r0)
  have L1 := Lib.hid (LD r1)
  have L2 := Lib.hid (LD r2)
  have L3 := Lib.hid (LD r3)
  have L4 := Lib.hid (LD r4)
  have HF := Lib.hid hbF
  clear r0 r1 r2 r3 r4 LD hbF
  go_wp2_with fail
  refine AnyO.wp_any (by kernel_rfl) (by kernel_rfl) (pst [.inl (.int .i64 0), .inl (.bool true), .inl (.bool true), .inl (.slice (some ⟨b, o, none⟩) 2 c), .inl (.int .i64 2), .inl (.bool true), .inl (.bool true), .inl (.bool true), .inl (.slice (some ⟨b, o, none⟩) 2 c), .inl (.pointer (some ⟨b, o, none⟩)), .inl (vI (bI 1)), .inl (vI (bI 1)), .inl (.bool true), .inl (.bool true), .inl (.bool true), .inl (.slice (some ⟨b, o, none⟩) 2 c), .inl (.pointer (some ⟨b, o + 32, none⟩)), .inl (vI (bI 3)), .inl (vI (bI 3)), .inl (.bool true), .inl (.bool true), .inl (.bool true), .inl (vI (bI 1)), .inl (vI (bI 3)), .inr [bI 1, bI 3], .inl (vI (bI 1)), .inl (vI (bI 2)), .inl (vI (bI 3)), .inr [bI 1, bI 2, bI 3], .inl (.bool true), .inl (.bool true), .inl (.bool true)]) (pst_mono _) ?_ ?_
  · intro i hi
    have hi2 : i = 0 ∨ i = 1 ∨ i = 2 ∨ i = 3 ∨ i = 4 ∨ i = 5 ∨ i = 6 ∨ i = 7 ∨ i = 8 ∨ i = 9 ∨ i = 10 ∨ i = 11 ∨ i = 12 ∨ i = 13 ∨ i = 14 ∨ i = 15 ∨ i = 16 ∨ i = 17 ∨ i = 18 ∨ i = 19 ∨ i = 20 ∨ i = 21 ∨ i = 22 ∨ i = 23 ∨ i = 24 ∨ i = 25 ∨ i = 26 ∨ i = 27 ∨ i = 28 ∨ i = 29 ∨ i = 30 ∨ i = 31 := by simp only [List.size_toArray, List.length_cons, List.length_nil] at hi; omega
    clear hi
    rcases hi2 with rfl | rfl | rfl | rfl | rfl | rfl | rfl | rfl | rfl | rfl | rfl | rfl | rfl | rfl | rfl | rfl | rfl | rfl | rfl | rfl | rfl | rfl | rfl | rfl | rfl | rfl | rfl | rfl | rfl | rfl | rfl | rfl
    · -- 0: Op.move (Operand.tmp 5)
      refine AnyO.Step.mk rfl [] (by kernel_rfl) ?_
      intro vs u hE hp ac hb K hK
      have s5 : ac.tmps[5]?.getD undef = .int .i64 0 := by rw [hb]; kernel_rfl
      rw [if_pos (AnyO.wanted_none rfl)]
      clear hb hp
      go_simp
      exact hK _ _ (Below.refl _ _) rfl
    · -- 1: Op.binOp BinOp.eql 25 (Operand.tmp 17) (Operand.const (Value
      refine AnyO.Step.mk rfl [0] (by kernel_rfl) ?_
      intro vs u hE hp ac hb K hK
      have s17 : ac.tmps[17]?.getD undef = .int .i64 0 := by rw [hb]; exact (show _ = vs 0 by kernel_rfl).trans (hp 0 (by decide))
      rw [if_pos (AnyO.wanted_none rfl)]
      clear hb hp
      go_simp
      exact hK _ _ (Below.refl _ _) rfl
    · -- 2: Op.move (Operand.tmp 18)
      refine AnyO.Step.mk rfl [1] (by kernel_rfl) ?_
      intro vs u hE hp ac hb K hK
      have s18 : ac.tmps[18]?.getD undef = .bool true := by rw [hb]; exact (show _ = vs 1 by kernel_rfl).trans (hp 1 (by decide))
      rw [if_pos (AnyO.wanted_none rfl)]
      clear hb hp
      go_simp
      exact hK _ _ (Below.refl _ _) rfl
    · -- 3: Op.move (Operand.tmp 4)
      refine AnyO.Step.mk rfl [2] (by kernel_rfl) ?_
      intro vs u hE hp ac hb K hK
      have s4 : ac.tmps[4]?.getD undef = .slice (some ⟨b, o, none⟩) 2 c := by rw [hb]; kernel_rfl
      have s19 : ac.tmps[19]?.getD undef = .bool true := by rw [hb]; exact (show _ = vs 2 by kernel_rfl).trans (hp 2 (by decide))
      rw [if_pos (AnyO.wanted_some (g := 2) (t := 19) (want := true) rfl rfl s19)]
      clear hb hp
      go_simp
      exact hK _ _ (Below.refl _ _) rfl
    · -- 4: Op.call { callee := Callee.builtin Builtin.len, args := #[Op
      refine AnyO.Step.mk rfl [3, 2] (by kernel_rfl) ?_
      intro vs u hE hp ac hb K hK
      have s20 : ac.tmps[20]?.getD undef = .slice (some ⟨b, o, none⟩) 2 c := by rw [hb]; exact (show _ = vs 3 by kernel_rfl).trans (hp 3 (by decide))
      have s19 : ac.tmps[19]?.getD undef = .bool true := by rw [hb]; exact (show _ = vs 2 by kernel_rfl).trans (hp 2 (by decide))
      rw [if_pos (AnyO.wanted_some (g := 2) (t := 19) (want := true) rfl rfl s19)]
      clear hb hp
      go_simp
      exact hK _ _ (Below.refl _ _) rfl
    · -- 5: Op.binOp BinOp.eql 3 (Operand.tmp 21) (Operand.const (Value.
      refine AnyO.Step.mk rfl [4, 2] (by kernel_rfl) ?_
      intro vs u hE hp ac hb K hK
      have s21 : ac.tmps[21]?.getD undef = .int .i64 2 := by rw [hb]; exact (show _ = vs 4 by kernel_rfl).trans (hp 4 (by decide))
      have s19 : ac.tmps[19]?.getD undef = .bool true := by rw [hb]; exact (show _ = vs 2 by kernel_rfl).trans (hp 2 (by decide))
      rw [if_pos (AnyO.wanted_some (g := 2) (t := 19) (want := true) rfl rfl s19)]
      clear hb hp
      go_simp
      exact hK _ _ (Below.refl _ _) rfl
    · -- 6: Op.pick (Operand.tmp 19) (Operand.tmp 22) (Operand.const (Va
      refine AnyO.Step.mk rfl [2, 5] (by kernel_rfl) ?_
      intro vs u hE hp ac hb K hK
      have s19 : ac.tmps[19]?.getD undef = .bool true := by rw [hb]; exact (show _ = vs 2 by kernel_rfl).trans (hp 2 (by decide))
      have s22 : ac.tmps[22]?.getD undef = .bool true := by rw [hb]; exact (show _ = vs 5 by kernel_rfl).trans (hp 5 (by decide))
      rw [if_pos (AnyO.wanted_none rfl)]
      clear hb hp
      go_simp
      exact hK _ _ (Below.refl _ _) rfl
    · -- 7: Op.move (Operand.tmp 23)
      refine AnyO.Step.mk rfl [6, 2] (by kernel_rfl) ?_
      intro vs u hE hp ac hb K hK
      have s23 : ac.tmps[23]?.getD undef = .bool true := by rw [hb]; exact (show _ = vs 6 by kernel_rfl).trans (hp 6 (by decide))
      rw [if_pos (AnyO.wanted_none rfl)]
      clear hb hp
      go_simp
      exact hK _ _ (Below.refl _ _) rfl
    · -- 8: Op.move (Operand.tmp 4)
      refine AnyO.Step.mk rfl [7] (by kernel_rfl) ?_
      intro vs u hE hp ac hb K hK
      have s4 : ac.tmps[4]?.getD undef = .slice (some ⟨b, o, none⟩) 2 c := by rw [hb]; kernel_rfl
      have s24 : ac.tmps[24]?.getD undef = .bool true := by rw [hb]; exact (show _ = vs 7 by kernel_rfl).trans (hp 7 (by decide))
      rw [if_pos (AnyO.wanted_some (g := 7) (t := 24) (want := true) rfl rfl s24)]
      clear hb hp
      go_simp
      exact hK _ _ (Below.refl _ _) rfl
    · -- 9: Op.indexAddr 24 (Operand.tmp 25) (Operand.const (Value.int I
      refine AnyO.Step.mk rfl [8, 7] (by kernel_rfl) ?_
      intro vs u hE hp ac hb K hK
      have s25 : ac.tmps[25]?.getD undef = .slice (some ⟨b, o, none⟩) 2 c := by rw [hb]; exact (show _ = vs 8 by kernel_rfl).trans (hp 8 (by decide))
      have s24 : ac.tmps[24]?.getD undef = .bool true := by rw [hb]; exact (show _ = vs 7 by kernel_rfl).trans (hp 7 (by decide))
      rw [if_pos (AnyO.wanted_some (g := 7) (t := 24) (want := true) rfl rfl s24)]
      clear hb hp
      go_simp
      exact hK _ _ (Below.refl _ _) rfl
    · -- 10: Op.load 33 (Operand.tmp 26)
      refine AnyO.Step.mk rfl [9, 7] (by kernel_rfl) ?_
      intro vs u hE hp ac hb K hK
      have s26 : ac.tmps[26]?.getD undef = .pointer (some ⟨b, o, none⟩) := by rw [hb]; exact (show _ = vs 9 by kernel_rfl).trans (hp 9 (by decide))
      have s24 : ac.tmps[24]?.getD undef = .bool true := by rw [hb]; exact (show _ = vs 7 by kernel_rfl).trans (hp 7 (by decide))
      rw [if_pos (AnyO.wanted_some (g := 7) (t := 24) (want := true) rfl rfl s24)]
      clear hb hp
      obtain ⟨q1, q2⟩ := L0.out u hE
      go_simp
      exact hK _ _ (Below.refl _ _) rfl
    · -- 11: Op.load 33 (Operand.tmp 1)
      refine AnyO.Step.mk rfl [7] (by kernel_rfl) ?_
      intro vs u hE hp ac hb K hK
      have s1 : ac.tmps[1]?.getD undef = .pointer (some ⟨w.heap.size, 0, none⟩) := by rw [hb]; kernel_rfl
      have s24 : ac.tmps[24]?.getD undef = .bool true := by rw [hb]; exact (show _ = vs 7 by kernel_rfl).trans (hp 7 (by decide))
      rw [if_pos (AnyO.wanted_some (g := 7) (t := 24) (want := true) rfl rfl s24)]
      clear hb hp
      obtain ⟨q1, q2⟩ := L2.out u hE
      go_simp
      exact hK _ _ (Below.refl _ _) rfl
    · -- 12: Op.binOp BinOp.eql 33 (Operand.tmp 27) (Operand.tmp 28) 33
      refine AnyO.Step.mk rfl [10, 11, 7] (by kernel_rfl) ?_
      intro vs u hE hp ac hb K hK
      have s27 : ac.tmps[27]?.getD undef = vI (bI 1) := by rw [hb]; exact (show _ = vs 10 by kernel_rfl).trans (hp 10 (by decide))
      have s28 : ac.tmps[28]?.getD undef = vI (bI 1) := by rw [hb]; exact (show _ = vs 11 by kernel_rfl).trans (hp 11 (by decide))
      have s24 : ac.tmps[24]?.getD undef = .bool true := by rw [hb]; exact (show _ = vs 7 by kernel_rfl).trans (hp 7 (by decide))
      rw [if_pos (AnyO.wanted_some (g := 7) (t := 24) (want := true) rfl rfl s24)]
      clear hb hp
      go_simp
      exact hK _ _ (Below.refl _ _) rfl
    · -- 13: Op.pick (Operand.tmp 24) (Operand.tmp 29) (Operand.const (Va
      refine AnyO.Step.mk rfl [7, 12] (by kernel_rfl) ?_
      intro vs u hE hp ac hb K hK
      have s24 : ac.tmps[24]?.getD undef = .bool true := by rw [hb]; exact (show _ = vs 7 by kernel_rfl).trans (hp 7 (by decide))
      have s29 : ac.tmps[29]?.getD undef = .bool true := by rw [hb]; exact (show _ = vs 12 by kernel_rfl).trans (hp 12 (by decide))
      rw [if_pos (AnyO.wanted_none rfl)]
      clear hb hp
      go_simp
      exact hK _ _ (Below.refl _ _) rfl
    · -- 14: Op.move (Operand.tmp 30)
      refine AnyO.Step.mk rfl [13, 7] (by kernel_rfl) ?_
      intro vs u hE hp ac hb K hK
      have s30 : ac.tmps[30]?.getD undef = .bool true := by rw [hb]; exact (show _ = vs 13 by kernel_rfl).trans (hp 13 (by decide))
      rw [if_pos (AnyO.wanted_none rfl)]
      clear hb hp
      go_simp
      exact hK _ _ (Below.refl _ _) rfl
    · -- 15: Op.move (Operand.tmp 4)
      refine AnyO.Step.mk rfl [14] (by kernel_rfl) ?_
      intro vs u hE hp ac hb K hK
      have s4 : ac.tmps[4]?.getD undef = .slice (some ⟨b, o, none⟩) 2 c := by rw [hb]; kernel_rfl
      have s31 : ac.tmps[31]?.getD undef = .bool true := by rw [hb]; exact (show _ = vs 14 by kernel_rfl).trans (hp 14 (by decide))
      rw [if_pos (AnyO.wanted_some (g := 14) (t := 31) (want := true) rfl rfl s31)]
      clear hb hp
      go_simp
      exact hK _ _ (Below.refl _ _) rfl
    · -- 16: Op.indexAddr 24 (Operand.tmp 32) (Operand.const (Value.int I
      refine AnyO.Step.mk rfl [15, 14] (by kernel_rfl) ?_
      intro vs u hE hp ac hb K hK
      have s32 : ac.tmps[32]?.getD undef = .slice (some ⟨b, o, none⟩) 2 c := by rw [hb]; exact (show _ = vs 15 by kernel_rfl).trans (hp 15 (by decide))
      have s31 : ac.tmps[31]?.getD undef = .bool true := by rw [hb]; exact (show _ = vs 14 by kernel_rfl).trans (hp 14 (by decide))
      rw [if_pos (AnyO.wanted_some (g := 14) (t := 31) (want := true) rfl rfl s31)]
      clear hb hp
      go_simp
      exact hK _ _ (Below.refl _ _) rfl
    · -- 17: Op.load 33 (Operand.tmp 33)
      refine AnyO.Step.mk rfl [16, 14] (by kernel_rfl) ?_
      intro vs u hE hp ac hb K hK
      have s33 : ac.tmps[33]?.getD undef = .pointer (some ⟨b, o + 32, none⟩) := by rw [hb]; exact (show _ = vs 16 by kernel_rfl).trans (hp 16 (by decide))
      have s31 : ac.tmps[31]?.getD undef = .bool true := by rw [hb]; exact (show _ = vs 14 by kernel_rfl).trans (hp 14 (by decide))
      rw [if_pos (AnyO.wanted_some (g := 14) (t := 31) (want := true) rfl rfl s31)]
      clear hb hp
      obtain ⟨q1, q2⟩ := L1.out u hE
      go_simp
      exact hK _ _ (Below.refl _ _) rfl
    · -- 18: Op.load 33 (Operand.tmp 3)
      refine AnyO.Step.mk rfl [14] (by kernel_rfl) ?_
      intro vs u hE hp ac hb K hK
      have s3 : ac.tmps[3]?.getD undef = .pointer (some ⟨w.heap.size + 1 + 1, 0, none⟩) := by rw [hb]; kernel_rfl
      have s31 : ac.tmps[31]?.getD undef = .bool true := by rw [hb]; exact (show _ = vs 14 by kernel_rfl).trans (hp 14 (by decide))
      rw [if_pos (AnyO.wanted_some (g := 14) (t := 31) (want := true) rfl rfl s31)]
      clear hb hp
      obtain ⟨q1, q2⟩ := L4.out u hE
      go_simp
      exact hK _ _ (Below.refl _ _) rfl
    · -- 19: Op.binOp BinOp.eql 33 (Operand.tmp 34) (Operand.tmp 35) 33
      refine AnyO.Step.mk rfl [17, 18, 14] (by kernel_rfl) ?_
      intro vs u hE hp ac hb K hK
      have s34 : ac.tmps[34]?.getD undef = vI (bI 3) := by rw [hb]; exact (show _ = vs 17 by kernel_rfl).trans (hp 17 (by decide))
      have s35 : ac.tmps[35]?.getD undef = vI (bI 3) := by rw [hb]; exact (show _ = vs 18 by kernel_rfl).trans (hp 18 (by decide))
      have s31 : ac.tmps[31]?.getD undef = .bool true := by rw [hb]; exact (show _ = vs 14 by kernel_rfl).trans (hp 14 (by decide))
      rw [if_pos (AnyO.wanted_some (g := 14) (t := 31) (want := true) rfl rfl s31)]
      clear hb hp
      go_simp
      exact hK _ _ (Below.refl _ _) rfl
    · -- 20: Op.pick (Operand.tmp 31) (Operand.tmp 36) (Operand.const (Va
      refine AnyO.Step.mk rfl [14, 19] (by kernel_rfl) ?_
      intro vs u hE hp ac hb K hK
      have s31 : ac.tmps[31]?.getD undef = .bool true := by rw [hb]; exact (show _ = vs 14 by kernel_rfl).trans (hp 14 (by decide))
      have s36 : ac.tmps[36]?.getD undef = .bool true := by rw [hb]; exact (show _ = vs 19 by kernel_rfl).trans (hp 19 (by decide))
      rw [if_pos (AnyO.wanted_none rfl)]
      clear hb hp
      go_simp
      exact hK _ _ (Below.refl _ _) rfl
    · -- 21: Op.move (Operand.tmp 37)
      refine AnyO.Step.mk rfl [20, 14] (by kernel_rfl) ?_
      intro vs u hE hp ac hb K hK
      have s37 : ac.tmps[37]?.getD undef = .bool true := by rw [hb]; exact (show _ = vs 20 by kernel_rfl).trans (hp 20 (by decide))
      rw [if_pos (AnyO.wanted_none rfl)]
      clear hb hp
      go_simp
      exact hK _ _ (Below.refl _ _) rfl
    · -- 22: Op.load 33 (Operand.tmp 1)
      refine AnyO.Step.mk rfl [21] (by kernel_rfl) ?_
      intro vs u hE hp ac hb K hK
      have s1 : ac.tmps[1]?.getD undef = .pointer (some ⟨w.heap.size, 0, none⟩) := by rw [hb]; kernel_rfl
      have s38 : ac.tmps[38]?.getD undef = .bool true := by rw [hb]; exact (show _ = vs 21 by kernel_rfl).trans (hp 21 (by decide))
      rw [if_pos (AnyO.wanted_some (g := 21) (t := 38) (want := true) rfl rfl s38)]
      clear hb hp
      obtain ⟨q1, q2⟩ := L2.out u hE
      go_simp
      exact hK _ _ (Below.refl _ _) rfl
    · -- 23: Op.load 33 (Operand.tmp 3)
      refine AnyO.Step.mk rfl [21] (by kernel_rfl) ?_
      intro vs u hE hp ac hb K hK
      have s3 : ac.tmps[3]?.getD undef = .pointer (some ⟨w.heap.size + 1 + 1, 0, none⟩) := by rw [hb]; kernel_rfl
      have s38 : ac.tmps[38]?.getD undef = .bool true := by rw [hb]; exact (show _ = vs 21 by kernel_rfl).trans (hp 21 (by decide))
      rw [if_pos (AnyO.wanted_some (g := 21) (t := 38) (want := true) rfl rfl s38)]
      clear hb hp
      obtain ⟨q1, q2⟩ := L4.out u hE
      go_simp
      exact hK _ _ (Below.refl _ _) rfl
    · -- 24: Op.buildSlice 24 2 #[(0, Operand.tmp 39), (1, Operand.tmp 40
      refine AnyO.Step.mk rfl [22, 23, 21] (by kernel_rfl) ?_
      intro vs u hE hp ac hb K hK
      have s39 : ac.tmps[39]?.getD undef = vI (bI 1) := by rw [hb]; exact (show _ = vs 22 by kernel_rfl).trans (hp 22 (by decide))
      have s40 : ac.tmps[40]?.getD undef = vI (bI 3) := by rw [hb]; exact (show _ = vs 23 by kernel_rfl).trans (hp 23 (by decide))
      have s38 : ac.tmps[38]?.getD undef = .bool true := by rw [hb]; exact (show _ = vs 21 by kernel_rfl).trans (hp 21 (by decide))
      rw [if_pos (AnyO.wanted_some (g := 21) (t := 38) (want := true) rfl rfl s38)]
      clear hb hp
      go_simp
      exact hK _ _ (below_alloc _ _) ⟨_, rfl, sl_newI _ _ _⟩
    · -- 25: Op.load 33 (Operand.tmp 1)
      refine AnyO.Step.mk rfl [21] (by kernel_rfl) ?_
      intro vs u hE hp ac hb K hK
      have s1 : ac.tmps[1]?.getD undef = .pointer (some ⟨w.heap.size, 0, none⟩) := by rw [hb]; kernel_rfl
      have s38 : ac.tmps[38]?.getD undef = .bool true := by rw [hb]; exact (show _ = vs 21 by kernel_rfl).trans (hp 21 (by decide))
      rw [if_pos (AnyO.wanted_some (g := 21) (t := 38) (want := true) rfl rfl s38)]
      clear hb hp
      obtain ⟨q1, q2⟩ := L2.out u hE
      go_simp
      exact hK _ _ (Below.refl _ _) rfl
    · -- 26: Op.load 33 (Operand.tmp 2)
      refine AnyO.Step.mk rfl [21] (by kernel_rfl) ?_
      intro vs u hE hp ac hb K hK
      have s2 : ac.tmps[2]?.getD undef = .pointer (some ⟨w.heap.size + 1, 0, none⟩) := by rw [hb]; kernel_rfl
      have s38 : ac.tmps[38]?.getD undef = .bool true := by rw [hb]; exact (show _ = vs 21 by kernel_rfl).trans (hp 21 (by decide))
      rw [if_pos (AnyO.wanted_some (g := 21) (t := 38) (want := true) rfl rfl s38)]
      clear hb hp
      obtain ⟨q1, q2⟩ := L3.out u hE
      go_simp
      exact hK _ _ (Below.refl _ _) rfl
    · -- 27: Op.load 33 (Operand.tmp 3)
      refine AnyO.Step.mk rfl [21] (by kernel_rfl) ?_
      intro vs u hE hp ac hb K hK
      have s3 : ac.tmps[3]?.getD undef = .pointer (some ⟨w.heap.size + 1 + 1, 0, none⟩) := by rw [hb]; kernel_rfl
      have s38 : ac.tmps[38]?.getD undef = .bool true := by rw [hb]; exact (show _ = vs 21 by kernel_rfl).trans (hp 21 (by decide))
      rw [if_pos (AnyO.wanted_some (g := 21) (t := 38) (want := true) rfl rfl s38)]
      clear hb hp
      obtain ⟨q1, q2⟩ := L4.out u hE
      go_simp
      exact hK _ _ (Below.refl _ _) rfl
    · -- 28: Op.buildSlice 24 3 #[(0, Operand.tmp 42), (1, Operand.tmp 43
      refine AnyO.Step.mk rfl [25, 26, 27, 21] (by kernel_rfl) ?_
      intro vs u hE hp ac hb K hK
      have s42 : ac.tmps[42]?.getD undef = vI (bI 1) := by rw [hb]; exact (show _ = vs 25 by kernel_rfl).trans (hp 25 (by decide))
      have s43 : ac.tmps[43]?.getD undef = vI (bI 2) := by rw [hb]; exact (show _ = vs 26 by kernel_rfl).trans (hp 26 (by decide))
      have s44 : ac.tmps[44]?.getD undef = vI (bI 3) := by rw [hb]; exact (show _ = vs 27 by kernel_rfl).trans (hp 27 (by decide))
      have s38 : ac.tmps[38]?.getD undef = .bool true := by rw [hb]; exact (show _ = vs 21 by kernel_rfl).trans (hp 21 (by decide))
      rw [if_pos (AnyO.wanted_some (g := 21) (t := 38) (want := true) rfl rfl s38)]
      clear hb hp
      go_simp
      exact hK _ _ (below_alloc _ _) ⟨_, rfl, sl_newI _ _ _⟩
    · -- 29: Op.call { callee := Callee.value (Operand.func 23), args := 
      refine AnyO.Step.mk rfl [24, 28, 21, 21] (by kernel_rfl) ?_
      intro vs u hE hp ac hb K hK
      obtain ⟨A41, n41, k41⟩ := hp 24 (by decide)
      have s41 : ac.tmps[41]?.getD undef = .slice A41 (List.length [bI 1, bI 3]) (List.length [bI 1, bI 3]) := by rw [hb]; exact (show _ = vs 24 by kernel_rfl).trans n41
      obtain ⟨A45, n45, k45⟩ := hp 28 (by decide)
      have s45 : ac.tmps[45]?.getD undef = .slice A45 (List.length [bI 1, bI 2, bI 3]) (List.length [bI 1, bI 2, bI 3]) := by rw [hb]; exact (show _ = vs 28 by kernel_rfl).trans n45
      have s38 : ac.tmps[38]?.getD undef = .bool true := by rw [hb]; exact (show _ = vs 21 by kernel_rfl).trans (hp 21 (by decide))
      rw [if_pos (AnyO.wanted_some (g := 21) (t := 38) (want := true) rfl rfl s38)]
      clear hb hp
      go_simp
      refine (istr23 A41 A45 2 3 [bI 1, bI 3] [bI 1, bI 2, bI 3] u k41 k45 (by simp) (by simp) (by simp)).mono ?_
      rintro e w2 ⟨rfl, hb2⟩
      exact hK _ _ hb2 (congrArg Value.bool (show isTr [bI 1, bI 3] [bI 1, bI 2, bI 3] = true by simp [isTr, trimL]))
    · -- 30: Op.pick (Operand.tmp 38) (Operand.tmp 46) (Operand.const (Va
      refine AnyO.Step.mk rfl [21, 29] (by kernel_rfl) ?_
      intro vs u hE hp ac hb K hK
      have s38 : ac.tmps[38]?.getD undef = .bool true := by rw [hb]; exact (show _ = vs 21 by kernel_rfl).trans (hp 21 (by decide))
      have s46 : ac.tmps[46]?.getD undef = .bool true := by rw [hb]; exact (show _ = vs 29 by kernel_rfl).trans (hp 29 (by decide))
      rw [if_pos (AnyO.wanted_none rfl)]
      clear hb hp
      go_simp
      exact hK _ _ (Below.refl _ _) rfl
    · -- 31: Op.assign (Operand.tmp 47)
      refine AnyO.Step.mk rfl [30, 29, 0, 1, 2, 3, 4, 5, 6, 7, 8, 9, 10, 11, 12, 13, 14, 15, 16, 17, 18, 19, 20, 21, 22, 23, 24, 25, 26, 27, 28, 29, 30] (by kernel_rfl) ?_
      intro vs u hE hp ac hb K hK
      have s47 : ac.tmps[47]?.getD undef = .bool true := by rw [hb]; exact (show _ = vs 30 by kernel_rfl).trans (hp 30 (by decide))
      rw [if_pos (AnyO.wanted_none rfl)]
      clear hb hp
      go_simp
      exact hK _ _ (Below.refl _ _) rfl
  · intro vs u hE hp
    have h31 := hp 31 (by decide)
    rename_i Q2 K2 hKK
    refine hKK _ _ ?_
    generalize hac : AnyO.puts _ _ _ _ = ac
    have s0 : ac.tmps[0]?.getD undef = .bool true := by rw [← hac]; exact (show _ = vs 31 by kernel_rfl).trans h31
    have sd : ac.defers = [] := by rw [← hac]; kernel_rfl
    clear hac hp h31 hKK
    refine wp_ret ?_
    refine bodyPost_ret (fn := Try.f12) (results_tmp (t := 0) (by rfl) ac.tmps Try.prog u) sd ?_
    refine ⟨congrArg Ending.returned ((show ac.tmps.getD 0 undef = ac.tmps[0]?.getD undef by simp).trans s0), ?_⟩
    exact Below.step HF.out hE
end Go.Proofs.Ytcchpenaiomeeaa
