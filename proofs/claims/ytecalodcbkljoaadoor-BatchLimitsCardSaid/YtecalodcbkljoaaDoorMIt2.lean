/- The line of an item. -/
import Derived.Test.YtecalodcbkljoaaDoorMItm
namespace Go.Proofs.YtecalodcbkljoaaDoor
open Go.RowKit
theorem itoa_size (n : Nat) (h : n ≤ 9999999999) : (⟨(Lib.itoa (n : Int)).toArray⟩ : ByteArray).size ≤ 10 := by
  rw [← bl_length]
  exact itoa_len 10 n (by omega) (by omega)
/-- The line of an item, as a string. -/
def linS (x : It) : ByteArray := ⟨(headL x ++ [10]).toArray⟩
set_option maxRecDepth 100000 in
set_option maxHeartbeats 3200000 in
theorem line_i (x : It) (w : World) (hL : Laid w) (hx : x.text.size ≤ 1073741824) : Calls Tryd.prog 26 #[vX x] w fun e w' => e = .returned (.string (linS x)) ∧ Below w.heap.size w w' := by
  obtain ⟨b, hb⟩ : ∃ b, w.heap.size = b := ⟨_, rfl⟩
  obtain ⟨W0, hW0⟩ : ∃ W0, w.alloc (.cells (aX x) 39) = W0 := ⟨_, rfl⟩
  have HX := Lib.hid (show Row W0 b (cX x) 39 ∧ Laid W0 ∧ Below w.heap.size w W0 from by
    subst hW0 hb
    exact ⟨Row.new w (cX x) _, hL.keep (below_alloc _ _), below_alloc _ _⟩)
  obtain ⟨D, hD⟩ : ∃ D : ByteArray, ⟨(Lib.itoa (x.text.size : Int)).toArray⟩ = D := ⟨_, rfl⟩
  obtain ⟨T, hT⟩ : ∃ T, idS x.id = T := ⟨_, rfl⟩
  obtain ⟨G, hG⟩ : ∃ G, digS x = G := ⟨_, rfl⟩
  obtain ⟨s4, h4⟩ : ∃ s : ByteArray, ⟨#[97, 114, 116, 105, 99, 108, 101, 32]⟩ ++ D = s := ⟨_, rfl⟩
  obtain ⟨s5, h5⟩ : ∃ s : ByteArray, s4 ++ ⟨#[32]⟩ = s := ⟨_, rfl⟩
  obtain ⟨s8, h8⟩ : ∃ s : ByteArray, s5 ++ G = s := ⟨_, rfl⟩
  obtain ⟨s9, h9⟩ : ∃ s : ByteArray, s8 ++ ⟨#[32]⟩ = s := ⟨_, rfl⟩
  obtain ⟨s13, h13⟩ : ∃ s : ByteArray, s9 ++ T = s := ⟨_, rfl⟩
  obtain ⟨s14, h14⟩ : ∃ s : ByteArray, s13 ++ ⟨#[10]⟩ = s := ⟨_, rfl⟩
  have z0 : D.size ≤ 10 := by rw [← hD]; exact itoa_size _ (by omega)
  have z1 : T.size = 71 := by rw [← hT]; exact idS_size _
  have z2 : G.size = 32 := by rw [← hG]; exact digS_size _
  have z4 : s4.size ≤ 100 := by rw [← h4, ByteArray.size_append]; show 8 + D.size ≤ 100; omega
  have z5 : s5.size ≤ 200 := by rw [← h5, ByteArray.size_append]; show s4.size + 1 ≤ 200; omega
  have z8 : s8.size ≤ 300 := by rw [← h8, ByteArray.size_append]; omega
  have z9 : s9.size ≤ 400 := by rw [← h9, ByteArray.size_append]; show s8.size + 1 ≤ 400; omega
  have z13 : s13.size ≤ 500 := by rw [← h13, ByteArray.size_append]; omega
  have HR := Lib.hid (show s14 = linS x from by
    apply bl_inj
    rw [← h14, ← h13, ← h9, ← h8, ← h5, ← h4, ← hG, ← hT, ← hD]
    simp only [bl_app]
    show ((((([97, 114, 116, 105, 99, 108, 101, 32] ++ Lib.itoa (x.text.size : Int)) ++ [32]) ++ digT x) ++ [32]) ++ textL x.id) ++ [10] = headL x ++ [10]
    unfold headL artL
    simp)
  have HQ := Lib.hid (And.intro h4 (And.intro h5 (And.intro h8 (And.intro h9 (And.intro h13 h14)))))
  have HZ := Lib.hid (And.intro z0 (And.intro z4 (And.intro z5 (And.intro z2 (And.intro z8 (And.intro z9 (And.intro z1 z13)))))))
  have HS := Lib.hid hx
  have HB := Lib.hid hb
  have HD := Lib.hid hD
  have HT := Lib.hid hT
  have HG := Lib.hid hG
  clear hT hL hx hD hG h4 h5 h8 h9 h13 h14 z0 z1 z2 z4 z5 z8 z9 z13
  go_enter Tryd.func26, Tryd.ntmps26
  go_wp2
  clear hb hW0
  refine AnyO.wp_any (by kernel_rfl) (by kernel_rfl) (pstP [isV (.pointer (some ⟨b, 32, none⟩)), isV (.string x.text), isV (.int .i64 (x.text.size : Int)), isV (.string D), isV (.string s4), isV (.string s5), isV (vX x), isV (.string G), isV (.string s8), isV (.string s9), isV (.pointer (some ⟨b, 0, none⟩)), isV (vI x.id), isV (.string T), isV (.string s13), isV (.string s14), isV (.string s14)]) (MonoL.cons (Mono.v _) (MonoL.cons (Mono.v _) (MonoL.cons (Mono.v _) (MonoL.cons (Mono.v _) (MonoL.cons (Mono.v _) (MonoL.cons (Mono.v _) (MonoL.cons (Mono.v _) (MonoL.cons (Mono.v _) (MonoL.cons (Mono.v _) (MonoL.cons (Mono.v _) (MonoL.cons (Mono.v _) (MonoL.cons (Mono.v _) (MonoL.cons (Mono.v _) (MonoL.cons (Mono.v _) (MonoL.cons (Mono.v _) (MonoL.cons (Mono.v _) MonoL.nil)))))))))))))))) ?_ ?_
  · intro i hi
    have hi2 : i = 0 ∨ i = 1 ∨ i = 2 ∨ i = 3 ∨ i = 4 ∨ i = 5 ∨ i = 6 ∨ i = 7 ∨ i = 8 ∨ i = 9 ∨ i = 10 ∨ i = 11 ∨ i = 12 ∨ i = 13 ∨ i = 14 ∨ i = 15 := by simp only [List.size_toArray, List.length_cons, List.length_nil] at hi; omega
    clear hi
    rcases hi2 with rfl | rfl | rfl | rfl | rfl | rfl | rfl | rfl | rfl | rfl | rfl | rfl | rfl | rfl | rfl | rfl
    · -- 0: Op.fieldAddr 64 (Operand.tmp 1) 1
      refine AnyO.Step.mk rfl [] (by kernel_rfl) ?_
      intro vs u hE hp ac hb K hK
      have s1 : ac.tmps[1]?.getD undef = .pointer (some ⟨b, 0, none⟩) := by rw [hb]; kernel_rfl
      rw [if_pos (AnyO.wanted_none rfl)]
      clear hb hp
      go_simp
      exact hK _ _ (Below.refl _ _) rfl
    · -- 1: Op.load 9 (Operand.tmp 3)
      refine AnyO.Step.mk rfl [0] (by kernel_rfl) ?_
      intro vs u hE hp ac hb K hK
      have s3 : ac.tmps[3]?.getD undef = .pointer (some ⟨b, 32, none⟩) := by rw [hb]; exact (show _ = vs 0 by kernel_rfl).trans (hp 0 (by decide))
      rw [if_pos (AnyO.wanted_none rfl)]
      clear hb hp
      obtain ⟨-, -, x1⟩ := rowX (HX.out.1.keep (Below.step (below_drew _) hE))
      go_simp
      exact hK _ _ (Below.refl _ _) rfl
    · -- 2: Op.call { callee := Callee.builtin Builtin.len, args := #[Op
      refine AnyO.Step.mk rfl [1] (by kernel_rfl) ?_
      intro vs u hE hp ac hb K hK
      have s4 : ac.tmps[4]?.getD undef = .string x.text := by rw [hb]; exact (show _ = vs 1 by kernel_rfl).trans (hp 1 (by decide))
      rw [if_pos (AnyO.wanted_none rfl)]
      clear hb hp
      go_simp
      exact hK _ _ (Below.refl _ _) rfl
    · -- 3: Op.call { callee := Callee.value (Operand.func 61), args := 
      refine AnyO.Step.mk rfl [2] (by kernel_rfl) ?_
      intro vs u hE hp ac hb K hK
      have s5 : ac.tmps[5]?.getD undef = .int .i64 (x.text.size : Int) := by rw [hb]; exact (show _ = vs 2 by kernel_rfl).trans (hp 2 (by decide))
      rw [if_pos (AnyO.wanted_none rfl)]
      clear hb hp
      go_simp
      go_at_call 45
      refine (digits28 _ (by omega) (by have := HS.out; omega) u (tab_below HX.out.2.1.tab (Below.step (below_drew _) hE))).mono ?_
      rintro e w2 ⟨rfl, hb2⟩
      exact hK _ _ hb2 (congrArg Value.string HD.out)
    · -- 4: Op.binOp BinOp.add 9 (Operand.const (Value.string { data := 
      refine AnyO.Step.mk rfl [3] (by kernel_rfl) ?_
      intro vs u hE hp ac hb K hK
      have s6 : ac.tmps[6]?.getD undef = .string D := by rw [hb]; exact (show _ = vs 3 by kernel_rfl).trans (hp 3 (by decide))
      rw [if_pos (AnyO.wanted_none rfl)]
      clear hb hp
      have x1 := HQ.out.1
      have x2 : ¬ 9223372036854775807 < 8 + D.size := by have := HZ.out.1; omega
      go_simp
      exact hK _ _ (Below.refl _ _) rfl
    · -- 5: Op.binOp BinOp.add 9 (Operand.tmp 7) (Operand.const (Value.s
      refine AnyO.Step.mk rfl [4] (by kernel_rfl) ?_
      intro vs u hE hp ac hb K hK
      have s7 : ac.tmps[7]?.getD undef = .string s4 := by rw [hb]; exact (show _ = vs 4 by kernel_rfl).trans (hp 4 (by decide))
      rw [if_pos (AnyO.wanted_none rfl)]
      clear hb hp
      have x1 := HQ.out.2.1
      have x2 : ¬ 9223372036854775807 < s4.size + 1 := by have := HZ.out.2.1; omega
      go_simp
      exact hK _ _ (Below.refl _ _) rfl
    · -- 6: Op.load 64 (Operand.tmp 1)
      refine AnyO.Step.mk rfl [] (by kernel_rfl) ?_
      intro vs u hE hp ac hb K hK
      have s1 : ac.tmps[1]?.getD undef = .pointer (some ⟨b, 0, none⟩) := by rw [hb]; kernel_rfl
      rw [if_pos (AnyO.wanted_none rfl)]
      clear hb hp
      obtain ⟨⟨x1, x2, -⟩, -, -⟩ := rowX (HX.out.1.keep (Below.step (below_drew _) hE))
      go_simp
      exact hK _ _ (Below.refl _ _) rfl
    · -- 7: Op.call { callee := Callee.value (Operand.func 57), args := 
      refine AnyO.Step.mk rfl [6, 3] (by kernel_rfl) ?_
      intro vs u hE hp ac hb K hK
      have s9 : ac.tmps[9]?.getD undef = vX x := by rw [hb]; exact (show _ = vs 6 by kernel_rfl).trans (hp 6 (by decide))
      rw [if_pos (AnyO.wanted_none rfl)]
      clear hb hp
      go_simp
      go_at_call 36
      refine (digest_i x u (HX.out.2.1.keep (Below.step (below_drew _) hE)) HS.out).mono ?_
      rintro e w2 ⟨rfl, hb2⟩
      exact hK _ _ hb2 (congrArg Value.string HG.out)
    · -- 8: Op.binOp BinOp.add 9 (Operand.tmp 8) (Operand.tmp 10) 9
      refine AnyO.Step.mk rfl [5, 7] (by kernel_rfl) ?_
      intro vs u hE hp ac hb K hK
      have s8 : ac.tmps[8]?.getD undef = .string s5 := by rw [hb]; exact (show _ = vs 5 by kernel_rfl).trans (hp 5 (by decide))
      have s10 : ac.tmps[10]?.getD undef = .string G := by rw [hb]; exact (show _ = vs 7 by kernel_rfl).trans (hp 7 (by decide))
      rw [if_pos (AnyO.wanted_none rfl)]
      clear hb hp
      have x1 := HQ.out.2.2.1
      have x2 : ¬ 9223372036854775807 < s5.size + G.size := by have := HZ.out.2.2.1; have := HZ.out.2.2.2.1; omega
      go_simp
      exact hK _ _ (Below.refl _ _) rfl
    · -- 9: Op.binOp BinOp.add 9 (Operand.tmp 11) (Operand.const (Value.
      refine AnyO.Step.mk rfl [8] (by kernel_rfl) ?_
      intro vs u hE hp ac hb K hK
      have s11 : ac.tmps[11]?.getD undef = .string s8 := by rw [hb]; exact (show _ = vs 8 by kernel_rfl).trans (hp 8 (by decide))
      rw [if_pos (AnyO.wanted_none rfl)]
      clear hb hp
      have x1 := HQ.out.2.2.2.1
      have x2 : ¬ 9223372036854775807 < s8.size + 1 := by have := HZ.out.2.2.2.2.1; omega
      go_simp
      exact hK _ _ (Below.refl _ _) rfl
    · -- 10: Op.fieldAddr 64 (Operand.tmp 1) 0
      refine AnyO.Step.mk rfl [] (by kernel_rfl) ?_
      intro vs u hE hp ac hb K hK
      have s1 : ac.tmps[1]?.getD undef = .pointer (some ⟨b, 0, none⟩) := by rw [hb]; kernel_rfl
      rw [if_pos (AnyO.wanted_none rfl)]
      clear hb hp
      go_simp
      exact hK _ _ (Below.refl _ _) rfl
    · -- 11: Op.load 37 (Operand.tmp 13)
      refine AnyO.Step.mk rfl [10] (by kernel_rfl) ?_
      intro vs u hE hp ac hb K hK
      have s13 : ac.tmps[13]?.getD undef = .pointer (some ⟨b, 0, none⟩) := by rw [hb]; exact (show _ = vs 10 by kernel_rfl).trans (hp 10 (by decide))
      rw [if_pos (AnyO.wanted_none rfl)]
      clear hb hp
      obtain ⟨-, ⟨x1, x2⟩, -⟩ := rowX (HX.out.1.keep (Below.step (below_drew _) hE))
      go_simp
      exact hK _ _ (Below.refl _ _) rfl
    · -- 12: Op.call { callee := Callee.value (Operand.func 62), args := 
      refine AnyO.Step.mk rfl [11, 7] (by kernel_rfl) ?_
      intro vs u hE hp ac hb K hK
      have s14 : ac.tmps[14]?.getD undef = vI x.id := by rw [hb]; exact (show _ = vs 11 by kernel_rfl).trans (hp 11 (by decide))
      rw [if_pos (AnyO.wanted_none rfl)]
      clear hb hp
      go_simp
      go_at_call 46
      refine (print_m x.id u).mono ?_
      rintro e w2 ⟨rfl, hb2⟩
      exact hK _ _ hb2 (congrArg Value.string HT.out)
    · -- 13: Op.binOp BinOp.add 9 (Operand.tmp 12) (Operand.tmp 15) 9
      refine AnyO.Step.mk rfl [9, 12] (by kernel_rfl) ?_
      intro vs u hE hp ac hb K hK
      have s12 : ac.tmps[12]?.getD undef = .string s9 := by rw [hb]; exact (show _ = vs 9 by kernel_rfl).trans (hp 9 (by decide))
      have s15 : ac.tmps[15]?.getD undef = .string T := by rw [hb]; exact (show _ = vs 12 by kernel_rfl).trans (hp 12 (by decide))
      rw [if_pos (AnyO.wanted_none rfl)]
      clear hb hp
      have x1 := HQ.out.2.2.2.2.1
      have x2 : ¬ 9223372036854775807 < s9.size + T.size := by have := HZ.out.2.2.2.2.2.1; have := HZ.out.2.2.2.2.2.2.1; omega
      go_simp
      exact hK _ _ (Below.refl _ _) rfl
    · -- 14: Op.binOp BinOp.add 9 (Operand.tmp 16) (Operand.const (Value.
      refine AnyO.Step.mk rfl [13] (by kernel_rfl) ?_
      intro vs u hE hp ac hb K hK
      have s16 : ac.tmps[16]?.getD undef = .string s13 := by rw [hb]; exact (show _ = vs 13 by kernel_rfl).trans (hp 13 (by decide))
      rw [if_pos (AnyO.wanted_none rfl)]
      clear hb hp
      have x1 := HQ.out.2.2.2.2.2
      have x2 : ¬ 9223372036854775807 < s13.size + 1 := by have := HZ.out.2.2.2.2.2.2.2; omega
      go_simp
      exact hK _ _ (Below.refl _ _) rfl
    · -- 15: Op.assign (Operand.tmp 17)
      refine AnyO.Step.mk rfl [14, 12, 0, 1, 2, 3, 4, 5, 6, 7, 8, 9, 10, 11, 12, 13, 14] (by kernel_rfl) ?_
      intro vs u hE hp ac hb K hK
      have s17 : ac.tmps[17]?.getD undef = .string s14 := by rw [hb]; exact (show _ = vs 14 by kernel_rfl).trans (hp 14 (by decide))
      rw [if_pos (AnyO.wanted_none rfl)]
      clear hb hp
      go_simp
      exact hK _ _ (Below.refl _ _) rfl
  · intro vs u hE hp
    have e0 : vs 0 = .pointer (some ⟨b, 32, none⟩) := hp 0 (by decide)
    have e1 : vs 1 = .string x.text := hp 1 (by decide)
    have e2 : vs 2 = .int .i64 (x.text.size : Int) := hp 2 (by decide)
    have e3 : vs 3 = .string D := hp 3 (by decide)
    have e4 : vs 4 = .string s4 := hp 4 (by decide)
    have e5 : vs 5 = .string s5 := hp 5 (by decide)
    have e6 : vs 6 = vX x := hp 6 (by decide)
    have e7 : vs 7 = .string G := hp 7 (by decide)
    have e8 : vs 8 = .string s8 := hp 8 (by decide)
    have e9 : vs 9 = .string s9 := hp 9 (by decide)
    have e10 : vs 10 = .pointer (some ⟨b, 0, none⟩) := hp 10 (by decide)
    have e11 : vs 11 = vI x.id := hp 11 (by decide)
    have e12 : vs 12 = .string T := hp 12 (by decide)
    have e13 : vs 13 = .string s13 := hp 13 (by decide)
    have e14 : vs 14 = .string s14 := hp 14 (by decide)
    have e15 : vs 15 = .string s14 := hp 15 (by decide)
    clear hp
    have HE := Lib.hid hE; clear hE
    rw [puts_range [some 3, some 4, some 5, some 6, some 7, some 8, some 9, some 10, some 11, some 12, some 13, some 14, some 15, some 16, some 17, some 2] (by kernel_rfl)]
    simp only [putL, Nat.reduceAdd, e0, e1, e2, e3, e4, e5, e6, e7, e8, e9, e10, e11, e12, e13, e14, e15]
    clear e0 e1 e2 e3 e4 e5 e6 e7 e8 e9 e10 e11 e12 e13 e14 e15
    go_simp
    go_wp2
    go_ret
    exact ⟨congrArg (fun s => Ending.returned (.string s)) HR.out, HX.out.2.2.trans (HE.out.mono HX.out.2.2.size)⟩
end Go.Proofs.YtecalodcbkljoaaDoor
