/- The size of an item. -/
import Derived.Test.YtecalodcbkljoaaDoorMIt2
namespace Go.Proofs.YtecalodcbkljoaaDoor
open Go.RowKit
set_option maxRecDepth 100000 in
set_option maxHeartbeats 3200000 in
theorem bytes_i (x : It) (w : World) (hL : Laid w) (hx : x.text.size ≤ 1073741824) : Calls Tryd.prog 42 #[vX x] w fun e w' => e = .returned (.int .i64 (itN x : Int)) ∧ Below w.heap.size w w' := by
  obtain ⟨b, hb⟩ : ∃ b, w.heap.size = b := ⟨_, rfl⟩
  obtain ⟨W0, hW0⟩ : ∃ W0, w.alloc (.cells (aX x) 39) = W0 := ⟨_, rfl⟩
  have HX := Lib.hid (show Row W0 b (cX x) 39 ∧ Laid W0 ∧ Below w.heap.size w W0 from by
    subst hW0 hb
    exact ⟨Row.new w (cX x) _, hL.keep (below_alloc _ _), below_alloc _ _⟩)
  obtain ⟨D, hD⟩ : ∃ D : ByteArray, ⟨(Lib.itoa (x.text.size : Int)).toArray⟩ = D := ⟨_, rfl⟩
  obtain ⟨d, hd⟩ : ∃ d, D.size = d := ⟨_, rfl⟩
  have z0 : d ≤ 10 := by rw [← hd, ← hD]; exact itoa_size _ (by omega)
  have HN := Lib.hid (show 114 + (d : Int) + (x.text.size : Int) + 1 = (itN x : Int) from by
    have h1 : (Lib.itoa (x.text.size : Int)).length = d := by rw [← hd, ← hD, ← bl_length]; rfl
    unfold itN
    omega)
  have HZ := Lib.hid (And.intro hd z0)
  have HS := Lib.hid hx
  have HD := Lib.hid hD
  clear hL hx hD hd z0
  go_enter Tryd.func42, Tryd.ntmps42
  go_wp2
  clear hb hW0
  refine AnyO.wp_any (by kernel_rfl) (by kernel_rfl) (pstP [isV (.pointer (some ⟨b, 32, none⟩)), isV (.string x.text), isV (.int .i64 (x.text.size : Int)), isV (.string D), isV (.int .i64 (d : Int)), isV (.int .i64 (8 + (d : Int))), isV (.int .i64 (9 + (d : Int))), isV (.int .i64 (41 + (d : Int))), isV (.int .i64 (42 + (d : Int))), isV (.int .i64 (113 + (d : Int))), isV (.int .i64 (114 + (d : Int))), isV (.pointer (some ⟨b, 32, none⟩)), isV (.string x.text), isV (.int .i64 (x.text.size : Int)), isV (.int .i64 (114 + (d : Int) + (x.text.size : Int))), isV (.int .i64 (itN x : Int)), isV (.int .i64 (itN x : Int))]) (MonoL.cons (Mono.v _) (MonoL.cons (Mono.v _) (MonoL.cons (Mono.v _) (MonoL.cons (Mono.v _) (MonoL.cons (Mono.v _) (MonoL.cons (Mono.v _) (MonoL.cons (Mono.v _) (MonoL.cons (Mono.v _) (MonoL.cons (Mono.v _) (MonoL.cons (Mono.v _) (MonoL.cons (Mono.v _) (MonoL.cons (Mono.v _) (MonoL.cons (Mono.v _) (MonoL.cons (Mono.v _) (MonoL.cons (Mono.v _) (MonoL.cons (Mono.v _) (MonoL.cons (Mono.v _) MonoL.nil))))))))))))))))) ?_ ?_
  · intro i hi
    have hi2 : i = 0 ∨ i = 1 ∨ i = 2 ∨ i = 3 ∨ i = 4 ∨ i = 5 ∨ i = 6 ∨ i = 7 ∨ i = 8 ∨ i = 9 ∨ i = 10 ∨ i = 11 ∨ i = 12 ∨ i = 13 ∨ i = 14 ∨ i = 15 ∨ i = 16 := by simp only [List.size_toArray, List.length_cons, List.length_nil] at hi; omega
    clear hi
    rcases hi2 with rfl | rfl | rfl | rfl | rfl | rfl | rfl | rfl | rfl | rfl | rfl | rfl | rfl | rfl | rfl | rfl | rfl
    · -- 0: Op.fieldAddr 64 (Operand.tmp 1) 1
      refine AnyO.Step.mk rfl [] (by kernel_rfl) ?_
      intro vs u hE hp ac hb K hK
      have s1 : ac.tmps[1]?.getD undef = .pointer (some ⟨b, 0, none⟩) := by rw [hb]; kernel_rfl
      rw [if_pos (AnyO.wanted_none rfl)]
      clear hb hp
      go_simp
      exact hK _ _ (Below.refl _ _) rfl
    · -- 1: Op.load 9 (Operand.tmp 3)
      refine AnyO.Step.mk rfl [0] (by kernel_rfl) ?_
      intro vs u hE hp ac hb K hK
      have s3 : ac.tmps[3]?.getD undef = .pointer (some ⟨b, 32, none⟩) := by rw [hb]; exact (show _ = vs 0 by kernel_rfl).trans (hp 0 (by decide))
      rw [if_pos (AnyO.wanted_none rfl)]
      clear hb hp
      obtain ⟨-, -, x1⟩ := rowX (HX.out.1.keep (Below.step (below_drew _) hE))
      go_simp
      exact hK _ _ (Below.refl _ _) rfl
    · -- 2: Op.call { callee := Callee.builtin Builtin.len, args := #[Op
      refine AnyO.Step.mk rfl [1] (by kernel_rfl) ?_
      intro vs u hE hp ac hb K hK
      have s4 : ac.tmps[4]?.getD undef = .string x.text := by rw [hb]; exact (show _ = vs 1 by kernel_rfl).trans (hp 1 (by decide))
      rw [if_pos (AnyO.wanted_none rfl)]
      clear hb hp
      go_simp
      exact hK _ _ (Below.refl _ _) rfl
    · -- 3: Op.call { callee := Callee.value (Operand.func 61), args := 
      refine AnyO.Step.mk rfl [2] (by kernel_rfl) ?_
      intro vs u hE hp ac hb K hK
      have s5 : ac.tmps[5]?.getD undef = .int .i64 (x.text.size : Int) := by rw [hb]; exact (show _ = vs 2 by kernel_rfl).trans (hp 2 (by decide))
      rw [if_pos (AnyO.wanted_none rfl)]
      clear hb hp
      go_simp
      go_at_call 45
      refine (digits28 _ (by omega) (by have := HS.out; omega) u (tab_below HX.out.2.1.tab (Below.step (below_drew _) hE))).mono ?_
      rintro e w2 ⟨rfl, hb2⟩
      exact hK _ _ hb2 (congrArg Value.string HD.out)
    · -- 4: Op.call { callee := Callee.builtin Builtin.len, args := #[Op
      refine AnyO.Step.mk rfl [3] (by kernel_rfl) ?_
      intro vs u hE hp ac hb K hK
      have s6 : ac.tmps[6]?.getD undef = .string D := by rw [hb]; exact (show _ = vs 3 by kernel_rfl).trans (hp 3 (by decide))
      rw [if_pos (AnyO.wanted_none rfl)]
      clear hb hp
      have x1 := HZ.out.1
      go_simp
      exact hK _ _ (Below.refl _ _) rfl
    · -- 5: Op.binOp BinOp.add 3 (Operand.const (Value.int IntKind.i64 8
      refine AnyO.Step.mk rfl [4] (by kernel_rfl) ?_
      intro vs u hE hp ac hb K hK
      have s7 : ac.tmps[7]?.getD undef = .int .i64 (d : Int) := by rw [hb]; exact (show _ = vs 4 by kernel_rfl).trans (hp 4 (by decide))
      rw [if_pos (AnyO.wanted_none rfl)]
      clear hb hp
      have x1 : IntKind.i64.wrap (8 + (d : Int)) = 8 + (d : Int) := IntWalk.i64_in _ (by have := HZ.out.2; omega)
      go_simp
      exact hK _ _ (Below.refl _ _) rfl
    · -- 6: Op.binOp BinOp.add 3 (Operand.tmp 8) (Operand.const (Value.i
      refine AnyO.Step.mk rfl [5] (by kernel_rfl) ?_
      intro vs u hE hp ac hb K hK
      have s8 : ac.tmps[8]?.getD undef = .int .i64 (8 + (d : Int)) := by rw [hb]; exact (show _ = vs 5 by kernel_rfl).trans (hp 5 (by decide))
      rw [if_pos (AnyO.wanted_none rfl)]
      clear hb hp
      have x1 : IntKind.i64.wrap (8 + (d : Int) + 1) = 9 + (d : Int) := (IntWalk.i64_in _ (by have := HZ.out.2; omega)).trans (by omega)
      go_simp
      exact hK _ _ (Below.refl _ _) rfl
    · -- 7: Op.binOp BinOp.add 3 (Operand.tmp 9) (Operand.const (Value.i
      refine AnyO.Step.mk rfl [6] (by kernel_rfl) ?_
      intro vs u hE hp ac hb K hK
      have s9 : ac.tmps[9]?.getD undef = .int .i64 (9 + (d : Int)) := by rw [hb]; exact (show _ = vs 6 by kernel_rfl).trans (hp 6 (by decide))
      rw [if_pos (AnyO.wanted_none rfl)]
      clear hb hp
      have x1 : IntKind.i64.wrap (9 + (d : Int) + 32) = 41 + (d : Int) := (IntWalk.i64_in _ (by have := HZ.out.2; omega)).trans (by omega)
      go_simp
      exact hK _ _ (Below.refl _ _) rfl
    · -- 8: Op.binOp BinOp.add 3 (Operand.tmp 10) (Operand.const (Value.
      refine AnyO.Step.mk rfl [7] (by kernel_rfl) ?_
      intro vs u hE hp ac hb K hK
      have s10 : ac.tmps[10]?.getD undef = .int .i64 (41 + (d : Int)) := by rw [hb]; exact (show _ = vs 7 by kernel_rfl).trans (hp 7 (by decide))
      rw [if_pos (AnyO.wanted_none rfl)]
      clear hb hp
      have x1 : IntKind.i64.wrap (41 + (d : Int) + 1) = 42 + (d : Int) := (IntWalk.i64_in _ (by have := HZ.out.2; omega)).trans (by omega)
      go_simp
      exact hK _ _ (Below.refl _ _) rfl
    · -- 9: Op.binOp BinOp.add 3 (Operand.tmp 11) (Operand.const (Value.
      refine AnyO.Step.mk rfl [8] (by kernel_rfl) ?_
      intro vs u hE hp ac hb K hK
      have s11 : ac.tmps[11]?.getD undef = .int .i64 (42 + (d : Int)) := by rw [hb]; exact (show _ = vs 8 by kernel_rfl).trans (hp 8 (by decide))
      rw [if_pos (AnyO.wanted_none rfl)]
      clear hb hp
      have x1 : IntKind.i64.wrap (42 + (d : Int) + 71) = 113 + (d : Int) := (IntWalk.i64_in _ (by have := HZ.out.2; omega)).trans (by omega)
      go_simp
      exact hK _ _ (Below.refl _ _) rfl
    · -- 10: Op.binOp BinOp.add 3 (Operand.tmp 12) (Operand.const (Value.
      refine AnyO.Step.mk rfl [9] (by kernel_rfl) ?_
      intro vs u hE hp ac hb K hK
      have s12 : ac.tmps[12]?.getD undef = .int .i64 (113 + (d : Int)) := by rw [hb]; exact (show _ = vs 9 by kernel_rfl).trans (hp 9 (by decide))
      rw [if_pos (AnyO.wanted_none rfl)]
      clear hb hp
      have x1 : IntKind.i64.wrap (113 + (d : Int) + 1) = 114 + (d : Int) := (IntWalk.i64_in _ (by have := HZ.out.2; omega)).trans (by omega)
      go_simp
      exact hK _ _ (Below.refl _ _) rfl
    · -- 11: Op.fieldAddr 64 (Operand.tmp 1) 1
      refine AnyO.Step.mk rfl [] (by kernel_rfl) ?_
      intro vs u hE hp ac hb K hK
      have s1 : ac.tmps[1]?.getD undef = .pointer (some ⟨b, 0, none⟩) := by rw [hb]; kernel_rfl
      rw [if_pos (AnyO.wanted_none rfl)]
      clear hb hp
      go_simp
      exact hK _ _ (Below.refl _ _) rfl
    · -- 12: Op.load 9 (Operand.tmp 14)
      refine AnyO.Step.mk rfl [11] (by kernel_rfl) ?_
      intro vs u hE hp ac hb K hK
      have s14 : ac.tmps[14]?.getD undef = .pointer (some ⟨b, 32, none⟩) := by rw [hb]; exact (show _ = vs 11 by kernel_rfl).trans (hp 11 (by decide))
      rw [if_pos (AnyO.wanted_none rfl)]
      clear hb hp
      obtain ⟨-, -, x1⟩ := rowX (HX.out.1.keep (Below.step (below_drew _) hE))
      go_simp
      exact hK _ _ (Below.refl _ _) rfl
    · -- 13: Op.call { callee := Callee.builtin Builtin.len, args := #[Op
      refine AnyO.Step.mk rfl [12] (by kernel_rfl) ?_
      intro vs u hE hp ac hb K hK
      have s15 : ac.tmps[15]?.getD undef = .string x.text := by rw [hb]; exact (show _ = vs 12 by kernel_rfl).trans (hp 12 (by decide))
      rw [if_pos (AnyO.wanted_none rfl)]
      clear hb hp
      go_simp
      exact hK _ _ (Below.refl _ _) rfl
    · -- 14: Op.binOp BinOp.add 3 (Operand.tmp 13) (Operand.tmp 16) 3
      refine AnyO.Step.mk rfl [10, 13] (by kernel_rfl) ?_
      intro vs u hE hp ac hb K hK
      have s13 : ac.tmps[13]?.getD undef = .int .i64 (114 + (d : Int)) := by rw [hb]; exact (show _ = vs 10 by kernel_rfl).trans (hp 10 (by decide))
      have s16 : ac.tmps[16]?.getD undef = .int .i64 (x.text.size : Int) := by rw [hb]; exact (show _ = vs 13 by kernel_rfl).trans (hp 13 (by decide))
      rw [if_pos (AnyO.wanted_none rfl)]
      clear hb hp
      have x1 : IntKind.i64.wrap (114 + (d : Int) + (x.text.size : Int)) = 114 + (d : Int) + (x.text.size : Int) := IntWalk.i64_in _ (by have := HZ.out.2; have := HS.out; omega)
      go_simp
      exact hK _ _ (Below.refl _ _) rfl
    · -- 15: Op.binOp BinOp.add 3 (Operand.tmp 17) (Operand.const (Value.
      refine AnyO.Step.mk rfl [14] (by kernel_rfl) ?_
      intro vs u hE hp ac hb K hK
      have s17 : ac.tmps[17]?.getD undef = .int .i64 (114 + (d : Int) + (x.text.size : Int)) := by rw [hb]; exact (show _ = vs 14 by kernel_rfl).trans (hp 14 (by decide))
      rw [if_pos (AnyO.wanted_none rfl)]
      clear hb hp
      have x1 : IntKind.i64.wrap (114 + (d : Int) + (x.text.size : Int) + 1) = (itN x : Int) := (IntWalk.i64_in _ (by have := HZ.out.2; have := HS.out; omega)).trans HN.out
      go_simp
      exact hK _ _ (Below.refl _ _) rfl
    · -- 16: Op.assign (Operand.tmp 18)
      refine AnyO.Step.mk rfl [15, 3, 0, 1, 2, 3, 4, 5, 6, 7, 8, 9, 10, 11, 12, 13, 14, 15] (by kernel_rfl) ?_
      intro vs u hE hp ac hb K hK
      have s18 : ac.tmps[18]?.getD undef = .int .i64 (itN x : Int) := by rw [hb]; exact (show _ = vs 15 by kernel_rfl).trans (hp 15 (by decide))
      rw [if_pos (AnyO.wanted_none rfl)]
      clear hb hp
      go_simp
      exact hK _ _ (Below.refl _ _) rfl
  · intro vs u hE hp
    have e0 : vs 0 = .pointer (some ⟨b, 32, none⟩) := hp 0 (by decide)
    have e1 : vs 1 = .string x.text := hp 1 (by decide)
    have e2 : vs 2 = .int .i64 (x.text.size : Int) := hp 2 (by decide)
    have e3 : vs 3 = .string D := hp 3 (by decide)
    have e4 : vs 4 = .int .i64 (d : Int) := hp 4 (by decide)
    have e5 : vs 5 = .int .i64 (8 + (d : Int)) := hp 5 (by decide)
    have e6 : vs 6 = .int .i64 (9 + (d : Int)) := hp 6 (by decide)
    have e7 : vs 7 = .int .i64 (41 + (d : Int)) := hp 7 (by decide)
    have e8 : vs 8 = .int .i64 (42 + (d : Int)) := hp 8 (by decide)
    have e9 : vs 9 = .int .i64 (113 + (d : Int)) := hp 9 (by decide)
    have e10 : vs 10 = .int .i64 (114 + (d : Int)) := hp 10 (by decide)
    have e11 : vs 11 = .pointer (some ⟨b, 32, none⟩) := hp 11 (by decide)
    have e12 : vs 12 = .string x.text := hp 12 (by decide)
    have e13 : vs 13 = .int .i64 (x.text.size : Int) := hp 13 (by decide)
    have e14 : vs 14 = .int .i64 (114 + (d : Int) + (x.text.size : Int)) := hp 14 (by decide)
    have e15 : vs 15 = .int .i64 (itN x : Int) := hp 15 (by decide)
    have e16 : vs 16 = .int .i64 (itN x : Int) := hp 16 (by decide)
    clear hp
    have HE := Lib.hid hE; clear hE
    rw [puts_range [some 3, some 4, some 5, some 6, some 7, some 8, some 9, some 10, some 11, some 12, some 13, some 14, some 15, some 16, some 17, some 18, some 2] (by kernel_rfl)]
    simp only [putL, Nat.reduceAdd, e0, e1, e2, e3, e4, e5, e6, e7, e8, e9, e10, e11, e12, e13, e14, e15, e16]
    clear e0 e1 e2 e3 e4 e5 e6 e7 e8 e9 e10 e11 e12 e13 e14 e15 e16
    go_simp
    go_wp2
    go_ret
    exact ⟨rfl, HX.out.2.2.trans (HE.out.mono HX.out.2.2.size)⟩
def fstS (n : Nat) : ByteArray := ⟨(firstL n).toArray⟩
set_option maxHeartbeats 1600000 in
theorem first_l (n : Nat) (hn : n ≤ 9999999999) (w : World) (hL : Laid w) : Calls Tryd.prog 25 #[.int .i64 (n : Int)] w fun e w' => e = .returned (.string (fstS n)) ∧ Below w.heap.size w w' := by
  obtain ⟨D, hD⟩ : ∃ D : ByteArray, ⟨(Lib.itoa (n : Int)).toArray⟩ = D := ⟨_, rfl⟩
  obtain ⟨s4, h4⟩ : ∃ s : ByteArray, ⟨#[98, 97, 116, 99, 104, 32]⟩ ++ D = s := ⟨_, rfl⟩
  have z0 : D.size ≤ 10 := by rw [← hD]; exact itoa_size _ hn
  have z4 : s4.size ≤ 100 := by rw [← h4, ByteArray.size_append]; show 6 + D.size ≤ 100; omega
  have HR := Lib.hid (show s4 ++ ⟨#[10]⟩ = fstS n from by
    apply bl_inj
    rw [← h4, ← hD]
    simp only [bl_app]
    show ([98, 97, 116, 99, 104, 32] ++ Lib.itoa (n : Int)) ++ [10] = firstL n
    unfold firstL
    simp)
  have x1 : ¬ 9223372036854775807 < 6 + D.size := by omega
  have x2 : ¬ 9223372036854775807 < s4.size + 1 := by omega
  have HD := Lib.hid (And.intro hD (And.intro hL hn))
  clear hD hL hn z0 z4
  go_enter Tryd.func25, Tryd.ntmps25
  go_wp2_with (go_at_call 45; refine (digits28 _ (by omega) (by have := HD.out.2.2; omega) _ HD.out.2.1.tab).mono ?_; rintro e w2 ⟨rfl, hb2⟩; rw [HD.out.1]; have H2 := Lib.hid hb2; clear hb2)
  go_ret
  exact ⟨congrArg (fun s => Ending.returned (.string s)) HR.out, H2.out⟩
set_option maxHeartbeats 1600000 in
theorem size_l (n k : Nat) (hn : n ≤ 9999999999) (hk : k ≤ 4611686018427387904) (w : World) (hL : Laid w) : Calls Tryd.prog 43 #[.int .i64 (n : Int), .int .i64 (k : Int)] w fun e w' => e = .returned (.int .i64 (sizeN n k : Int)) ∧ Below w.heap.size w w' := by
  obtain ⟨f, hf⟩ : ∃ f, (fstS n).size = f := ⟨_, rfl⟩
  have hfl : f = (Lib.itoa (n : Int)).length + 7 := by rw [← hf, ← bl_length]; exact firstL_len n
  have h10 := itoa_len 10 n (by omega) (by omega)
  have x1 : IntKind.i64.wrap ((f : Int) + (k : Int)) = (f : Int) + (k : Int) := IntWalk.i64_in _ (by omega)
  have x2 : IntKind.i64.wrap ((f : Int) + (k : Int) + 4) = (f : Int) + (k : Int) + 4 := IntWalk.i64_in _ (by omega)
  have HN := Lib.hid (show (f : Int) + (k : Int) + 4 = (sizeN n k : Int) from by unfold sizeN; omega)
  have HD := Lib.hid (And.intro hn hL)
  clear hn hk hfl h10 hL
  go_enter Tryd.func43, Tryd.ntmps43
  go_wp2_with (go_at_call 25; refine (first_l n HD.out.1 _ HD.out.2).mono ?_; rintro e w2 ⟨rfl, hb2⟩; have H2 := Lib.hid hb2; clear hb2)
  go_ret
  exact ⟨ret_int HN.out, H2.out⟩
end Go.Proofs.YtecalodcbkljoaaDoor
