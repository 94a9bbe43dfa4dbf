/- The digest, the line and the size of an item. -/
import Derived.Test.YtecalodcbkljoaaDoorMLai
import Derived.Test.YtecalodcbkljoaaDoorMHam
namespace Go.Proofs.YtecalodcbkljoaaDoor
open Go.RowKit
set_option maxRecDepth 100000 in
set_option maxHeartbeats 3200000 in
theorem digest_i (x : It) (w : World) (hL : Laid w) (hx : x.text.size ≤ 1073741824) : Calls Tryd.prog 36 #[vX x] w fun e w' => e = .returned (.string (digS x)) ∧ Below w.heap.size w w' := by
  obtain ⟨b, hb⟩ : ∃ b, w.heap.size = b := ⟨_, rfl⟩
  obtain ⟨W0, hW0⟩ : ∃ W0, w.alloc (.cells (aX x) 39) = W0 := ⟨_, rfl⟩
  have HX := Lib.hid (show Row W0 b (cX x) 39 ∧ Laid W0 ∧ Below w.heap.size w W0 from by
    subst hW0 hb
    exact ⟨Row.new w (cX x) _, hL.keep (below_alloc _ _), below_alloc _ _⟩)
  obtain ⟨T, hT⟩ : ∃ T, idS x.id = T := ⟨_, rfl⟩
  have HT := Lib.hid (show T = ⟨(textL x.id).toArray⟩ ∧ T.size = 71 ∧ (T ++ ⟨#[10]⟩ : ByteArray).size = 72 ∧ bl (T ++ ⟨#[10]⟩ ++ x.text) = msgL x from by
    subst hT
    refine ⟨rfl, idS_size _, ?_, ?_⟩
    · rw [ByteArray.size_append, idS_size]; rfl
    · rw [bl_app, bl_app, List.append_assoc]; rfl)
  have HL := Lib.hid (show (msgL x).length = T.size + 1 + x.text.size from by
    rw [← HT.out.2.2.2, bl_length, ByteArray.size_append, ByteArray.size_append]; rfl)
  have HS := Lib.hid hx
  have HB := Lib.hid hb
  clear hT hL hx
  go_enter Tryd.func36, Tryd.ntmps36
  go_wp2
  clear hb hW0
  refine AnyO.wp_any_tail 10 (by kernel_rfl) (by kernel_rfl) (by kernel_rfl) (by kernel_rfl) (by kernel_rfl) (by kernel_rfl) (pstP [isV (.pointer (some ⟨b, 0, none⟩)), isV (vI x.id), isV (.string T), isV (.string (T ++ ⟨#[10]⟩)), isV (.pointer (some ⟨b, 32, none⟩)), isV (.string x.text), isV (.string (T ++ ⟨#[10]⟩ ++ x.text)), isSlB (msgL x), isV (vH (halfI (msgL x))), isPH W0.heap.size]) (MonoL.cons (Mono.v _) (MonoL.cons (Mono.v _) (MonoL.cons (Mono.v _) (MonoL.cons (Mono.v _) (MonoL.cons (Mono.v _) (MonoL.cons (Mono.v _) (MonoL.cons (Mono.v _) (MonoL.cons (Mono.slB _) (MonoL.cons (Mono.v _) (MonoL.cons (Mono.pH _) MonoL.nil)))))))))) ?_ ?_
  · intro i hi
    have hi2 : i = 0 ∨ i = 1 ∨ i = 2 ∨ i = 3 ∨ i = 4 ∨ i = 5 ∨ i = 6 ∨ i = 7 ∨ i = 8 ∨ i = 9 := by omega
    clear hi
    rcases hi2 with rfl | rfl | rfl | rfl | rfl | rfl | rfl | rfl | rfl | rfl
    · -- 0: Op.fieldAddr 64 (Operand.tmp 1) 0
      refine AnyO.Step.mk rfl [] (by kernel_rfl) ?_
      intro vs u hE hp ac hb K hK
      have s1 : ac.tmps[1]?.getD undef = .pointer (some ⟨b, 0, none⟩) := by rw [hb]; kernel_rfl
      rw [if_pos (AnyO.wanted_none rfl)]
      clear hb hp
      go_simp
      exact hK _ _ (Below.refl _ _) rfl
    · -- 1: Op.load 37 (Operand.tmp 4)
      refine AnyO.Step.mk rfl [0] (by kernel_rfl) ?_
      intro vs u hE hp ac hb K hK
      have s4 : ac.tmps[4]?.getD undef = .pointer (some ⟨b, 0, none⟩) := by rw [hb]; exact (show _ = vs 0 by kernel_rfl).trans (hp 0 (by decide))
      rw [if_pos (AnyO.wanted_none rfl)]
      clear hb hp
      obtain ⟨-, ⟨x1, x2⟩, -⟩ := rowX (HX.out.1.keep (Below.step (below_drew _) hE))
      go_simp
      exact hK _ _ (Below.refl _ _) rfl
    · -- 2: Op.call { callee := Callee.value (Operand.func 62), args := 
      refine AnyO.Step.mk rfl [1] (by kernel_rfl) ?_
      intro vs u hE hp ac hb K hK
      have s5 : ac.tmps[5]?.getD undef = vI x.id := by rw [hb]; exact (show _ = vs 1 by kernel_rfl).trans (hp 1 (by decide))
      rw [if_pos (AnyO.wanted_none rfl)]
      clear hb hp
      go_simp
      go_at_call 46
      refine (print_m x.id u).mono ?_
      rintro e w2 ⟨rfl, hb2⟩
      exact hK _ _ hb2 (congrArg Value.string HT.out.1.symm)
    · -- 3: Op.binOp BinOp.add 9 (Operand.tmp 6) (Operand.const (Value.s
      refine AnyO.Step.mk rfl [2] (by kernel_rfl) ?_
      intro vs u hE hp ac hb K hK
      have s6 : ac.tmps[6]?.getD undef = .string T := by rw [hb]; exact (show _ = vs 2 by kernel_rfl).trans (hp 2 (by decide))
      rw [if_pos (AnyO.wanted_none rfl)]
      clear hb hp
      have x1 := HT.out.2.1
      go_simp
      exact hK _ _ (Below.refl _ _) rfl
    · -- 4: Op.fieldAddr 64 (Operand.tmp 1) 1
      refine AnyO.Step.mk rfl [] (by kernel_rfl) ?_
      intro vs u hE hp ac hb K hK
      have s1 : ac.tmps[1]?.getD undef = .pointer (some ⟨b, 0, none⟩) := by rw [hb]; kernel_rfl
      rw [if_pos (AnyO.wanted_none rfl)]
      clear hb hp
      go_simp
      exact hK _ _ (Below.refl _ _) rfl
    · -- 5: Op.load 9 (Operand.tmp 8)
      refine AnyO.Step.mk rfl [4] (by kernel_rfl) ?_
      intro vs u hE hp ac hb K hK
      have s8 : ac.tmps[8]?.getD undef = .pointer (some ⟨b, 32, none⟩) := by rw [hb]; exact (show _ = vs 4 by kernel_rfl).trans (hp 4 (by decide))
      rw [if_pos (AnyO.wanted_none rfl)]
      clear hb hp
      obtain ⟨-, -, x1⟩ := rowX (HX.out.1.keep (Below.step (below_drew _) hE))
      go_simp
      exact hK _ _ (Below.refl _ _) rfl
    · -- 6: Op.binOp BinOp.add 9 (Operand.tmp 7) (Operand.tmp 9) 9
      refine AnyO.Step.mk rfl [3, 5] (by kernel_rfl) ?_
      intro vs u hE hp ac hb K hK
      have s7 : ac.tmps[7]?.getD undef = .string (T ++ ⟨#[10]⟩) := by rw [hb]; exact (show _ = vs 3 by kernel_rfl).trans (hp 3 (by decide))
      have s9 : ac.tmps[9]?.getD undef = .string x.text := by rw [hb]; exact (show _ = vs 5 by kernel_rfl).trans (hp 5 (by decide))
      rw [if_pos (AnyO.wanted_none rfl)]
      clear hb hp
      have x1 := HT.out.2.2.1
      have x2 := HS.out
      have x3 : ¬ 9223372036854775807 < 72 + x.text.size := by omega
      go_simp
      exact hK _ _ (Below.refl _ _) rfl
    · -- 7: Op.convert 9 47 (Operand.tmp 10)
      refine AnyO.Step.mk rfl [6] (by kernel_rfl) ?_
      intro vs u hE hp ac hb K hK
      have s10 : ac.tmps[10]?.getD undef = .string (T ++ ⟨#[10]⟩ ++ x.text) := by rw [hb]; exact (show _ = vs 6 by kernel_rfl).trans (hp 6 (by decide))
      rw [if_pos (AnyO.wanted_none rfl)]
      clear hb hp
      obtain ⟨A7, c7, w7, hcv, hb7, hs7, hc7⟩ := conv_sl u (T ++ ⟨#[10]⟩ ++ x.text)
      rw [HT.out.2.2.2] at hs7
      go_simp
      have hc8 := hc7
      rw [ByteArray.size_append, ByteArray.size_append] at hc8
      exact hK _ _ hb7 ⟨_, _, _, rfl, HL.out, hc8, hs7⟩
    · -- 8: Op.call { callee := Callee.value (Operand.func 76), args := 
      refine AnyO.Step.mk rfl [7, 2] (by kernel_rfl) ?_
      intro vs u hE hp ac hb K hK
      obtain ⟨A11, n11, c11, e11, h11⟩ := hp 7 (by decide)
      have s11 : ac.tmps[11]?.getD undef = .slice A11 n11 c11 := by rw [hb]; exact (show _ = vs 7 by kernel_rfl).trans e11
      clear e11
      rw [if_pos (AnyO.wanted_none rfl)]
      clear hb hp
      go_simp
      go_at_call 54
      have hn := h11.1
      subst hn
      refine (half_b _ _ _ u (HX.out.2.1.k.keep (Below.step (below_drew _) hE)) h11.2.2 h11.2.1 (by have h1 := HS.out; have h2 := HT.out.2.2.1; have h3 := congrArg List.length HT.out.2.2.2; rw [bl_length, ByteArray.size_append] at h3; omega)).mono ?_
      rintro e w2 ⟨rfl, hb2⟩
      exact hK _ _ hb2 rfl
    · -- 9: Op.alloc 131
      refine AnyO.Step.mk rfl [] (by kernel_rfl) ?_
      intro vs u hE hp ac hb K hK
      rw [if_pos (AnyO.wanted_none rfl)]
      clear hb hp
      go_simp
      exact hK _ _ (below_alloc _ _) ⟨_, rfl, hE.size, Row.new u (cH zH) _⟩
  · intro vs u hE hp
    have e0 : vs 0 = .pointer (some ⟨b, 0, none⟩) := hp 0 (by decide)
    have e1 : vs 1 = vI x.id := hp 1 (by decide)
    have e2 : vs 2 = .string T := hp 2 (by decide)
    have e3 : vs 3 = .string (T ++ ⟨#[10]⟩) := hp 3 (by decide)
    have e4 : vs 4 = .pointer (some ⟨b, 32, none⟩) := hp 4 (by decide)
    have e5 : vs 5 = .string x.text := hp 5 (by decide)
    have e6 : vs 6 = .string (T ++ ⟨#[10]⟩ ++ x.text) := hp 6 (by decide)
    obtain ⟨A_7, n_7, c_7, e7, h_7⟩ := show isSlB (msgL x) (vs 7) u from hp 7 (by decide)
    have e8 : vs 8 = vH (halfI (msgL x)) := hp 8 (by decide)
    obtain ⟨g_9, e9, h_9⟩ := show isPH W0.heap.size (vs 9) u from hp 9 (by decide)
    clear hp
    have HE := Lib.hid hE; clear hE
    have HG9 := Lib.hid h_9; clear h_9
    obtain ⟨-, -, ro⟩ := rowH HG9.out.2
    rw [puts_range [some 4, some 5, some 6, some 7, some 8, some 9, some 10, some 11, some 12, some 3] (by kernel_rfl)]
    simp only [putL, Nat.reduceAdd, List.drop_succ_cons, List.drop_zero, e0, e1, e2, e3, e4, e5, e6, e7, e8, e9]
    clear e0 e1 e2 e3 e4 e5 e6 e7 e8 e9
    go_simp
    have HB2 := Lib.hid (Below.setRow HE.out HG9.out.1 (aH (halfI (msgL x))))
    have HR2 := Lib.hid (show Row (u.setRow g_9 (aH (halfI (msgL x)))) g_9 (cH (halfI (msgL x))) 100 from HG9.out.2.setRow)
    have HS2 := Lib.hid (show Sl (u.setRow g_9 (aH (halfI (msgL x)))) c1 (some ⟨g_9, 0, none⟩) (halfI (msgL x)).1 from Sl.ofAt (HR2.out.at_ (k := 0) (n := 16) (by rw [List.drop_zero, List.take_of_length_le (by rw [cH_length]; omega)]; rfl)))
    have hsl := slice_hf g_9
    go_wp2_with (go_at_call 55; refine (hex_b (some ⟨g_9, 0, none⟩) 16 16 (halfI (msgL x)).1 _ (halfI (msgL x)).2 HS2.out (half_ne _) (by omega)).mono ?_; rintro e w3 ⟨rfl, hb3⟩; have H3 := Lib.hid (Below.step (HX.out.2.2.trans (HB2.out.mono HX.out.2.2.size)) hb3); clear hb3)
    go_ret
    exact ⟨rfl, H3.out⟩
end Go.Proofs.YtecalodcbkljoaaDoor
