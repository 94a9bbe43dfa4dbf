/- The digest, the line and the size of an item. The line of an item. The size of an item. -/
import Derived.Test.YtecalodcbkljoaaGreatDoorMLai
import Derived.Test.YtecalodcbkljoaaGreatDoorMHam
namespace Go.Proofs.YtecalodcbkljoaaGreatDoor
open Go.RowKit
set_option maxRecDepth 100000 in
set_option maxHeartbeats 3200000 in
theorem digest_i (x : It) (w : World) (hL : Laid w) (hx : x.text.size ≤ 1073741824) : Calls Tryz.prog 57 #[vX x] w fun e w' => e = .returned (.string (digS x)) ∧ Below w.heap.size w w' := by
  obtain ⟨b, hb⟩ : ∃ b, w.heap.size = b := ⟨_, rfl⟩
  obtain ⟨W0, hW0⟩ : ∃ W0, w.alloc (.cells (aX x) 64) = W0 := ⟨_, rfl⟩
  have HX := Lib.hid (show Row W0 b (cX x) 64 ∧ Laid W0 ∧ Below w.heap.size w W0 from by
    subst hW0 hb
    exact ⟨Row.new w (cX x) _, hL.keep (below_alloc _ _), below_alloc _ _⟩)
  obtain ⟨T, hT⟩ : ∃ T, idS x.id = T := ⟨_, rfl⟩
  have HT := Lib.hid (show T = ⟨(textL x.id).toArray⟩ ∧ T.size = 71 ∧ (T ++ ⟨#[10]⟩ : ByteArray).size = 72 ∧ bl (T ++ ⟨#[10]⟩ ++ x.text) = msgL x from by
    subst hT
    refine ⟨rfl, idS_size _, ?_, ?_⟩
    · rw [ByteArray.size_append, idS_size]; rfl
    · rw [bl_app, bl_app, List.append_assoc]; rfl)
  have HL := Lib.hid (show (msgL x).length = T.size + 1 + x.text.size from by
    rw [← HT.out.2.2.2, bl_length, ByteArray.size_append, ByteArray.size_append]; rfl)
  have HS := Lib.hid hx
  have HB := Lib.hid hb
  clear hT hL hx
  go_enter Tryz.func57, Tryz.ntmps57
  go_wp2
  clear hb hW0
  refine AnyO.wp_any_tail 10 (by kernel_rfl) (by kernel_rfl) (by kernel_rfl) (by kernel_rfl) (by kernel_rfl) (by kernel_rfl) (pstP [isV (.pointer (some ⟨b, 0, none⟩)), isV (vI x.id), isV (.string T), isV (.string (T ++ ⟨#[10]⟩)), isV (.pointer (some ⟨b, 32, none⟩)), isV (.string x.text), isV (.string (T ++ ⟨#[10]⟩ ++ x.text)), isSlB (msgL x), isV (vH (halfI (msgL x))), isPH W0.heap.size]) (MonoL.cons (Mono.v _) (MonoL.cons (Mono.v _) (MonoL.cons (Mono.v _) (MonoL.cons (Mono.v _) (MonoL.cons (Mono.v _) (MonoL.cons (Mono.v _) (MonoL.cons (Mono.v _) (MonoL.cons (Mono.slB _) (MonoL.cons (Mono.v _) (MonoL.cons (Mono.pH _) MonoL.nil)))))))))) ?_ ?_
  · intro i hi
    have hi2 : i = 0 ∨ i = 1 ∨ i = 2 ∨ i = 3 ∨ i = 4 ∨ i = 5 ∨ i = 6 ∨ i = 7 ∨ i = 8 ∨ i = 9 := by omega
    clear hi
    rcases hi2 with rfl | rfl | rfl | rfl | rfl | rfl | rfl | rfl | rfl | rfl
    · -- 0: Op.fieldAddr 64 (Operand.tmp 1) 0
      refine AnyO.Step.mk rfl [] (by kernel_rfl) ?_
      intro vs u hE hp ac hb K hK
      have s1 : ac.tmps[1]?.getD undef = .pointer (some ⟨b, 0, none⟩) := by rw [hb]; kernel_rfl
      rw [if_pos (AnyO.wanted_none rfl)]
      clear hb hp
      go_simp
      exact hK _ _ (Below.refl _ _) rfl
    · -- 1: Op.load 37 (Operand.tmp 4)
      refine AnyO.Step.mk rfl [0] (by kernel_rfl) ?_
      intro vs u hE hp ac hb K hK
      have s4 : ac.tmps[4]?.getD undef = .pointer (some ⟨b, 0, none⟩) := by rw [hb]; exact (show _ = vs 0 by kernel_rfl).trans (hp 0 (by decide))
      rw [if_pos (AnyO.wanted_none rfl)]
      clear hb hp
      obtain ⟨-, ⟨x1, x2⟩, -⟩ := rowX (HX.out.1.keep (Below.step (below_drew _) hE))
      go_simp
      exact hK _ _ (Below.refl _ _) rfl
    · -- 2: Op.call { callee := Callee.value (Operand.func 62), args := 
      refine AnyO.Step.mk rfl [1] (by kernel_rfl) ?_
      intro vs u hE hp ac hb K hK
      have s5 : ac.tmps[5]?.getD undef = vI x.id := by rw [hb]; exact (show _ = vs 1 by kernel_rfl).trans (hp 1 (by decide))
      rw [if_pos (AnyO.wanted_none rfl)]
      clear hb hp
      go_simp
      go_at_call 62
      refine (print_m x.id u).mono ?_
      rintro e w2 ⟨rfl, hb2⟩
      exact hK _ _ hb2 (congrArg Value.string HT.out.1.symm)
    · -- 3: Op.binOp BinOp.add 9 (Operand.tmp 6) (Operand.const (Value.s
      refine AnyO.Step.mk rfl [2] (by kernel_rfl) ?_
      intro vs u hE hp ac hb K hK
      have s6 : ac.tmps[6]?.getD undef = .string T := by rw [hb]; exact (show _ = vs 2 by kernel_rfl).trans (hp 2 (by decide))
      rw [if_pos (AnyO.wanted_none rfl)]
      clear hb hp
      have x1 := HT.out.2.1
      go_simp
      exact hK _ _ (Below.refl _ _) rfl
    · -- 4: Op.fieldAddr 64 (Operand.tmp 1) 1
      refine AnyO.Step.mk rfl [] (by kernel_rfl) ?_
      intro vs u hE hp ac hb K hK
      have s1 : ac.tmps[1]?.getD undef = .pointer (some ⟨b, 0, none⟩) := by rw [hb]; kernel_rfl
      rw [if_pos (AnyO.wanted_none rfl)]
      clear hb hp
      go_simp
      exact hK _ _ (Below.refl _ _) rfl
    · -- 5: Op.load 9 (Operand.tmp 8)
      refine AnyO.Step.mk rfl [4] (by kernel_rfl) ?_
      intro vs u hE hp ac hb K hK
      have s8 : ac.tmps[8]?.getD undef = .pointer (some ⟨b, 32, none⟩) := by rw [hb]; exact (show _ = vs 4 by kernel_rfl).trans (hp 4 (by decide))
      rw [if_pos (AnyO.wanted_none rfl)]
      clear hb hp
      obtain ⟨-, -, x1⟩ := rowX (HX.out.1.keep (Below.step (below_drew _) hE))
      go_simp
      exact hK _ _ (Below.refl _ _) rfl
    · -- 6: Op.binOp BinOp.add 9 (Operand.tmp 7) (Operand.tmp 9) 9
      refine AnyO.Step.mk rfl [3, 5] (by kernel_rfl) ?_
      intro vs u hE hp ac hb K hK
      have s7 : ac.tmps[7]?.getD undef = .string (T ++ ⟨#[10]⟩) := by rw [hb]; exact (show _ = vs 3 by kernel_rfl).trans (hp 3 (by decide))
      have s9 : ac.tmps[9]?.getD undef = .string x.text := by rw [hb]; exact (show _ = vs 5 by kernel_rfl).trans (hp 5 (by decide))
      rw [if_pos (AnyO.wanted_none rfl)]
      clear hb hp
      have x1 := HT.out.2.2.1
      have x2 := HS.out
      have x3 : ¬ 9223372036854775807 < 72 + x.text.size := by omega
      go_simp
      exact hK _ _ (Below.refl _ _) rfl
    · -- 7: Op.convert 9 47 (Operand.tmp 10)
      refine AnyO.Step.mk rfl [6] (by kernel_rfl) ?_
      intro vs u hE hp ac hb K hK
      have s10 : ac.tmps[10]?.getD undef = .string (T ++ ⟨#[10]⟩ ++ x.text) := by rw [hb]; exact (show _ = vs 6 by kernel_rfl).trans (hp 6 (by decide))
      rw [if_pos (AnyO.wanted_none rfl)]
      clear hb hp
      obtain ⟨A7, c7, w7, hcv, hb7, hs7, hc7⟩ := conv_sl u (T ++ ⟨#[10]⟩ ++ x.text)
      rw [HT.out.2.2.2] at hs7
      go_simp
      have hc8 := hc7
      rw [ByteArray.size_append, ByteArray.size_append] at hc8
      exact hK _ _ hb7 ⟨_, _, _, rfl, HL.out, hc8, hs7⟩
    · -- 8: Op.call { callee := Callee.value (Operand.func 76), args := 
      refine AnyO.Step.mk rfl [7, 2] (by kernel_rfl) ?_
      intro vs u hE hp ac hb K hK
      obtain ⟨A11, n11, c11, e11, h11⟩ := hp 7 (by decide)
      have s11 : ac.tmps[11]?.getD undef = .slice A11 n11 c11 := by rw [hb]; exact (show _ = vs 7 by kernel_rfl).trans e11
      clear e11
      rw [if_pos (AnyO.wanted_none rfl)]
      clear hb hp
      go_simp
      go_at_call 76
      have hn := h11.1
      subst hn
      refine (half_b _ _ _ u (HX.out.2.1.k.keep (Below.step (below_drew _) hE)) h11.2.2 h11.2.1 (by have h1 := HS.out; have h2 := HT.out.2.2.1; have h3 := congrArg List.length HT.out.2.2.2; rw [bl_length, ByteArray.size_append] at h3; omega)).mono ?_
      rintro e w2 ⟨rfl, hb2⟩
      exact hK _ _ hb2 rfl
    · -- 9: Op.alloc 131
      refine AnyO.Step.mk rfl [] (by kernel_rfl) ?_
      intro vs u hE hp ac hb K hK
      rw [if_pos (AnyO.wanted_none rfl)]
      clear hb hp
      go_simp
      exact hK _ _ (below_alloc _ _) ⟨_, rfl, hE.size, Row.new u (cH zH) _⟩
  · intro vs u hE hp
    have e0 : vs 0 = .pointer (some ⟨b, 0, none⟩) := hp 0 (by decide)
    have e1 : vs 1 = vI x.id := hp 1 (by decide)
    have e2 : vs 2 = .string T := hp 2 (by decide)
    have e3 : vs 3 = .string (T ++ ⟨#[10]⟩) := hp 3 (by decide)
    have e4 : vs 4 = .pointer (some ⟨b, 32, none⟩) := hp 4 (by decide)
    have e5 : vs 5 = .string x.text := hp 5 (by decide)
    have e6 : vs 6 = .string (T ++ ⟨#[10]⟩ ++ x.text) := hp 6 (by decide)
    obtain ⟨A_7, n_7, c_7, e7, h_7⟩ := show isSlB (msgL x) (vs 7) u from hp 7 (by decide)
    have e8 : vs 8 = vH (halfI (msgL x)) := hp 8 (by decide)
    obtain ⟨g_9, e9, h_9⟩ := show isPH W0.heap.size (vs 9) u from hp 9 (by decide)
    clear hp
    have HE := Lib.hid hE; clear hE
    have HG9 := Lib.hid h_9; clear h_9
    obtain ⟨-, -, ro⟩ := rowH HG9.out.2
    rw [puts_range [some 4, some 5, some 6, some 7, some 8, some 9, some 10, some 11, some 12, some 3] (by kernel_rfl)]
    simp only [putL, Nat.reduceAdd, List.drop_succ_cons, List.drop_zero, e0, e1, e2, e3, e4, e5, e6, e7, e8, e9]
    clear e0 e1 e2 e3 e4 e5 e6 e7 e8 e9
    go_simp
    have HB2 := Lib.hid (Below.setRow HE.out HG9.out.1 (aH (halfI (msgL x))))
    have HR2 := Lib.hid (show Row (u.setRow g_9 (aH (halfI (msgL x)))) g_9 (cH (halfI (msgL x))) 131 from HG9.out.2.setRow)
    have HS2 := Lib.hid (show Sl (u.setRow g_9 (aH (halfI (msgL x)))) c1 (some ⟨g_9, 0, none⟩) (halfI (msgL x)).1 from Sl.ofAt (HR2.out.at_ (k := 0) (n := 16) (by rw [List.drop_zero, List.take_of_length_le (by rw [cH_length]; omega)]; rfl)))
    have hsl := slice_hf g_9
    go_wp2_with (go_at_call 77; refine (hex_b (some ⟨g_9, 0, none⟩) 16 16 (halfI (msgL x)).1 _ (halfI (msgL x)).2 HS2.out (half_ne _) (by omega)).mono ?_; rintro e w3 ⟨rfl, hb3⟩; have H3 := Lib.hid (Below.step (HX.out.2.2.trans (HB2.out.mono HX.out.2.2.size)) hb3); clear hb3)
    go_ret
    exact ⟨rfl, H3.out⟩
end Go.Proofs.YtecalodcbkljoaaGreatDoor
namespace Go.Proofs.YtecalodcbkljoaaGreatDoor
open Go.RowKit
theorem itoa_size (n : Nat) (h : n ≤ 9999999999) : (⟨(Lib.itoa (n : Int)).toArray⟩ : ByteArray).size ≤ 10 := by
  rw [← bl_length]
  exact itoa_len 10 n (by omega) (by omega)
/-- The line of an item, as a string. -/
def linS (x : It) : ByteArray := ⟨(headL x ++ [10]).toArray⟩
set_option maxRecDepth 100000 in
set_option maxHeartbeats 3200000 in
theorem line_i (x : It) (w : World) (hL : Laid w) (hx : x.text.size ≤ 1073741824) : Calls Tryz.prog 41 #[vX x] w fun e w' => e = .returned (.string (linS x)) ∧ Below w.heap.size w w' := by
  obtain ⟨b, hb⟩ : ∃ b, w.heap.size = b := ⟨_, rfl⟩
  obtain ⟨W0, hW0⟩ : ∃ W0, w.alloc (.cells (aX x) 64) = W0 := ⟨_, rfl⟩
  have HX := Lib.hid (show Row W0 b (cX x) 64 ∧ Laid W0 ∧ Below w.heap.size w W0 from by
    subst hW0 hb
    exact ⟨Row.new w (cX x) _, hL.keep (below_alloc _ _), below_alloc _ _⟩)
  obtain ⟨D, hD⟩ : ∃ D : ByteArray, ⟨(Lib.itoa (x.text.size : Int)).toArray⟩ = D := ⟨_, rfl⟩
  obtain ⟨T, hT⟩ : ∃ T, idS x.id = T := ⟨_, rfl⟩
  obtain ⟨G, hG⟩ : ∃ G, digS x = G := ⟨_, rfl⟩
  obtain ⟨s4, h4⟩ : ∃ s : ByteArray, ⟨#[97, 114, 116, 105, 99, 108, 101, 32]⟩ ++ D = s := ⟨_, rfl⟩
  obtain ⟨s5, h5⟩ : ∃ s : ByteArray, s4 ++ ⟨#[32]⟩ = s := ⟨_, rfl⟩
  obtain ⟨s8, h8⟩ : ∃ s : ByteArray, s5 ++ G = s := ⟨_, rfl⟩
  obtain ⟨s9, h9⟩ : ∃ s : ByteArray, s8 ++ ⟨#[32]⟩ = s := ⟨_, rfl⟩
  obtain ⟨s13, h13⟩ : ∃ s : ByteArray, s9 ++ T = s := ⟨_, rfl⟩
  obtain ⟨s14, h14⟩ : ∃ s : ByteArray, s13 ++ ⟨#[10]⟩ = s := ⟨_, rfl⟩
  have z0 : D.size ≤ 10 := by rw [← hD]; exact itoa_size _ (by omega)
  have z1 : T.size = 71 := by rw [← hT]; exact idS_size _
  have z2 : G.size = 32 := by rw [← hG]; exact digS_size _
  have z4 : s4.size ≤ 100 := by rw [← h4, ByteArray.size_append]; show 8 + D.size ≤ 100; omega
  have z5 : s5.size ≤ 200 := by rw [← h5, ByteArray.size_append]; show s4.size + 1 ≤ 200; omega
  have z8 : s8.size ≤ 300 := by rw [← h8, ByteArray.size_append]; omega
  have z9 : s9.size ≤ 400 := by rw [← h9, ByteArray.size_append]; show s8.size + 1 ≤ 400; omega
  have z13 : s13.size ≤ 500 := by rw [← h13, ByteArray.size_append]; omega
  have HR := Lib.hid (show s14 = linS x from by
    apply bl_inj
    rw [← h14, ← h13, ← h9, ← h8, ← h5, ← h4, ← hG, ← hT, ← hD]
    simp only [bl_app]
    show ((((([97, 114, 116, 105, 99, 108, 101, 32] ++ Lib.itoa (x.text.size : Int)) ++ [32]) ++ digT x) ++ [32]) ++ textL x.id) ++ [10] = headL x ++ [10]
    unfold headL artL
    simp)
  have HQ := Lib.hid (And.intro h4 (And.intro h5 (And.intro h8 (And.intro h9 (And.intro h13 h14)))))
  have HZ := Lib.hid (And.intro z0 (And.intro z4 (And.intro z5 (And.intro z2 (And.intro z8 (And.intro z9 (And.intro z1 z13)))))))
  have HS := Lib.hid hx
  have HB := Lib.hid hb
  have HD := Lib.hid hD
  have HT := Lib.hid hT
  have HG := Lib.hid hG
  clear hT hL hx hD hG h4 h5 h8 h9 h13 h14 z0 z1 z2 z4 z5 z8 z9 z13
  go_enter Tryz.func41, Tryz.ntmps41
  go_wp2
  clear hb hW0
  refine AnyO.wp_any (by kernel_rfl) (by kernel_rfl) (pstP [isV (.pointer (some ⟨b, 32, none⟩)), isV (.string x.text), isV (.int .i64 (x.text.size : Int)), isV (.string D), isV (.string s4), isV (.string s5), isV (vX x), isV (.string G), isV (.string s8), isV (.string s9), isV (.pointer (some ⟨b, 0, none⟩)), isV (vI x.id), isV (.string T), isV (.string s13), isV (.string s14), isV (.string s14)]) (MonoL.cons (Mono.v _) (MonoL.cons (Mono.v _) (MonoL.cons (Mono.v _) (MonoL.cons (Mono.v _) (MonoL.cons (Mono.v _) (MonoL.cons (Mono.v _) (MonoL.cons (Mono.v _) (MonoL.cons (Mono.v _) (MonoL.cons (Mono.v _) (MonoL.cons (Mono.v _) (MonoL.cons (Mono.v _) (MonoL.cons (Mono.v _) (MonoL.cons (Mono.v _) (MonoL.cons (Mono.v _) (MonoL.cons (Mono.v _) (MonoL.cons (Mono.v _) MonoL.nil)))))))))))))))) ?_ ?_
  · intro i hi
    have hi2 : i = 0 ∨ i = 1 ∨ i = 2 ∨ i = 3 ∨ i = 4 ∨ i = 5 ∨ i = 6 ∨ i = 7 ∨ i = 8 ∨ i = 9 ∨ i = 10 ∨ i = 11 ∨ i = 12 ∨ i = 13 ∨ i = 14 ∨ i = 15 := by simp only [List.size_toArray, List.length_cons, List.length_nil] at hi; omega
    clear hi
    rcases hi2 with rfl | rfl | rfl | rfl | rfl | rfl | rfl | rfl | rfl | rfl | rfl | rfl | rfl | rfl | rfl | rfl
    · -- 0: Op.fieldAddr 64 (Operand.tmp 1) 1
      refine AnyO.Step.mk rfl [] (by kernel_rfl) ?_
      intro vs u hE hp ac hb K hK
      have s1 : ac.tmps[1]?.getD undef = .pointer (some ⟨b, 0, none⟩) := by rw [hb]; kernel_rfl
      rw [if_pos (AnyO.wanted_none rfl)]
      clear hb hp
      go_simp
      exact hK _ _ (Below.refl _ _) rfl
    · -- 1: Op.load 9 (Operand.tmp 3)
      refine AnyO.Step.mk rfl [0] (by kernel_rfl) ?_
      intro vs u hE hp ac hb K hK
      have s3 : ac.tmps[3]?.getD undef = .pointer (some ⟨b, 32, none⟩) := by rw [hb]; exact (show _ = vs 0 by kernel_rfl).trans (hp 0 (by decide))
      rw [if_pos (AnyO.wanted_none rfl)]
      clear hb hp
      obtain ⟨-, -, x1⟩ := rowX (HX.out.1.keep (Below.step (below_drew _) hE))
      go_simp
      exact hK _ _ (Below.refl _ _) rfl
    · -- 2: Op.call { callee := Callee.builtin Builtin.len, args := #[Op
      refine AnyO.Step.mk rfl [1] (by kernel_rfl) ?_
      intro vs u hE hp ac hb K hK
      have s4 : ac.tmps[4]?.getD undef = .string x.text := by rw [hb]; exact (show _ = vs 1 by kernel_rfl).trans (hp 1 (by decide))
      rw [if_pos (AnyO.wanted_none rfl)]
      clear hb hp
      go_simp
      exact hK _ _ (Below.refl _ _) rfl
    · -- 3: Op.call { callee := Callee.value (Operand.func 61), args := 
      refine AnyO.Step.mk rfl [2] (by kernel_rfl) ?_
      intro vs u hE hp ac hb K hK
      have s5 : ac.tmps[5]?.getD undef = .int .i64 (x.text.size : Int) := by rw [hb]; exact (show _ = vs 2 by kernel_rfl).trans (hp 2 (by decide))
      rw [if_pos (AnyO.wanted_none rfl)]
      clear hb hp
      go_simp
      go_at_call 61
      refine (digits28 _ (by omega) (by have := HS.out; omega) u (tab_below HX.out.2.1.tab (Below.step (below_drew _) hE))).mono ?_
      rintro e w2 ⟨rfl, hb2⟩
      exact hK _ _ hb2 (congrArg Value.string HD.out)
    · -- 4: Op.binOp BinOp.add 9 (Operand.const (Value.string { data := 
      refine AnyO.Step.mk rfl [3] (by kernel_rfl) ?_
      intro vs u hE hp ac hb K hK
      have s6 : ac.tmps[6]?.getD undef = .string D := by rw [hb]; exact (show _ = vs 3 by kernel_rfl).trans (hp 3 (by decide))
      rw [if_pos (AnyO.wanted_none rfl)]
      clear hb hp
      have x1 := HQ.out.1
      have x2 : ¬ 9223372036854775807 < 8 + D.size := by have := HZ.out.1; omega
      go_simp
      exact hK _ _ (Below.refl _ _) rfl
    · -- 5: Op.binOp BinOp.add 9 (Operand.tmp 7) (Operand.const (Value.s
      refine AnyO.Step.mk rfl [4] (by kernel_rfl) ?_
      intro vs u hE hp ac hb K hK
      have s7 : ac.tmps[7]?.getD undef = .string s4 := by rw [hb]; exact (show _ = vs 4 by kernel_rfl).trans (hp 4 (by decide))
      rw [if_pos (AnyO.wanted_none rfl)]
      clear hb hp
      have x1 := HQ.out.2.1
      have x2 : ¬ 9223372036854775807 < s4.size + 1 := by have := HZ.out.2.1; omega
      go_simp
      exact hK _ _ (Below.refl _ _) rfl
    · -- 6: Op.load 64 (Operand.tmp 1)
      refine AnyO.Step.mk rfl [] (by kernel_rfl) ?_
      intro vs u hE hp ac hb K hK
      have s1 : ac.tmps[1]?.getD undef = .pointer (some ⟨b, 0, none⟩) := by rw [hb]; kernel_rfl
      rw [if_pos (AnyO.wanted_none rfl)]
      clear hb hp
      obtain ⟨⟨x1, x2, -⟩, -, -⟩ := rowX (HX.out.1.keep (Below.step (below_drew _) hE))
      go_simp
      exact hK _ _ (Below.refl _ _) rfl
    · -- 7: Op.call { callee := Callee.value (Operand.func 57), args := 
      refine AnyO.Step.mk rfl [6, 3] (by kernel_rfl) ?_
      intro vs u hE hp ac hb K hK
      have s9 : ac.tmps[9]?.getD undef = vX x := by rw [hb]; exact (show _ = vs 6 by kernel_rfl).trans (hp 6 (by decide))
      rw [if_pos (AnyO.wanted_none rfl)]
      clear hb hp
      go_simp
      go_at_call 57
      refine (digest_i x u (HX.out.2.1.keep (Below.step (below_drew _) hE)) HS.out).mono ?_
      rintro e w2 ⟨rfl, hb2⟩
      exact hK _ _ hb2 (congrArg Value.string HG.out)
    · -- 8: Op.binOp BinOp.add 9 (Operand.tmp 8) (Operand.tmp 10) 9
      refine AnyO.Step.mk rfl [5, 7] (by kernel_rfl) ?_
      intro vs u hE hp ac hb K hK
      have s8 : ac.tmps[8]?.getD undef = .string s5 := by rw [hb]; exact (show _ = vs 5 by kernel_rfl).trans (hp 5 (by decide))
      have s10 : ac.tmps[10]?.getD undef = .string G := by rw [hb]; exact (show _ = vs 7 by kernel_rfl).trans (hp 7 (by decide))
      rw [if_pos (AnyO.wanted_none rfl)]
      clear hb hp
      have x1 := HQ.out.2.2.1
      have x2 : ¬ 9223372036854775807 < s5.size + G.size := by have := HZ.out.2.2.1; have := HZ.out.2.2.2.1; omega
      go_simp
      exact hK _ _ (Below.refl _ _) rfl
    · -- 9: Op.binOp BinOp.add 9 (Operand.tmp 11) (Operand.const (Value.
      refine AnyO.Step.mk rfl [8] (by kernel_rfl) ?_
      intro vs u hE hp ac hb K hK
      have s11 : ac.tmps[11]?.getD undef = .string s8 := by rw [hb]; exact (show _ = vs 8 by kernel_rfl).trans (hp 8 (by decide))
      rw [if_pos (AnyO.wanted_none rfl)]
      clear hb hp
      have x1 := HQ.out.2.2.2.1
      have x2 : ¬ 9223372036854775807 < s8.size + 1 := by have := HZ.out.2.2.2.2.1; omega
      go_simp
      exact hK _ _ (Below.refl _ _) rfl
    · -- 10: Op.fieldAddr 64 (Operand.tmp 1) 0
      refine AnyO.Step.mk rfl [] (by kernel_rfl) ?_
      intro vs u hE hp ac hb K hK
      have s1 : ac.tmps[1]?.getD undef = .pointer (some ⟨b, 0, none⟩) := by rw [hb]; kernel_rfl
      rw [if_pos (AnyO.wanted_none rfl)]
      clear hb hp
      go_simp
      exact hK _ _ (Below.refl _ _) rfl
    · -- 11: Op.load 37 (Operand.tmp 13)
      refine AnyO.Step.mk rfl [10] (by kernel_rfl) ?_
      intro vs u hE hp ac hb K hK
      have s13 : ac.tmps[13]?.getD undef = .pointer (some ⟨b, 0, none⟩) := by rw [hb]; exact (show _ = vs 10 by kernel_rfl).trans (hp 10 (by decide))
      rw [if_pos (AnyO.wanted_none rfl)]
      clear hb hp
      obtain ⟨-, ⟨x1, x2⟩, -⟩ := rowX (HX.out.1.keep (Below.step (below_drew _) hE))
      go_simp
      exact hK _ _ (Below.refl _ _) rfl
    · -- 12: Op.call { callee := Callee.value (Operand.func 62), args := 
      refine AnyO.Step.mk rfl [11, 7] (by kernel_rfl) ?_
      intro vs u hE hp ac hb K hK
      have s14 : ac.tmps[14]?.getD undef = vI x.id := by rw [hb]; exact (show _ = vs 11 by kernel_rfl).trans (hp 11 (by decide))
      rw [if_pos (AnyO.wanted_none rfl)]
      clear hb hp
      go_simp
      go_at_call 62
      refine (print_m x.id u).mono ?_
      rintro e w2 ⟨rfl, hb2⟩
      exact hK _ _ hb2 (congrArg Value.string HT.out)
    · -- 13: Op.binOp BinOp.add 9 (Operand.tmp 12) (Operand.tmp 15) 9
      refine AnyO.Step.mk rfl [9, 12] (by kernel_rfl) ?_
      intro vs u hE hp ac hb K hK
      have s12 : ac.tmps[12]?.getD undef = .string s9 := by rw [hb]; exact (show _ = vs 9 by kernel_rfl).trans (hp 9 (by decide))
      have s15 : ac.tmps[15]?.getD undef = .string T := by rw [hb]; exact (show _ = vs 12 by kernel_rfl).trans (hp 12 (by decide))
      rw [if_pos (AnyO.wanted_none rfl)]
      clear hb hp
      have x1 := HQ.out.2.2.2.2.1
      have x2 : ¬ 9223372036854775807 < s9.size + T.size := by have := HZ.out.2.2.2.2.2.1; have := HZ.out.2.2.2.2.2.2.1; omega
      go_simp
      exact hK _ _ (Below.refl _ _) rfl
    · -- 14: Op.binOp BinOp.add 9 (Operand.tmp 16) (Operand.const (Value.
      refine AnyO.Step.mk rfl [13] (by kernel_rfl) ?_
      intro vs u hE hp ac hb K hK
      have s16 : ac.tmps[16]?.getD undef = .string s13 := by rw [hb]; exact (show _ = vs 13 by kernel_rfl).trans (hp 13 (by decide))
      rw [if_pos (AnyO.wanted_none rfl)]
      clear hb hp
      have x1 := HQ.out.2.2.2.2.2
      have x2 : ¬ 9223372036854775807 < s13.size + 1 := by have := HZ.out.2.2.2.2.2.2.2; omega
      go_simp
      exact hK _ _ (Below.refl _ _) rfl
    · -- 15: Op.assign (Operand.tmp 17)
      refine AnyO.Step.mk rfl [14, 12, 0, 1, 2, 3, 4, 5, 6, 7, 8, 9, 10, 11, 12, 13, 14] (by kernel_rfl) ?_
      intro vs u hE hp ac hb K hK
      have s17 : ac.tmps[17]?.getD undef = .string s14 := by rw [hb]; exact (show _ = vs 14 by kernel_rfl).trans (hp 14 (by decide))
      rw [if_pos (AnyO.wanted_none rfl)]
      clear hb hp
      go_simp
      exact hK _ _ (Below.refl _ _) rfl
  · intro vs u hE hp
    have e0 : vs 0 = .pointer (some ⟨b, 32, none⟩) := hp 0 (by decide)
    have e1 : vs 1 = .string x.text := hp 1 (by decide)
    have e2 : vs 2 = .int .i64 (x.text.size : Int) := hp 2 (by decide)
    have e3 : vs 3 = .string D := hp 3 (by decide)
    have e4 : vs 4 = .string s4 := hp 4 (by decide)
    have e5 : vs 5 = .string s5 := hp 5 (by decide)
    have e6 : vs 6 = vX x := hp 6 (by decide)
    have e7 : vs 7 = .string G := hp 7 (by decide)
    have e8 : vs 8 = .string s8 := hp 8 (by decide)
    have e9 : vs 9 = .string s9 := hp 9 (by decide)
    have e10 : vs 10 = .pointer (some ⟨b, 0, none⟩) := hp 10 (by decide)
    have e11 : vs 11 = vI x.id := hp 11 (by decide)
    have e12 : vs 12 = .string T := hp 12 (by decide)
    have e13 : vs 13 = .string s13 := hp 13 (by decide)
    have e14 : vs 14 = .string s14 := hp 14 (by decide)
    have e15 : vs 15 = .string s14 := hp 15 (by decide)
    clear hp
    have HE := Lib.hid hE; clear hE
    rw [puts_range [some 3, some 4, some 5, some 6, some 7, some 8, some 9, some 10, some 11, some 12, some 13, some 14, some 15, some 16, some 17, some 2] (by kernel_rfl)]
    simp only [putL, Nat.reduceAdd, e0, e1, e2, e3, e4, e5, e6, e7, e8, e9, e10, e11, e12, e13, e14, e15]
    clear e0 e1 e2 e3 e4 e5 e6 e7 e8 e9 e10 e11 e12 e13 e14 e15
    go_simp
    go_wp2
    go_ret
    exact ⟨congrArg (fun s => Ending.returned (.string s)) HR.out, HX.out.2.2.trans (HE.out.mono HX.out.2.2.size)⟩
end Go.Proofs.YtecalodcbkljoaaGreatDoor
namespace Go.Proofs.YtecalodcbkljoaaGreatDoor
open Go.RowKit
set_option maxRecDepth 100000 in
set_option maxHeartbeats 3200000 in
theorem bytes_i (x : It) (w : World) (hL : Laid w) (hx : x.text.size ≤ 1073741824) : Calls Tryz.prog 50 #[vX x] w fun e w' => e = .returned (.int .i64 (itN x : Int)) ∧ Below w.heap.size w w' := by
  obtain ⟨b, hb⟩ : ∃ b, w.heap.size = b := ⟨_, rfl⟩
  obtain ⟨W0, hW0⟩ : ∃ W0, w.alloc (.cells (aX x) 64) = W0 := ⟨_, rfl⟩
  have HX := Lib.hid (show Row W0 b (cX x) 64 ∧ Laid W0 ∧ Below w.heap.size w W0 from by
    subst hW0 hb
    exact ⟨Row.new w (cX x) _, hL.keep (below_alloc _ _), below_alloc _ _⟩)
  obtain ⟨D, hD⟩ : ∃ D : ByteArray, ⟨(Lib.itoa (x.text.size : Int)).toArray⟩ = D := ⟨_, rfl⟩
  obtain ⟨d, hd⟩ : ∃ d, D.size = d := ⟨_, rfl⟩
  have z0 : d ≤ 10 := by rw [← hd, ← hD]; exact itoa_size _ (by omega)
  have HN := Lib.hid (show 114 + (d : Int) + (x.text.size : Int) + 1 = (itN x : Int) from by
    have h1 : (Lib.itoa (x.text.size : Int)).length = d := by rw [← hd, ← hD, ← bl_length]; rfl
    unfold itN
    omega)
  have HZ := Lib.hid (And.intro hd z0)
  have HS := Lib.hid hx
  have HD := Lib.hid hD
  clear hL hx hD hd z0
  go_enter Tryz.func50, Tryz.ntmps50
  go_wp2
  clear hb hW0
  refine AnyO.wp_any (by kernel_rfl) (by kernel_rfl) (pstP [isV (.pointer (some ⟨b, 32, none⟩)), isV (.string x.text), isV (.int .i64 (x.text.size : Int)), isV (.string D), isV (.int .i64 (d : Int)), isV (.int .i64 (8 + (d : Int))), isV (.int .i64 (9 + (d : Int))), isV (.int .i64 (41 + (d : Int))), isV (.int .i64 (42 + (d : Int))), isV (.int .i64 (113 + (d : Int))), isV (.int .i64 (114 + (d : Int))), isV (.pointer (some ⟨b, 32, none⟩)), isV (.string x.text), isV (.int .i64 (x.text.size : Int)), isV (.int .i64 (114 + (d : Int) + (x.text.size : Int))), isV (.int .i64 (itN x : Int)), isV (.int .i64 (itN x : Int))]) (MonoL.cons (Mono.v _) (MonoL.cons (Mono.v _) (MonoL.cons (Mono.v _) (MonoL.cons (Mono.v _) (MonoL.cons (Mono.v _) (MonoL.cons (Mono.v _) (MonoL.cons (Mono.v _) (MonoL.cons (Mono.v _) (MonoL.cons (Mono.v _) (MonoL.cons (Mono.v _) (MonoL.cons (Mono.v _) (MonoL.cons (Mono.v _) (MonoL.cons (Mono.v _) (MonoL.cons (Mono.v _) (MonoL.cons (Mono.v _) (MonoL.cons (Mono.v _) (MonoL.cons (Mono.v _) MonoL.nil))))))))))))))))) ?_ ?_
  · intro i hi
    have hi2 : i = 0 ∨ i = 1 ∨ i = 2 ∨ i = 3 ∨ i = 4 ∨ i = 5 ∨ i = 6 ∨ i = 7 ∨ i = 8 ∨ i = 9 ∨ i = 10 ∨ i = 11 ∨ i = 12 ∨ i = 13 ∨ i = 14 ∨ i = 15 ∨ i = 16 := by simp only [List.size_toArray, List.length_cons, List.length_nil] at hi; omega
    clear hi
    rcases hi2 with rfl | rfl | rfl | rfl | rfl | rfl | rfl | rfl | rfl | rfl | rfl | rfl | rfl | rfl | rfl | rfl | rfl
    · -- 0: Op.fieldAddr 64 (Operand.tmp 1) 1
      refine AnyO.Step.mk rfl [] (by kernel_rfl) ?_
      intro vs u hE hp ac hb K hK
      have s1 : ac.tmps[1]?.getD undef = .pointer (some ⟨b, 0, none⟩) := by rw [hb]; kernel_rfl
      rw [if_pos (AnyO.wanted_none rfl)]
      clear hb hp
      go_simp
      exact hK _ _ (Below.refl _ _) rfl
    · -- 1: Op.load 9 (Operand.tmp 3)
      refine AnyO.Step.mk rfl [0] (by kernel_rfl) ?_
      intro vs u hE hp ac hb K hK
      have s3 : ac.tmps[3]?.getD undef = .pointer (some ⟨b, 32, none⟩) := by rw [hb]; exact (show _ = vs 0 by kernel_rfl).trans (hp 0 (by decide))
      rw [if_pos (AnyO.wanted_none rfl)]
      clear hb hp
      obtain ⟨-, -, x1⟩ := rowX (HX.out.1.keep (Below.step (below_drew _) hE))
      go_simp
      exact hK _ _ (Below.refl _ _) rfl
    · -- 2: Op.call { callee := Callee.builtin Builtin.len, args := #[Op
      refine AnyO.Step.mk rfl [1] (by kernel_rfl) ?_
      intro vs u hE hp ac hb K hK
      have s4 : ac.tmps[4]?.getD undef = .string x.text := by rw [hb]; exact (show _ = vs 1 by kernel_rfl).trans (hp 1 (by decide))
      rw [if_pos (AnyO.wanted_none rfl)]
      clear hb hp
      go_simp
      exact hK _ _ (Below.refl _ _) rfl
    · -- 3: Op.call { callee := Callee.value (Operand.func 61), args := 
      refine AnyO.Step.mk rfl [2] (by kernel_rfl) ?_
      intro vs u hE hp ac hb K hK
      have s5 : ac.tmps[5]?.getD undef = .int .i64 (x.text.size : Int) := by rw [hb]; exact (show _ = vs 2 by kernel_rfl).trans (hp 2 (by decide))
      rw [if_pos (AnyO.wanted_none rfl)]
      clear hb hp
      go_simp
      go_at_call 61
      refine (digits28 _ (by omega) (by have := HS.out; omega) u (tab_below HX.out.2.1.tab (Below.step (below_drew _) hE))).mono ?_
      rintro e w2 ⟨rfl, hb2⟩
      exact hK _ _ hb2 (congrArg Value.string HD.out)
    · -- 4: Op.call { callee := Callee.builtin Builtin.len, args := #[Op
      refine AnyO.Step.mk rfl [3] (by kernel_rfl) ?_
      intro vs u hE hp ac hb K hK
      have s6 : ac.tmps[6]?.getD undef = .string D := by rw [hb]; exact (show _ = vs 3 by kernel_rfl).trans (hp 3 (by decide))
      rw [if_pos (AnyO.wanted_none rfl)]
      clear hb hp
      have x1 := HZ.out.1
      go_simp
      exact hK _ _ (Below.refl _ _) rfl
    · -- 5: Op.binOp BinOp.add 3 (Operand.const (Value.int IntKind.i64 8
      refine AnyO.Step.mk rfl [4] (by kernel_rfl) ?_
      intro vs u hE hp ac hb K hK
      have s7 : ac.tmps[7]?.getD undef = .int .i64 (d : Int) := by rw [hb]; exact (show _ = vs 4 by kernel_rfl).trans (hp 4 (by decide))
      rw [if_pos (AnyO.wanted_none rfl)]
      clear hb hp
      have x1 : IntKind.i64.wrap (8 + (d : Int)) = 8 + (d : Int) := IntWalk.i64_in _ (by have := HZ.out.2; omega)
      go_simp
      exact hK _ _ (Below.refl _ _) rfl
    · -- 6: Op.binOp BinOp.add 3 (Operand.tmp 8) (Operand.const (Value.i
      refine AnyO.Step.mk rfl [5] (by kernel_rfl) ?_
      intro vs u hE hp ac hb K hK
      have s8 : ac.tmps[8]?.getD undef = .int .i64 (8 + (d : Int)) := by rw [hb]; exact (show _ = vs 5 by kernel_rfl).trans (hp 5 (by decide))
      rw [if_pos (AnyO.wanted_none rfl)]
      clear hb hp
      have x1 : IntKind.i64.wrap (8 + (d : Int) + 1) = 9 + (d : Int) := (IntWalk.i64_in _ (by have := HZ.out.2; omega)).trans (by omega)
      go_simp
      exact hK _ _ (Below.refl _ _) rfl
    · -- 7: Op.binOp BinOp.add 3 (Operand.tmp 9) (Operand.const (Value.i
      refine AnyO.Step.mk rfl [6] (by kernel_rfl) ?_
      intro vs u hE hp ac hb K hK
      have s9 : ac.tmps[9]?.getD undef = .int .i64 (9 + (d : Int)) := by rw [hb]; exact (show _ = vs 6 by kernel_rfl).trans (hp 6 (by decide))
      rw [if_pos (AnyO.wanted_none rfl)]
      clear hb hp
      have x1 : IntKind.i64.wrap (9 + (d : Int) + 32) = 41 + (d : Int) := (IntWalk.i64_in _ (by have := HZ.out.2; omega)).trans (by omega)
      go_simp
      exact hK _ _ (Below.refl _ _) rfl
    · -- 8: Op.binOp BinOp.add 3 (Operand.tmp 10) (Operand.const (Value.
      refine AnyO.Step.mk rfl [7] (by kernel_rfl) ?_
      intro vs u hE hp ac hb K hK
      have s10 : ac.tmps[10]?.getD undef = .int .i64 (41 + (d : Int)) := by rw [hb]; exact (show _ = vs 7 by kernel_rfl).trans (hp 7 (by decide))
      rw [if_pos (AnyO.wanted_none rfl)]
      clear hb hp
      have x1 : IntKind.i64.wrap (41 + (d : Int) + 1) = 42 + (d : Int) := (IntWalk.i64_in _ (by have := HZ.out.2; omega)).trans (by omega)
      go_simp
      exact hK _ _ (Below.refl _ _) rfl
    · -- 9: Op.binOp BinOp.add 3 (Operand.tmp 11) (Operand.const (Value.
      refine AnyO.Step.mk rfl [8] (by kernel_rfl) ?_
      intro vs u hE hp ac hb K hK
      have s11 : ac.tmps[11]?.getD undef = .int .i64 (42 + (d : Int)) := by rw [hb]; exact (show _ = vs 8 by kernel_rfl).trans (hp 8 (by decide))
      rw [if_pos (AnyO.wanted_none rfl)]
      clear hb hp
      have x1 : IntKind.i64.wrap (42 + (d : Int) + 71) = 113 + (d : Int) := (IntWalk.i64_in _ (by have := HZ.out.2; omega)).trans (by omega)
      go_simp
      exact hK _ _ (Below.refl _ _) rfl
    · -- 10: Op.binOp BinOp.add 3 (Operand.tmp 12) (Operand.const (Value.
      refine AnyO.Step.mk rfl [9] (by kernel_rfl) ?_
      intro vs u hE hp ac hb K hK
      have s12 : ac.tmps[12]?.getD undef = .int .i64 (113 + (d : Int)) := by rw [hb]; exact (show _ = vs 9 by kernel_rfl).trans (hp 9 (by decide))
      rw [if_pos (AnyO.wanted_none rfl)]
      clear hb hp
      have x1 : IntKind.i64.wrap (113 + (d : Int) + 1) = 114 + (d : Int) := (IntWalk.i64_in _ (by have := HZ.out.2; omega)).trans (by omega)
      go_simp
      exact hK _ _ (Below.refl _ _) rfl
    · -- 11: Op.fieldAddr 64 (Operand.tmp 1) 1
      refine AnyO.Step.mk rfl [] (by kernel_rfl) ?_
      intro vs u hE hp ac hb K hK
      have s1 : ac.tmps[1]?.getD undef = .pointer (some ⟨b, 0, none⟩) := by rw [hb]; kernel_rfl
      rw [if_pos (AnyO.wanted_none rfl)]
      clear hb hp
      go_simp
      exact hK _ _ (Below.refl _ _) rfl
    · -- 12: Op.load 9 (Operand.tmp 14)
      refine AnyO.Step.mk rfl [11] (by kernel_rfl) ?_
      intro vs u hE hp ac hb K hK
      have s14 : ac.tmps[14]?.getD undef = .pointer (some ⟨b, 32, none⟩) := by rw [hb]; exact (show _ = vs 11 by kernel_rfl).trans (hp 11 (by decide))
      rw [if_pos (AnyO.wanted_none rfl)]
      clear hb hp
      obtain ⟨-, -, x1⟩ := rowX (HX.out.1.keep (Below.step (below_drew _) hE))
      go_simp
      exact hK _ _ (Below.refl _ _) rfl
    · -- 13: Op.call { callee := Callee.builtin Builtin.len, args := #[Op
      refine AnyO.Step.mk rfl [12] (by kernel_rfl) ?_
      intro vs u hE hp ac hb K hK
      have s15 : ac.tmps[15]?.getD undef = .string x.text := by rw [hb]; exact (show _ = vs 12 by kernel_rfl).trans (hp 12 (by decide))
      rw [if_pos (AnyO.wanted_none rfl)]
      clear hb hp
      go_simp
      exact hK _ _ (Below.refl _ _) rfl
    · -- 14: Op.binOp BinOp.add 3 (Operand.tmp 13) (Operand.tmp 16) 3
      refine AnyO.Step.mk rfl [10, 13] (by kernel_rfl) ?_
      intro vs u hE hp ac hb K hK
      have s13 : ac.tmps[13]?.getD undef = .int .i64 (114 + (d : Int)) := by rw [hb]; exact (show _ = vs 10 by kernel_rfl).trans (hp 10 (by decide))
      have s16 : ac.tmps[16]?.getD undef = .int .i64 (x.text.size : Int) := by rw [hb]; exact (show _ = vs 13 by kernel_rfl).trans (hp 13 (by decide))
      rw [if_pos (AnyO.wanted_none rfl)]
      clear hb hp
      have x1 : IntKind.i64.wrap (114 + (d : Int) + (x.text.size : Int)) = 114 + (d : Int) + (x.text.size : Int) := IntWalk.i64_in _ (by have := HZ.out.2; have := HS.out; omega)
      go_simp
      exact hK _ _ (Below.refl _ _) rfl
    · -- 15: Op.binOp BinOp.add 3 (Operand.tmp 17) (Operand.const (Value.
      refine AnyO.Step.mk rfl [14] (by kernel_rfl) ?_
      intro vs u hE hp ac hb K hK
      have s17 : ac.tmps[17]?.getD undef = .int .i64 (114 + (d : Int) + (x.text.size : Int)) := by rw [hb]; exact (show _ = vs 14 by kernel_rfl).trans (hp 14 (by decide))
      rw [if_pos (AnyO.wanted_none rfl)]
      clear hb hp
      have x1 : IntKind.i64.wrap (114 + (d : Int) + (x.text.size : Int) + 1) = (itN x : Int) := (IntWalk.i64_in _ (by have := HZ.out.2; have := HS.out; omega)).trans HN.out
      go_simp
      exact hK _ _ (Below.refl _ _) rfl
    · -- 16: Op.assign (Operand.tmp 18)
      refine AnyO.Step.mk rfl [15, 3, 0, 1, 2, 3, 4, 5, 6, 7, 8, 9, 10, 11, 12, 13, 14, 15] (by kernel_rfl) ?_
      intro vs u hE hp ac hb K hK
      have s18 : ac.tmps[18]?.getD undef = .int .i64 (itN x : Int) := by rw [hb]; exact (show _ = vs 15 by kernel_rfl).trans (hp 15 (by decide))
      rw [if_pos (AnyO.wanted_none rfl)]
      clear hb hp
      go_simp
      exact hK _ _ (Below.refl _ _) rfl
  · intro vs u hE hp
    have e0 : vs 0 = .pointer (some ⟨b, 32, none⟩) := hp 0 (by decide)
    have e1 : vs 1 = .string x.text := hp 1 (by decide)
    have e2 : vs 2 = .int .i64 (x.text.size : Int) := hp 2 (by decide)
    have e3 : vs 3 = .string D := hp 3 (by decide)
    have e4 : vs 4 = .int .i64 (d : Int) := hp 4 (by decide)
    have e5 : vs 5 = .int .i64 (8 + (d : Int)) := hp 5 (by decide)
    have e6 : vs 6 = .int .i64 (9 + (d : Int)) := hp 6 (by decide)
    have e7 : vs 7 = .int .i64 (41 + (d : Int)) := hp 7 (by decide)
    have e8 : vs 8 = .int .i64 (42 + (d : Int)) := hp 8 (by decide)
    have e9 : vs 9 = .int .i64 (113 + (d : Int)) := hp 9 (by decide)
    have e10 : vs 10 = .int .i64 (114 + (d : Int)) := hp 10 (by decide)
    have e11 : vs 11 = .pointer (some ⟨b, 32, none⟩) := hp 11 (by decide)
    have e12 : vs 12 = .string x.text := hp 12 (by decide)
    have e13 : vs 13 = .int .i64 (x.text.size : Int) := hp 13 (by decide)
    have e14 : vs 14 = .int .i64 (114 + (d : Int) + (x.text.size : Int)) := hp 14 (by decide)
    have e15 : vs 15 = .int .i64 (itN x : Int) := hp 15 (by decide)
    have e16 : vs 16 = .int .i64 (itN x : Int) := hp 16 (by decide)
    clear hp
    have HE := Lib.hid hE; clear hE
    rw [puts_range [some 3, some 4, some 5, some 6, some 7, some 8, some 9, some 10, some 11, some 12, some 13, some 14, some 15, some 16, some 17, some 18, some 2] (by kernel_rfl)]
    simp only [putL, Nat.reduceAdd, e0, e1, e2, e3, e4, e5, e6, e7, e8, e9, e10, e11, e12, e13, e14, e15, e16]
    clear e0 e1 e2 e3 e4 e5 e6 e7 e8 e9 e10 e11 e12 e13 e14 e15 e16
    go_simp
    go_wp2
    go_ret
    exact ⟨rfl, HX.out.2.2.trans (HE.out.mono HX.out.2.2.size)⟩
def fstS (n : Nat) : ByteArray := ⟨(firstL n).toArray⟩
set_option maxHeartbeats 1600000 in
theorem first_l (n : Nat) (hn : n ≤ 9999999999) (w : World) (hL : Laid w) : Calls Tryz.prog 40 #[.int .i64 (n : Int)] w fun e w' => e = .returned (.string (fstS n)) ∧ Below w.heap.size w w' := by
  obtain ⟨D, hD⟩ : ∃ D : ByteArray, ⟨(Lib.itoa (n : Int)).toArray⟩ = D := ⟨_, rfl⟩
  obtain ⟨s4, h4⟩ : ∃ s : ByteArray, ⟨#[98, 97, 116, 99, 104, 32]⟩ ++ D = s := ⟨_, rfl⟩
  have z0 : D.size ≤ 10 := by rw [← hD]; exact itoa_size _ hn
  have z4 : s4.size ≤ 100 := by rw [← h4, ByteArray.size_append]; show 6 + D.size ≤ 100; omega
  have HR := Lib.hid (show s4 ++ ⟨#[10]⟩ = fstS n from by
    apply bl_inj
    rw [← h4, ← hD]
    simp only [bl_app]
    show ([98, 97, 116, 99, 104, 32] ++ Lib.itoa (n : Int)) ++ [10] = firstL n
    unfold firstL
    simp)
  have x1 : ¬ 9223372036854775807 < 6 + D.size := by omega
  have x2 : ¬ 9223372036854775807 < s4.size + 1 := by omega
  have HD := Lib.hid (And.intro hD (And.intro hL hn))
  clear hD hL hn z0 z4
  go_enter Tryz.func40, Tryz.ntmps40
  go_wp2_with (go_at_call 61; refine (digits28 _ (by omega) (by have := HD.out.2.2; omega) _ HD.out.2.1.tab).mono ?_; rintro e w2 ⟨rfl, hb2⟩; rw [HD.out.1]; have H2 := Lib.hid hb2; clear hb2)
  go_ret
  exact ⟨congrArg (fun s => Ending.returned (.string s)) HR.out, H2.out⟩
set_option maxHeartbeats 1600000 in
theorem size_l (n k : Nat) (hn : n ≤ 9999999999) (hk : k ≤ 4611686018427387904) (w : World) (hL : Laid w) : Calls Tryz.prog 49 #[.int .i64 (n : Int), .int .i64 (k : Int)] w fun e w' => e = .returned (.int .i64 (sizeN n k : Int)) ∧ Below w.heap.size w w' := by
  obtain ⟨f, hf⟩ : ∃ f, (fstS n).size = f := ⟨_, rfl⟩
  have hfl : f = (Lib.itoa (n : Int)).length + 7 := by rw [← hf, ← bl_length]; exact firstL_len n
  have h10 := itoa_len 10 n (by omega) (by omega)
  have x1 : IntKind.i64.wrap ((f : Int) + (k : Int)) = (f : Int) + (k : Int) := IntWalk.i64_in _ (by omega)
  have x2 : IntKind.i64.wrap ((f : Int) + (k : Int) + 4) = (f : Int) + (k : Int) + 4 := IntWalk.i64_in _ (by omega)
  have HN := Lib.hid (show (f : Int) + (k : Int) + 4 = (sizeN n k : Int) from by unfold sizeN; omega)
  have HD := Lib.hid (And.intro hn hL)
  clear hn hk hfl h10 hL
  go_enter Tryz.func49, Tryz.ntmps49
  go_wp2_with (go_at_call 40; refine (first_l n HD.out.1 _ HD.out.2).mono ?_; rintro e w2 ⟨rfl, hb2⟩; have H2 := Lib.hid hb2; clear hb2)
  go_ret
  exact ⟨ret_int HN.out, H2.out⟩
end Go.Proofs.YtecalodcbkljoaaGreatDoor
