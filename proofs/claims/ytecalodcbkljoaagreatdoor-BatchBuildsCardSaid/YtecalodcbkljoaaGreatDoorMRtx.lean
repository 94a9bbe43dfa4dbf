/- The reference's text of an item and of a batch: bulletinref35.Item, Text. The reference's text of a batch: bulletinref35.Text. -/
import Derived.Test.YtecalodcbkljoaaGreatDoorMRsm
import Derived.Test.YtecalodcbkljoaaGreatDoorMPck
import Derived.Test.YtecalodcbkljoaaGreatDoorMPkp
namespace Go.Proofs.YtecalodcbkljoaaGreatDoor
open Go.RowKit
def shI (x : It) : Id := ⟨sha (msgL x), sha_length _⟩
theorem slice_32 (g : Nat) (w : World) : (Instr.sliceAt 35 (.pointer (some ⟨g, 0, none⟩)) none (some (.int .i64 16)) none).run Tryz.prog w = .ok (.slice (some ⟨g, 0, none⟩) 16 32) w := by kernel_rfl
def isPD (B : Nat) : Value → World → Prop := fun v w => ∃ g, v = .pointer (some ⟨g, 0, none⟩) ∧ B ≤ g ∧ Row w g (cI zI) 35
theorem Mono.pD (B : Nat) : Mono (isPD B) := fun _ _ _ hb ⟨g, h1, h2, h3⟩ => ⟨g, h1, h2, h3.keep hb⟩
def itS1 (x : It) : ByteArray := ⟨(itL x).toArray⟩
set_option maxRecDepth 100000 in
set_option maxHeartbeats 6400000 in
theorem ritem_b (x : It) (w : World) (hx : x.text.size ≤ 1000000) : Calls Tryz.prog 19 #[vX x] w fun e w' => e = .returned (.string (itS1 x)) ∧ Below w.heap.size w w' := by
  obtain ⟨b, hb⟩ : ∃ b, w.heap.size = b := ⟨_, rfl⟩
  obtain ⟨W0, hW0⟩ : ∃ W0, w.alloc (.cells (aX x) 39) = W0 := ⟨_, rfl⟩
  have HX := Lib.hid (show Row W0 b (cX x) 39 ∧ True ∧ Below w.heap.size w W0 from by
    subst hW0 hb
    exact ⟨Row.new w (cX x) _, trivial, below_alloc _ _⟩)
  obtain ⟨D, hD⟩ : ∃ D : ByteArray, itS (x.text.size : Int) = D := ⟨_, rfl⟩
  obtain ⟨T, hT⟩ : ∃ T, textS x.id = T := ⟨_, rfl⟩
  obtain ⟨G, hG⟩ : ∃ G : ByteArray, ⟨(hexL ((sha (msgL x)).take 16)).toArray⟩ = G := ⟨_, rfl⟩
  obtain ⟨s4, h4⟩ : ∃ s : ByteArray, ⟨#[97, 114, 116, 105, 99, 108, 101, 32]⟩ ++ D = s := ⟨_, rfl⟩
  obtain ⟨s5, h5⟩ : ∃ s : ByteArray, s4 ++ ⟨#[32]⟩ = s := ⟨_, rfl⟩
  obtain ⟨s8, h8⟩ : ∃ s : ByteArray, s5 ++ G = s := ⟨_, rfl⟩
  obtain ⟨s9, h9⟩ : ∃ s : ByteArray, s8 ++ ⟨#[32]⟩ = s := ⟨_, rfl⟩
  obtain ⟨s13, h13⟩ : ∃ s : ByteArray, s9 ++ T = s := ⟨_, rfl⟩
  obtain ⟨s14, h14⟩ : ∃ s : ByteArray, s13 ++ ⟨#[10]⟩ = s := ⟨_, rfl⟩
  obtain ⟨s15, h15⟩ : ∃ s : ByteArray, s14 ++ x.text = s := ⟨_, rfl⟩
  obtain ⟨s16, h16⟩ : ∃ s : ByteArray, s15 ++ ⟨#[10]⟩ = s := ⟨_, rfl⟩
  have z0 : D.size ≤ 10 := by rw [← hD]; exact itoa_size _ (by omega)
  have z1 : T.size = 71 := by rw [← hT]; exact idS_size _
  have z2 : G.size = 32 := by rw [← hG, ← bl_length]; show (digT x).length = 32; exact digT_len x
  have z4 : s4.size ≤ 100 := by rw [← h4, ByteArray.size_append]; show 8 + D.size ≤ 100; omega
  have z5 : s5.size ≤ 200 := by rw [← h5, ByteArray.size_append]; show s4.size + 1 ≤ 200; omega
  have z8 : s8.size ≤ 300 := by rw [← h8, ByteArray.size_append]; omega
  have z9 : s9.size ≤ 400 := by rw [← h9, ByteArray.size_append]; show s8.size + 1 ≤ 400; omega
  have z13 : s13.size ≤ 500 := by rw [← h13, ByteArray.size_append]; omega
  have z14 : s14.size ≤ 600 := by rw [← h14, ByteArray.size_append]; show s13.size + 1 ≤ 600; omega
  have z15 : s15.size ≤ 1073742424 := by rw [← h15, ByteArray.size_append]; omega
  have HR := Lib.hid (show s16 = itS1 x from by
    apply bl_inj
    rw [← h16, ← h15, ← h14, ← h13, ← h9, ← h8, ← h5, ← h4, ← hG, ← hT, ← hD]
    simp only [bl_app]
    show ((((((([97, 114, 116, 105, 99, 108, 101, 32] ++ Lib.itoa (x.text.size : Int)) ++ [32]) ++ digT x) ++ [32]) ++ textL x.id) ++ [10]) ++ bl x.text) ++ [10] = itL x
    unfold itL headL artL
    simp)
  have HQ := Lib.hid (And.intro h4 (And.intro h5 (And.intro h8 (And.intro h9 (And.intro h13 (And.intro h14 (And.intro h15 h16)))))))
  have HZ := Lib.hid (And.intro z0 (And.intro z4 (And.intro z5 (And.intro z2 (And.intro z8 (And.intro z9 (And.intro z1 (And.intro z13 (And.intro z14 z15)))))))))
  have HT := Lib.hid (show T = ⟨(textL x.id).toArray⟩ ∧ T.size = 71 ∧ (T ++ ⟨#[10]⟩ : ByteArray).size = 72 ∧ bl (T ++ ⟨#[10]⟩ ++ x.text) = msgL x from by
    rw [← hT]
    refine ⟨rfl, idS_size _, ?_, ?_⟩
    · rw [ByteArray.size_append]; show (idS x.id).size + 1 = 72; rw [idS_size]
    · rw [bl_app, bl_app, List.append_assoc]; rfl)
  have HL := Lib.hid (show (msgL x).length = T.size + 1 + x.text.size from by
    rw [← HT.out.2.2.2, bl_length, ByteArray.size_append, ByteArray.size_append]; rfl)
  have HS := Lib.hid hx
  have HD := Lib.hid hD
  have HT2 := Lib.hid hT
  have HG := Lib.hid hG
  clear hT hx hD hG h4 h5 h8 h9 h13 h14 h15 h16 z0 z1 z2 z4 z5 z8 z9 z13 z14 z15
  go_enter Tryz.func19, Tryz.ntmps19
  go_wp2
  clear hb hW0
  refine AnyO.wp_any_tail 10 (by kernel_rfl) (by kernel_rfl) (by kernel_rfl) (by kernel_rfl) (by kernel_rfl) (by kernel_rfl) (pstP [isV (.pointer (some ⟨b, 0, none⟩)), isV (vI x.id), isV (.string T), isV (.string (T ++ ⟨#[10]⟩)), isV (.pointer (some ⟨b, 32, none⟩)), isV (.string x.text), isV (.string (T ++ ⟨#[10]⟩ ++ x.text)), isSlB (msgL x), isV (vI (shI x)), isPD W0.heap.size]) (MonoL.cons (Mono.v _) (MonoL.cons (Mono.v _) (MonoL.cons (Mono.v _) (MonoL.cons (Mono.v _) (MonoL.cons (Mono.v _) (MonoL.cons (Mono.v _) (MonoL.cons (Mono.v _) (MonoL.cons (Mono.slB _) (MonoL.cons (Mono.v _) (MonoL.cons (Mono.pD _) MonoL.nil)))))))))) ?_ ?_
  · intro i hi
    have hi2 : i = 0 ∨ i = 1 ∨ i = 2 ∨ i = 3 ∨ i = 4 ∨ i = 5 ∨ i = 6 ∨ i = 7 ∨ i = 8 ∨ i = 9 := by omega
    clear hi
    rcases hi2 with rfl | rfl | rfl | rfl | rfl | rfl | rfl | rfl | rfl | rfl
    · -- 0: Op.fieldAddr 39 (Operand.tmp 1) 0
      refine AnyO.Step.mk rfl [] (by kernel_rfl) ?_
      intro vs u hE hp ac hb K hK
      have s1 : ac.tmps[1]?.getD undef = .pointer (some ⟨b, 0, none⟩) := by rw [hb]; kernel_rfl
      rw [if_pos (AnyO.wanted_none rfl)]
      clear hb hp
      go_simp
      exact hK _ _ (Below.refl _ _) rfl
    · -- 1: Op.load 36 (Operand.tmp 4)
      refine AnyO.Step.mk rfl [0] (by kernel_rfl) ?_
      intro vs u hE hp ac hb K hK
      have s4 : ac.tmps[4]?.getD undef = .pointer (some ⟨b, 0, none⟩) := by rw [hb]; exact (show _ = vs 0 by kernel_rfl).trans (hp 0 (by decide))
      rw [if_pos (AnyO.wanted_none rfl)]
      clear hb hp
      obtain ⟨-, ⟨x1, x2⟩, -⟩ := rowX (HX.out.1.keep (Below.step (below_drew _) hE))
      go_simp
      exact hK _ _ (Below.refl _ _) rfl
    · -- 2: Op.call { callee := Callee.value (Operand.func 46), args := 
      refine AnyO.Step.mk rfl [1] (by kernel_rfl) ?_
      intro vs u hE hp ac hb K hK
      have s5 : ac.tmps[5]?.getD undef = vI x.id := by rw [hb]; exact (show _ = vs 1 by kernel_rfl).trans (hp 1 (by decide))
      rw [if_pos (AnyO.wanted_none rfl)]
      clear hb hp
      go_simp
      go_at_call 46
      refine (rprint_b x.id u).mono ?_
      rintro e w2 ⟨rfl, hb2⟩
      exact hK _ _ hb2 (congrArg Value.string HT2.out)
    · -- 3: Op.binOp BinOp.add 9 (Operand.tmp 6) (Operand.const (Value.s
      refine AnyO.Step.mk rfl [2] (by kernel_rfl) ?_
      intro vs u hE hp ac hb K hK
      have s6 : ac.tmps[6]?.getD undef = .string T := by rw [hb]; exact (show _ = vs 2 by kernel_rfl).trans (hp 2 (by decide))
      rw [if_pos (AnyO.wanted_none rfl)]
      clear hb hp
      have x1 := HT.out.2.1
      go_simp
      exact hK _ _ (Below.refl _ _) rfl
    · -- 4: Op.fieldAddr 39 (Operand.tmp 1) 1
      refine AnyO.Step.mk rfl [] (by kernel_rfl) ?_
      intro vs u hE hp ac hb K hK
      have s1 : ac.tmps[1]?.getD undef = .pointer (some ⟨b, 0, none⟩) := by rw [hb]; kernel_rfl
      rw [if_pos (AnyO.wanted_none rfl)]
      clear hb hp
      go_simp
      exact hK _ _ (Below.refl _ _) rfl
    · -- 5: Op.load 9 (Operand.tmp 8)
      refine AnyO.Step.mk rfl [4] (by kernel_rfl) ?_
      intro vs u hE hp ac hb K hK
      have s8 : ac.tmps[8]?.getD undef = .pointer (some ⟨b, 32, none⟩) := by rw [hb]; exact (show _ = vs 4 by kernel_rfl).trans (hp 4 (by decide))
      rw [if_pos (AnyO.wanted_none rfl)]
      clear hb hp
      obtain ⟨-, -, x1⟩ := rowX (HX.out.1.keep (Below.step (below_drew _) hE))
      go_simp
      exact hK _ _ (Below.refl _ _) rfl
    · -- 6: Op.binOp BinOp.add 9 (Operand.tmp 7) (Operand.tmp 9) 9
      refine AnyO.Step.mk rfl [3, 5] (by kernel_rfl) ?_
      intro vs u hE hp ac hb K hK
      have s7 : ac.tmps[7]?.getD undef = .string (T ++ ⟨#[10]⟩) := by rw [hb]; exact (show _ = vs 3 by kernel_rfl).trans (hp 3 (by decide))
      have s9 : ac.tmps[9]?.getD undef = .string x.text := by rw [hb]; exact (show _ = vs 5 by kernel_rfl).trans (hp 5 (by decide))
      rw [if_pos (AnyO.wanted_none rfl)]
      clear hb hp
      have x1 := HT.out.2.2.1
      have x2 := HS.out
      have x3 : ¬ 9223372036854775807 < 72 + x.text.size := by omega
      go_simp
      exact hK _ _ (Below.refl _ _) rfl
    · -- 7: Op.convert 9 47 (Operand.tmp 10)
      refine AnyO.Step.mk rfl [6] (by kernel_rfl) ?_
      intro vs u hE hp ac hb K hK
      have s10 : ac.tmps[10]?.getD undef = .string (T ++ ⟨#[10]⟩ ++ x.text) := by rw [hb]; exact (show _ = vs 6 by kernel_rfl).trans (hp 6 (by decide))
      rw [if_pos (AnyO.wanted_none rfl)]
      clear hb hp
      obtain ⟨A7, c7, w7, hcv, hb7, hs7, hc7⟩ := conv_sl u (T ++ ⟨#[10]⟩ ++ x.text)
      rw [HT.out.2.2.2] at hs7
      go_simp
      have hc8 := hc7
      rw [ByteArray.size_append, ByteArray.size_append] at hc8
      exact hK _ _ hb7 ⟨_, _, _, rfl, HL.out, hc8, hs7⟩
    · -- 8: Op.call { callee := Callee.value (Operand.func 45), args := 
      refine AnyO.Step.mk rfl [7, 2] (by kernel_rfl) ?_
      intro vs u hE hp ac hb K hK
      obtain ⟨A11, n11, c11, e11, h11⟩ := hp 7 (by decide)
      have s11 : ac.tmps[11]?.getD undef = .slice A11 n11 c11 := by rw [hb]; exact (show _ = vs 7 by kernel_rfl).trans e11
      clear e11
      rw [if_pos (AnyO.wanted_none rfl)]
      clear hb hp
      go_simp
      go_at_call 45
      have hn := h11.1
      subst hn
      refine (rsum_b _ _ _ u h11.2.2 (by have h1 := HS.out; have h2 := HT.out.2.1; have h3 := HL.out; omega)).mono ?_
      rintro e w2 ⟨rfl, hb2⟩
      exact hK _ _ hb2 rfl
    · -- 9: Op.alloc 35
      refine AnyO.Step.mk rfl [] (by kernel_rfl) ?_
      intro vs u hE hp ac hb K hK
      rw [if_pos (AnyO.wanted_none rfl)]
      clear hb hp
      go_simp
      exact hK _ _ (below_alloc _ _) ⟨_, rfl, hE.size, Row.new u (cI zI) _⟩
  · intro vs u hE hp
    have e0 : vs 0 = .pointer (some ⟨b, 0, none⟩) := hp 0 (by decide)
    have e1 : vs 1 = vI x.id := hp 1 (by decide)
    have e2 : vs 2 = .string T := hp 2 (by decide)
    have e3 : vs 3 = .string (T ++ ⟨#[10]⟩) := hp 3 (by decide)
    have e4 : vs 4 = .pointer (some ⟨b, 32, none⟩) := hp 4 (by decide)
    have e5 : vs 5 = .string x.text := hp 5 (by decide)
    have e6 : vs 6 = .string (T ++ ⟨#[10]⟩ ++ x.text) := hp 6 (by decide)
    obtain ⟨A_7, n_7, c_7, e7, h_7⟩ := show isSlB (msgL x) (vs 7) u from hp 7 (by decide)
    have e8 : vs 8 = vI (shI x) := hp 8 (by decide)
    obtain ⟨g_9, e9, h_9⟩ := show isPD W0.heap.size (vs 9) u from hp 9 (by decide)
    clear hp
    have HE := Lib.hid hE; clear hE
    have HG9 := Lib.hid h_9; clear h_9
    obtain ⟨-, -, ro⟩ := rowI HG9.out.2
    obtain ⟨gd, hgd⟩ : ∃ gd, g_9 = gd := ⟨_, rfl⟩
    rw [hgd] at HG9 ro
    rw [puts_range [some 4, some 5, some 6, some 7, some 8, some 9, some 10, some 11, some 12, some 3] (by kernel_rfl)]
    simp only [putL, Nat.reduceAdd, List.drop_succ_cons, List.drop_zero, e0, e1, e2, e3, e4, e5, e6, e7, e8, e9]
    clear e0 e1 e2 e3 e4 e5 e6 e7 e8 e9
    go_simp
    obtain ⟨W4, hW4⟩ : ∃ W, u.setRow gd (aI (shI x)) = W := ⟨_, rfl⟩
    have H4 := Lib.hid (show Below W0.heap.size W0 W4 ∧ Row W4 gd (cI (shI x)) 35 from ⟨by rw [← hW4]; exact Below.setRow HE.out HG9.out.1 _, by rw [← hW4]; exact HG9.out.2.setRow⟩)
    have HX4 := Lib.hid (show Row W4 b (cX x) 39 ∧ Sl W4 c1 (some ⟨gd, 0, none⟩) ((sha (msgL x)).take 16) ∧ Below w.heap.size w W4 from ⟨HX.out.1.keep H4.out.1, (Sl.ofAt (H4.out.2.at_ (k := 0) (n := 32) (by rw [List.drop_zero, List.take_of_length_le (by rw [cI_length]; omega)]; rfl)) : Sl W4 c1 (some ⟨gd, 0, none⟩) (sha (msgL x))).take 16, Below.step HX.out.2.2 H4.out.1⟩)
    go_wp2_with fail
    clear hgd hW4 ro
    refine AnyO.wp_any_tail 18 (by kernel_rfl) (by kernel_rfl) (by kernel_rfl) (by kernel_rfl) (by kernel_rfl) (by kernel_rfl) (pstP [isV (.pointer (some ⟨b, 32, none⟩)), isV (.string x.text), isV (.int .i64 (x.text.size : Int)), isV (.string D), isV (.string s4), isV (.string s5), isV (.slice (some ⟨gd, 0, none⟩) 16 32), isV (.string G), isV (.string s8), isV (.string s9), isV (.pointer (some ⟨b, 0, none⟩)), isV (vI x.id), isV (.string T), isV (.string s13), isV (.string s14), isV (.pointer (some ⟨b, 32, none⟩)), isV (.string x.text), isV (.string s15)]) (MonoL.cons (Mono.v _) (MonoL.cons (Mono.v _) (MonoL.cons (Mono.v _) (MonoL.cons (Mono.v _) (MonoL.cons (Mono.v _) (MonoL.cons (Mono.v _) (MonoL.cons (Mono.v _) (MonoL.cons (Mono.v _) (MonoL.cons (Mono.v _) (MonoL.cons (Mono.v _) (MonoL.cons (Mono.v _) (MonoL.cons (Mono.v _) (MonoL.cons (Mono.v _) (MonoL.cons (Mono.v _) (MonoL.cons (Mono.v _) (MonoL.cons (Mono.v _) (MonoL.cons (Mono.v _) (MonoL.cons (Mono.v _) MonoL.nil)))))))))))))))))) ?_ ?_
    · intro i hi
      have hi2 : i = 0 ∨ i = 1 ∨ i = 2 ∨ i = 3 ∨ i = 4 ∨ i = 5 ∨ i = 6 ∨ i = 7 ∨ i = 8 ∨ i = 9 ∨ i = 10 ∨ i = 11 ∨ i = 12 ∨ i = 13 ∨ i = 14 ∨ i = 15 ∨ i = 16 ∨ i = 17 := by omega
      clear hi
      rcases hi2 with rfl | rfl | rfl | rfl | rfl | rfl | rfl | rfl | rfl | rfl | rfl | rfl | rfl | rfl | rfl | rfl | rfl | rfl
      · -- 0: Op.fieldAddr 39 (Operand.tmp 1) 1
        refine AnyO.Step.mk rfl [] (by kernel_rfl) ?_
        intro vs u hE hp ac hb K hK
        have s1 : ac.tmps[1]?.getD undef = .pointer (some ⟨b, 0, none⟩) := by rw [hb]; kernel_rfl
        rw [if_pos (AnyO.wanted_none rfl)]
        clear hb hp
        go_simp
        exact hK _ _ (Below.refl _ _) rfl
      · -- 1: Op.load 9 (Operand.tmp 13)
        refine AnyO.Step.mk rfl [0] (by kernel_rfl) ?_
        intro vs u hE hp ac hb K hK
        have s13 : ac.tmps[13]?.getD undef = .pointer (some ⟨b, 32, none⟩) := by rw [hb]; exact (show _ = vs 0 by kernel_rfl).trans (hp 0 (by decide))
        rw [if_pos (AnyO.wanted_none rfl)]
        clear hb hp
        obtain ⟨-, -, x1⟩ := rowX (HX4.out.1.keep (Below.step (below_drew _) hE))
        go_simp
        exact hK _ _ (Below.refl _ _) rfl
      · -- 2: Op.call { callee := Callee.builtin Builtin.len, args := #[Op
        refine AnyO.Step.mk rfl [1] (by kernel_rfl) ?_
        intro vs u hE hp ac hb K hK
        have s14 : ac.tmps[14]?.getD undef = .string x.text := by rw [hb]; exact (show _ = vs 1 by kernel_rfl).trans (hp 1 (by decide))
        rw [if_pos (AnyO.wanted_none rfl)]
        clear hb hp
        go_simp
        exact hK _ _ (Below.refl _ _) rfl
      · -- 3: Op.call { callee := Callee.value (Operand.func 47), args := 
        refine AnyO.Step.mk rfl [2] (by kernel_rfl) ?_
        intro vs u hE hp ac hb K hK
        have s15 : ac.tmps[15]?.getD undef = .int .i64 (x.text.size : Int) := by rw [hb]; exact (show _ = vs 2 by kernel_rfl).trans (hp 2 (by decide))
        rw [if_pos (AnyO.wanted_none rfl)]
        clear hb hp
        go_simp
        go_at_call 47
        refine (refDigits30 _ (by omega) (by have := HS.out; omega) u).mono ?_
        rintro e w2 ⟨rfl, hb2⟩
        exact hK _ _ hb2 (congrArg Value.string HD.out)
      · -- 4: Op.binOp BinOp.add 9 (Operand.const (Value.string { data := 
        refine AnyO.Step.mk rfl [3] (by kernel_rfl) ?_
        intro vs u hE hp ac hb K hK
        have s16 : ac.tmps[16]?.getD undef = .string D := by rw [hb]; exact (show _ = vs 3 by kernel_rfl).trans (hp 3 (by decide))
        rw [if_pos (AnyO.wanted_none rfl)]
        clear hb hp
        have x1 := HQ.out.1
        have x2 : ¬ 9223372036854775807 < 8 + D.size := by have := HZ.out.1; omega
        go_simp
        exact hK _ _ (Below.refl _ _) rfl
      · -- 5: Op.binOp BinOp.add 9 (Operand.tmp 17) (Operand.const (Value.
        refine AnyO.Step.mk rfl [4] (by kernel_rfl) ?_
        intro vs u hE hp ac hb K hK
        have s17 : ac.tmps[17]?.getD undef = .string s4 := by rw [hb]; exact (show _ = vs 4 by kernel_rfl).trans (hp 4 (by decide))
        rw [if_pos (AnyO.wanted_none rfl)]
        clear hb hp
        have x1 := HQ.out.2.1
        have x2 : ¬ 9223372036854775807 < s4.size + 1 := by have := HZ.out.2.1; omega
        go_simp
        exact hK _ _ (Below.refl _ _) rfl
      · -- 6: Op.slice 35 (Operand.tmp 3) none (some (Operand.const (Value
        refine AnyO.Step.mk rfl [] (by kernel_rfl) ?_
        intro vs u hE hp ac hb K hK
        have s3 : ac.tmps[3]?.getD undef = .pointer (some ⟨gd, 0, none⟩) := by rw [hb]; kernel_rfl
        rw [if_pos (AnyO.wanted_none rfl)]
        clear hb hp
        have x1 := slice_32 gd
        go_simp
        exact hK _ _ (Below.refl _ _) rfl
      · -- 7: Op.call { callee := Callee.value (Operand.func 48), args := 
        refine AnyO.Step.mk rfl [6, 3] (by kernel_rfl) ?_
        intro vs u hE hp ac hb K hK
        have s19 : ac.tmps[19]?.getD undef = .slice (some ⟨gd, 0, none⟩) 16 32 := by rw [hb]; exact (show _ = vs 6 by kernel_rfl).trans (hp 6 (by decide))
        rw [if_pos (AnyO.wanted_none rfl)]
        clear hb hp
        go_simp
        go_at_call 48
        refine (refHex34 (some ⟨gd, 0, none⟩) 32 16 ((sha (msgL x)).take 16) u (by rw [List.length_take, sha_length]; rfl) (HX4.out.2.1.keep (Below.step (below_drew _) hE)) (by omega)).mono ?_
        rintro e w2 ⟨rfl, hb2⟩
        exact hK _ _ hb2 (congrArg Value.string HG.out)
      · -- 8: Op.binOp BinOp.add 9 (Operand.tmp 18) (Operand.tmp 20) 9
        refine AnyO.Step.mk rfl [5, 7] (by kernel_rfl) ?_
        intro vs u hE hp ac hb K hK
        have s18 : ac.tmps[18]?.getD undef = .string s5 := by rw [hb]; exact (show _ = vs 5 by kernel_rfl).trans (hp 5 (by decide))
        have s20 : ac.tmps[20]?.getD undef = .string G := by rw [hb]; exact (show _ = vs 7 by kernel_rfl).trans (hp 7 (by decide))
        rw [if_pos (AnyO.wanted_none rfl)]
        clear hb hp
        have x1 := HQ.out.2.2.1
        have x2 : ¬ 9223372036854775807 < s5.size + G.size := by have := HZ.out.2.2.1; have := HZ.out.2.2.2.1; omega
        go_simp
        exact hK _ _ (Below.refl _ _) rfl
      · -- 9: Op.binOp BinOp.add 9 (Operand.tmp 21) (Operand.const (Value.
        refine AnyO.Step.mk rfl [8] (by kernel_rfl) ?_
        intro vs u hE hp ac hb K hK
        have s21 : ac.tmps[21]?.getD undef = .string s8 := by rw [hb]; exact (show _ = vs 8 by kernel_rfl).trans (hp 8 (by decide))
        rw [if_pos (AnyO.wanted_none rfl)]
        clear hb hp
        have x1 := HQ.out.2.2.2.1
        have x2 : ¬ 9223372036854775807 < s8.size + 1 := by have := HZ.out.2.2.2.2.1; omega
        go_simp
        exact hK _ _ (Below.refl _ _) rfl
      · -- 10: Op.fieldAddr 39 (Operand.tmp 1) 0
        refine AnyO.Step.mk rfl [] (by kernel_rfl) ?_
        intro vs u hE hp ac hb K hK
        have s1 : ac.tmps[1]?.getD undef = .pointer (some ⟨b, 0, none⟩) := by rw [hb]; kernel_rfl
        rw [if_pos (AnyO.wanted_none rfl)]
        clear hb hp
        go_simp
        exact hK _ _ (Below.refl _ _) rfl
      · -- 11: Op.load 36 (Operand.tmp 23)
        refine AnyO.Step.mk rfl [10] (by kernel_rfl) ?_
        intro vs u hE hp ac hb K hK
        have s23 : ac.tmps[23]?.getD undef = .pointer (some ⟨b, 0, none⟩) := by rw [hb]; exact (show _ = vs 10 by kernel_rfl).trans (hp 10 (by decide))
        rw [if_pos (AnyO.wanted_none rfl)]
        clear hb hp
        obtain ⟨-, ⟨x1, x2⟩, -⟩ := rowX (HX4.out.1.keep (Below.step (below_drew _) hE))
        go_simp
        exact hK _ _ (Below.refl _ _) rfl
      · -- 12: Op.call { callee := Callee.value (Operand.func 46), args := 
        refine AnyO.Step.mk rfl [11, 7] (by kernel_rfl) ?_
        intro vs u hE hp ac hb K hK
        have s24 : ac.tmps[24]?.getD undef = vI x.id := by rw [hb]; exact (show _ = vs 11 by kernel_rfl).trans (hp 11 (by decide))
        rw [if_pos (AnyO.wanted_none rfl)]
        clear hb hp
        go_simp
        go_at_call 46
        refine (rprint_b x.id u).mono ?_
        rintro e w2 ⟨rfl, hb2⟩
        exact hK _ _ hb2 (congrArg Value.string HT2.out)
      · -- 13: Op.binOp BinOp.add 9 (Operand.tmp 22) (Operand.tmp 25) 9
        refine AnyO.Step.mk rfl [9, 12] (by kernel_rfl) ?_
        intro vs u hE hp ac hb K hK
        have s22 : ac.tmps[22]?.getD undef = .string s9 := by rw [hb]; exact (show _ = vs 9 by kernel_rfl).trans (hp 9 (by decide))
        have s25 : ac.tmps[25]?.getD undef = .string T := by rw [hb]; exact (show _ = vs 12 by kernel_rfl).trans (hp 12 (by decide))
        rw [if_pos (AnyO.wanted_none rfl)]
        clear hb hp
        have x1 := HQ.out.2.2.2.2.1
        have x2 : ¬ 9223372036854775807 < s9.size + T.size := by have := HZ.out.2.2.2.2.2.1; have := HZ.out.2.2.2.2.2.2.1; omega
        go_simp
        exact hK _ _ (Below.refl _ _) rfl
      · -- 14: Op.binOp BinOp.add 9 (Operand.tmp 26) (Operand.const (Value.
        refine AnyO.Step.mk rfl [13] (by kernel_rfl) ?_
        intro vs u hE hp ac hb K hK
        have s26 : ac.tmps[26]?.getD undef = .string s13 := by rw [hb]; exact (show _ = vs 13 by kernel_rfl).trans (hp 13 (by decide))
        rw [if_pos (AnyO.wanted_none rfl)]
        clear hb hp
        have x1 := HQ.out.2.2.2.2.2.1
        have x2 : ¬ 9223372036854775807 < s13.size + 1 := by have := HZ.out.2.2.2.2.2.2.2.1; omega
        go_simp
        exact hK _ _ (Below.refl _ _) rfl
      · -- 15: Op.fieldAddr 39 (Operand.tmp 1) 1
        refine AnyO.Step.mk rfl [] (by kernel_rfl) ?_
        intro vs u hE hp ac hb K hK
        have s1 : ac.tmps[1]?.getD undef = .pointer (some ⟨b, 0, none⟩) := by rw [hb]; kernel_rfl
        rw [if_pos (AnyO.wanted_none rfl)]
        clear hb hp
        go_simp
        exact hK _ _ (Below.refl _ _) rfl
      · -- 16: Op.load 9 (Operand.tmp 28)
        refine AnyO.Step.mk rfl [15] (by kernel_rfl) ?_
        intro vs u hE hp ac hb K hK
        have s28 : ac.tmps[28]?.getD undef = .pointer (some ⟨b, 32, none⟩) := by rw [hb]; exact (show _ = vs 15 by kernel_rfl).trans (hp 15 (by decide))
        rw [if_pos (AnyO.wanted_none rfl)]
        clear hb hp
        obtain ⟨-, -, x1⟩ := rowX (HX4.out.1.keep (Below.step (below_drew _) hE))
        go_simp
        exact hK _ _ (Below.refl _ _) rfl
      · -- 17: Op.binOp BinOp.add 9 (Operand.tmp 27) (Operand.tmp 29) 9
        refine AnyO.Step.mk rfl [14, 16] (by kernel_rfl) ?_
        intro vs u hE hp ac hb K hK
        have s27 : ac.tmps[27]?.getD undef = .string s14 := by rw [hb]; exact (show _ = vs 14 by kernel_rfl).trans (hp 14 (by decide))
        have s29 : ac.tmps[29]?.getD undef = .string x.text := by rw [hb]; exact (show _ = vs 16 by kernel_rfl).trans (hp 16 (by decide))
        rw [if_pos (AnyO.wanted_none rfl)]
        clear hb hp
        have x1 := HQ.out.2.2.2.2.2.2.1
        have x2 : ¬ 9223372036854775807 < s14.size + x.text.size := by have := HZ.out.2.2.2.2.2.2.2.2.1; have := HS.out; omega
        go_simp
        exact hK _ _ (Below.refl _ _) rfl
    · intro vs u hE hp
      have e0 : vs 0 = .pointer (some ⟨b, 32, none⟩) := hp 0 (by decide)
      have e1 : vs 1 = .string x.text := hp 1 (by decide)
      have e2 : vs 2 = .int .i64 (x.text.size : Int) := hp 2 (by decide)
      have e3 : vs 3 = .string D := hp 3 (by decide)
      have e4 : vs 4 = .string s4 := hp 4 (by decide)
      have e5 : vs 5 = .string s5 := hp 5 (by decide)
      have e6 : vs 6 = .slice (some ⟨gd, 0, none⟩) 16 32 := hp 6 (by decide)
      have e7 : vs 7 = .string G := hp 7 (by decide)
      have e8 : vs 8 = .string s8 := hp 8 (by decide)
      have e9 : vs 9 = .string s9 := hp 9 (by decide)
      have e10 : vs 10 = .pointer (some ⟨b, 0, none⟩) := hp 10 (by decide)
      have e11 : vs 11 = vI x.id := hp 11 (by decide)
      have e12 : vs 12 = .string T := hp 12 (by decide)
      have e13 : vs 13 = .string s13 := hp 13 (by decide)
      have e14 : vs 14 = .string s14 := hp 14 (by decide)
      have e15 : vs 15 = .pointer (some ⟨b, 32, none⟩) := hp 15 (by decide)
      have e16 : vs 16 = .string x.text := hp 16 (by decide)
      have e17 : vs 17 = .string s15 := hp 17 (by decide)
      clear hp
      have HE := Lib.hid hE; clear hE
      rw [puts_range [some 13, some 14, some 15, some 16, some 17, some 18, some 19, some 20, some 21, some 22, some 23, some 24, some 25, some 26, some 27, some 28, some 29, some 30] (by kernel_rfl)]
      simp only [putL, Nat.reduceAdd, List.drop_succ_cons, List.drop_zero, e0, e1, e2, e3, e4, e5, e6, e7, e8, e9, e10, e11, e12, e13, e14, e15, e16, e17]
      clear e0 e1 e2 e3 e4 e5 e6 e7 e8 e9 e10 e11 e12 e13 e14 e15 e16 e17
      go_simp
      have x2 : ¬ 9223372036854775807 < s15.size + 1 := by have := HZ.out.2.2.2.2.2.2.2.2.2; omega
      have x1 := HQ.out.2.2.2.2.2.2.2
      go_wp2
      go_ret
      exact ⟨congrArg (fun s => Ending.returned (.string s)) HR.out, HX4.out.2.2.trans (HE.out.mono HX4.out.2.2.size)⟩
end Go.Proofs.YtecalodcbkljoaaGreatDoor
namespace Go.Proofs.YtecalodcbkljoaaGreatDoor
open Go.RowKit
theorem batT_step (l : List It) (t : Nat) (x : It) (h : t < l.length) (hx : l[t] = x) : packT l (t + 1) = packT l t ++ itL x := by
  unfold packT
  rw [List.take_succ_eq_append_getElem h, hx, List.flatMap_append]
  simp
theorem sumN_big (l : List It) (h : ∀ x ∈ l, x.text.size ≤ 1000000) : sumN l ≤ l.length * 1000200 := by
  induction l with
  | nil => simp [sumN]
  | cons x r ih =>
    have h1 := h x List.mem_cons_self
    have h2 := ih fun y hy => h y (List.mem_cons_of_mem _ hy)
    have h3 : itN x ≤ 1000200 := by
      unfold itN
      have := itoa_len 10 x.text.size (by omega) (by omega)
      omega
    have h4 : sumN (x :: r) = itN x + sumN r := by simp [sumN]
    rw [h4, List.length_cons, Nat.succ_mul]
    omega
theorem batL_big (l : List It) (hn : l.length ≤ 1000) (h : ∀ x ∈ l, x.text.size ≤ 1000000) : (batL l).length ≤ 1000200100 := by
  have h1 := sumN_big l h
  have h2 := itoa_len 4 l.length (by decide) (by omega)
  rw [batL_len]
  unfold sizeN
  omega
set_option maxRecDepth 100000 in
set_option maxHeartbeats 3200000 in
theorem rtext_b (A : Option Addr) (c : Nat) (l : List It) (w : World) (hs : Sl w cX A l) (hn : l.length ≤ 1000) (hx : ∀ x ∈ l, x.text.size ≤ 1000000) :
    Calls Tryz.prog 28 #[.slice A l.length c] w fun e w' => e = .returned (.string (batS l)) ∧ Below w.heap.size w w' := by
  obtain ⟨D, hD⟩ : ∃ D : ByteArray, itS (l.length : Int) = D := ⟨_, rfl⟩
  have z0 : D.size ≤ 10 := by rw [← hD]; exact itoa_size _ (by omega)
  have HF := Lib.hid (show ((⟨#[98, 97, 116, 99, 104, 32]⟩ : ByteArray) ++ D) ++ ⟨#[10]⟩ = mkS (packT l 0) from by
    apply bl_inj
    rw [← hD, bl_mkS]
    simp only [bl_app]
    show ([98, 97, 116, 99, 104, 32] ++ Lib.itoa (l.length : Int)) ++ [10] = packT l 0
    unfold packT firstL
    simp)
  have HD := Lib.hid (And.intro hD z0)
  have HX := Lib.hid (And.intro hs (And.intro hn hx))
  have hz1 : ¬ 9223372036854775807 < 6 + D.size := by omega
  have hz2 : ¬ 9223372036854775807 < 6 + D.size + 1 := by omega
  clear hs hn hx hD z0
  go_enter Tryz.func28, Tryz.ntmps28
  go_wp2_with (go_at_call 47; refine (refDigits30 _ (by omega) (by have := HX.out.2.1; omega) _).mono ?_; rintro e w1 ⟨rfl, hb1⟩; rw [HD.out.1]; have H1 := Lib.hid hb1; clear hb1)
  rw [HF.out]
  clear hz1 hz2
  have HBG := Lib.hid (batL_big l HX.out.2.1 HX.out.2.2)
  go_loopw [3, 4] (fun v i wr => ∃ t : Nat, t ≤ l.length ∧ i = .int .i64 (t : Int) ∧ v = .string (mkS (packT l t)) ∧ Below w.heap.size w wr) (fun _ i _ => l.length - (intOf i).toNat)
  case atStart => exact ⟨0, Nat.zero_le _, rfl, rfl, H1.out⟩
  case round =>
    obtain ⟨t, ht, rfl, rfl, hb⟩ := hrel
    have HB := Lib.hid hb
    clear hb
    by_cases hlt : t < l.length
    · obtain ⟨ad, rfl, hat⟩ := Sl.at_ cX_length (HX.out.1.keep HB.out) hlt
      obtain ⟨x, hxe⟩ : ∃ x, l[t] = x := ⟨_, rfl⟩
      rw [hxe] at hat
      have hok := hat.ok
      have hrd := hat.rd
      rw [cX_length] at hok hrd
      change rdA wr (ad.add (t * 33)) 33 = vX x at hrd
      have hlti : (t : Int) < (l.length : Int) := by omega
      have hlt9 : (t : Int) < 1000 := by have := HX.out.2.1; omega
      have HM := Lib.hid (show x.text.size ≤ 1000000 from HX.out.2.2 x (by rw [← hxe]; exact List.getElem_mem _))
      have HST := Lib.hid (batT_step l t x hlt hxe)
      have hz : ¬ 9223372036854775807 < (mkS (packT l t)).size + (itS1 x).size := by
        have h1 := packT_len l (t + 1)
        have h2 := HBG.out
        rw [HST.out, List.length_append] at h1
        have h3 : (mkS (packT l t)).size = (packT l t).length := by rw [← bl_length, bl_mkS]
        have h4 : (itS1 x).size = (itL x).length := by rw [← bl_length]; rfl
        omega
      clear hat hxe
      go_wp2_with (go_at_call 19; refine (ritem_b x _ HM.out).mono ?_; rintro e w2 ⟨rfl, hb2⟩; have H2 := Lib.hid (Below.step HB.out hb2); clear hb2)
      go_roundw
      case rel => exact ⟨t + 1, hlt, by go_num, by rw [HST.out]; exact congrArg Value.string (mk_append _ _), H2.out⟩
      case measure => simp [intOf]; omega
    · obtain rfl : t = l.length := by omega
      have HA := Lib.hid (show mkS (packT l l.length) ++ (⟨#[101, 110, 100, 10]⟩ : ByteArray) = batS l from by
        apply bl_inj
        rw [bl_app, bl_mkS, bl_batS, ← packT_all]
        rfl)
      have hz : ¬ 9223372036854775807 < (mkS (packT l l.length)).size + 4 := by
        have h1 := packT_len l l.length
        have h2 := HBG.out
        have h3 : (mkS (packT l l.length)).size = (packT l l.length).length := by rw [← bl_length, bl_mkS]
        omega
      clear hlt ht
      go_wp2
      go_ret
      exact ⟨by rw [← HA.out]; rfl, HB.out⟩
end Go.Proofs.YtecalodcbkljoaaGreatDoor
