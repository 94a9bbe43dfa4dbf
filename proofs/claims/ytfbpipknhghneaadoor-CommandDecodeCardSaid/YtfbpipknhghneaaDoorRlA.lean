/- The reference's line and Encode. The reference's Encode. -/
import Derived.Test.YtfbpipknhghneaaDoorRchk
import Derived.Test.YtfbpipknhghneaaDoorRpA
import Derived.Test.YtfbpipknhghneaaDoorTxA
namespace Go.Proofs.YtfbpipknhghneaaDoor
section
open Go.RowKit
theorem join1 (a : List UInt8) : Lib.join [a] [32] = a := Lib.join_one a _
theorem joinS (a b : List UInt8) (r : List (List UInt8)) : Lib.join (a :: b :: r) [32] = a ++ 32 :: Lib.join (b :: r) [32] := by
  rw [Lib.join_cons, Lib.join_cons]
  unfold Lib.joinTail
  simp
/-- What is printed of a valid command stands in its form. -/
theorem canon_v (c : Cm) (h : chk c = 0) (fl : Int) (hf : (formC c).2.1 = fl) : Canon c fl := hf ▸ canon c h
def LineP (c : Cm) (w : World) : Ending → World → Prop := fun e w' => ∃ t, e = .returned (.string t) ∧ bl t = lineC c ∧ Below w.heap.size w w'
theorem lineC_v1 (c : Cm) (hv : c.verb = 1) : bl (((⟨#[104, 101, 108, 108, 111]⟩ ++ ⟨#[32]⟩) ++ c.name) ++ ⟨#[32]⟩ ++ itoaB c.count) = lineC c := by
  have hf : formC c = (⟨#[104, 101, 108, 108, 111]⟩, 17, 0) := by unfold formC; rw [hv]; rfl
  unfold lineC
  rw [words_all, hf, if_pos (by decide), if_neg (by decide), if_neg (by decide), if_neg (by decide), if_pos (by decide), if_neg (by decide)]
  simp only [List.nil_append, List.cons_append, List.map_cons, List.map_nil, joinS, join1, bl_app, List.append_assoc]
  rfl
set_option maxRecDepth 100000 in
set_option maxHeartbeats 3200000 in
theorem line49_v1 (c : Cm) (hv : c.verb = 1) (h : chk c = 0) (w : World) : Calls Tryd.prog 49 #[vC c] w (LineP c w) := by
  obtain ⟨b, hb⟩ : ∃ b, w.heap.size = b := ⟨_, rfl⟩
  have HB1 := Lib.hid (below_alloc w (.cells (aC c) 31))
  have HR1 := Lib.hid (show Row (w.alloc (.cells (aC c) 31)) b (cC c) 31 by rw [← hb]; exact Row.new w (cC c) 31)
  obtain ⟨W1, hW1⟩ : ∃ W1, w.alloc (.cells (aC c) 31) = W1 := ⟨_, rfl⟩
  rw [hW1] at HB1 HR1
  have hbx : (bxA 31 (vC c)).run Tryd.prog w = .ok (.pointer (some ⟨b, 0, none⟩)) W1 := by rw [run_bx31, hW1, hb]
  have HX := Lib.hid (lineC_v1 c hv)
  have hc := canon_v c h 17 (by unfold formC; rw [hv]; rfl)
  have c0 : ∀ wx, Below W1.heap.size W1 wx → wx.cell? ⟨b, 0, none⟩ = some (.int .i64 1) := fun wx hx => by rw [← hv]; exact (HR1.out.keep hx).cell 0
  have C0 := Lib.hid c0
  have c0 := c0 W1 (Below.refl _ _)
  have H24 := Lib.hid (fun w1 => name24 1 w1)
  rw [show nmB 1 = ⟨#[104, 101, 108, 108, 111]⟩ from rfl] at H24
  have hs : c.name.size ≤ 30 := by rw [← bl_length]; exact (site_word _ (hc.site (by decide))).2
  have C1 := Lib.hid (show ∀ wx, Below W1.heap.size W1 wx → wx.cell? ⟨b, 1, none⟩ = some (.string c.name) from fun wx hx => (HR1.out.keep hx).cell 1)
  obtain ⟨r1, r2⟩ := hc.countr (by decide)
  have his : (itoaB c.count).size ≤ 21 := itoaB_size c.count ⟨by omega, by omega⟩
  have H75 := Lib.hid (fun w1 => decimal75 c.count (by omega) (by omega) w1)
  have CN := Lib.hid (show ∀ wx, Below W1.heap.size W1 wx → wx.cell? ⟨b, 36, none⟩ = some (.int .i64 c.count) from fun wx hx => ((HR1.out.keep hx).cell 36).trans (cC_at (aC_36 c)))
  clear r1 r2
  have HV := Lib.hid hv
  clear hv h hc
  have HS := Lib.hid (And.intro hs his)
  clear hs his
  go_enter Tryd.func49, Tryd.ntmps49
  go_wp2_with (go_at_call 24; refine (H24.out _).mono ?_; rintro e w1 ⟨rfl, hb1⟩; have c0 := C0.out _ hb1; have H1 := Lib.hid hb1; clear hb1)
  refine AnyO.wp_any (by kernel_rfl) (by kernel_rfl) (pstP [isV (.string ⟨#[104, 101, 108, 108, 111]⟩), isV (.string ⟨#[104, 101, 108, 108, 111, 32]⟩), isV (.pointer (some ⟨b, 1, none⟩)), isV (.string c.name), isV (.string ((⟨#[104, 101, 108, 108, 111, 32]⟩ : ByteArray) ++ c.name)), isV (.string ((⟨#[104, 101, 108, 108, 111, 32]⟩ : ByteArray) ++ c.name ++ ⟨#[32]⟩)), isV (.pointer (some ⟨b, 36, none⟩)), isV (.int .i64 c.count), isV (.string (itoaB c.count)), isV (.string ((⟨#[104, 101, 108, 108, 111, 32]⟩ : ByteArray) ++ c.name ++ ⟨#[32]⟩ ++ itoaB c.count)), isV (.string ((⟨#[104, 101, 108, 108, 111, 32]⟩ : ByteArray) ++ c.name ++ ⟨#[32]⟩ ++ itoaB c.count))]) (MonoL.cons (Mono.v _) (MonoL.cons (Mono.v _) (MonoL.cons (Mono.v _) (MonoL.cons (Mono.v _) (MonoL.cons (Mono.v _) (MonoL.cons (Mono.v _) (MonoL.cons (Mono.v _) (MonoL.cons (Mono.v _) (MonoL.cons (Mono.v _) (MonoL.cons (Mono.v _) (MonoL.cons (Mono.v _) MonoL.nil))))))))))) ?_ ?_
  · intro i hi
    have hi2 : i = 0 ∨ i = 1 ∨ i = 2 ∨ i = 3 ∨ i = 4 ∨ i = 5 ∨ i = 6 ∨ i = 7 ∨ i = 8 ∨ i = 9 ∨ i = 10 := by simp only [List.size_toArray, List.length_cons, List.length_nil] at hi; omega
    clear hi
    rcases hi2 with rfl | rfl | rfl | rfl | rfl | rfl | rfl | rfl | rfl | rfl | rfl
    · -- 0: Op.move (Operand.tmp 3)
      refine AnyO.Step.mk rfl [] (by kernel_rfl) ?_
      intro vs u hE hp ac hb K hK
      have s3 : ac.tmps[3]?.getD undef = .string ⟨#[104, 101, 108, 108, 111]⟩ := by rw [hb]; kernel_rfl
      rw [if_pos (AnyO.wanted_none rfl)]
      clear hb hp
      go_simp
      exact hK _ _ (Below.refl _ _) rfl
    · -- 1: Op.binOp BinOp.add 9 (Operand.tmp 10) (Operand.const (Value.
      refine AnyO.Step.mk rfl [0] (by kernel_rfl) ?_
      intro vs u hE hp ac hb K hK
      have s10 : ac.tmps[10]?.getD undef = .string ⟨#[104, 101, 108, 108, 111]⟩ := by rw [hb]; exact (show _ = vs 0 by kernel_rfl).trans (hp 0 (by decide))
      rw [if_pos (AnyO.wanted_none rfl)]
      clear hb hp
      go_simp
      exact hK _ _ (Below.refl _ _) rfl
    · -- 2: Op.fieldAddr 31 (Operand.tmp 1) 1
      refine AnyO.Step.mk rfl [] (by kernel_rfl) ?_
      intro vs u hE hp ac hb K hK
      have s1 : ac.tmps[1]?.getD undef = .pointer (some ⟨b, 0, none⟩) := by rw [hb]; kernel_rfl
      rw [if_pos (AnyO.wanted_none rfl)]
      clear hb hp
      go_simp
      exact hK _ _ (Below.refl _ _) rfl
    · -- 3: Op.load 9 (Operand.tmp 12)
      refine AnyO.Step.mk rfl [2] (by kernel_rfl) ?_
      intro vs u hE hp ac hb K hK
      have s12 : ac.tmps[12]?.getD undef = .pointer (some ⟨b, 1, none⟩) := by rw [hb]; exact (show _ = vs 2 by kernel_rfl).trans (hp 2 (by decide))
      rw [if_pos (AnyO.wanted_none rfl)]
      clear hb hp
      have rr := C1.out _ (Below.step H1.out (Below.step (below_drew _) hE))
      go_simp
      exact hK _ _ (Below.refl _ _) rfl
    · -- 4: Op.binOp BinOp.add 9 (Operand.tmp 11) (Operand.tmp 13) 9
      refine AnyO.Step.mk rfl [1, 3] (by kernel_rfl) ?_
      intro vs u hE hp ac hb K hK
      have s11 : ac.tmps[11]?.getD undef = .string ⟨#[104, 101, 108, 108, 111, 32]⟩ := by rw [hb]; exact (show _ = vs 1 by kernel_rfl).trans (hp 1 (by decide))
      have s13 : ac.tmps[13]?.getD undef = .string c.name := by rw [hb]; exact (show _ = vs 3 by kernel_rfl).trans (hp 3 (by decide))
      rw [if_pos (AnyO.wanted_none rfl)]
      clear hb hp
      have r1 : ¬ 9223372036854775807 < 6 + c.name.size := by have := HS.out.1; omega
      go_simp
      exact hK _ _ (Below.refl _ _) rfl
    · -- 5: Op.binOp BinOp.add 9 (Operand.tmp 14) (Operand.const (Value.
      refine AnyO.Step.mk rfl [4] (by kernel_rfl) ?_
      intro vs u hE hp ac hb K hK
      have s14 : ac.tmps[14]?.getD undef = .string ((⟨#[104, 101, 108, 108, 111, 32]⟩ : ByteArray) ++ c.name) := by rw [hb]; exact (show _ = vs 4 by kernel_rfl).trans (hp 4 (by decide))
      rw [if_pos (AnyO.wanted_none rfl)]
      clear hb hp
      have r1 : ¬ 9223372036854775807 < 6 + c.name.size + 1 := by have := HS.out.1; omega
      go_simp
      exact hK _ _ (Below.refl _ _) rfl
    · -- 6: Op.fieldAddr 31 (Operand.tmp 1) 5
      refine AnyO.Step.mk rfl [] (by kernel_rfl) ?_
      intro vs u hE hp ac hb K hK
      have s1 : ac.tmps[1]?.getD undef = .pointer (some ⟨b, 0, none⟩) := by rw [hb]; kernel_rfl
      rw [if_pos (AnyO.wanted_none rfl)]
      clear hb hp
      go_simp
      exact hK _ _ (Below.refl _ _) rfl
    · -- 7: Op.load 3 (Operand.tmp 16)
      refine AnyO.Step.mk rfl [6] (by kernel_rfl) ?_
      intro vs u hE hp ac hb K hK
      have s16 : ac.tmps[16]?.getD undef = .pointer (some ⟨b, 36, none⟩) := by rw [hb]; exact (show _ = vs 6 by kernel_rfl).trans (hp 6 (by decide))
      rw [if_pos (AnyO.wanted_none rfl)]
      clear hb hp
      have rr := CN.out _ (Below.step H1.out (Below.step (below_drew _) hE))
      go_simp
      exact hK _ _ (Below.refl _ _) rfl
    · -- 8: Op.call { callee := Callee.value (Operand.func 75), args := 
      refine AnyO.Step.mk rfl [7] (by kernel_rfl) ?_
      intro vs u hE hp ac hb K hK
      have s17 : ac.tmps[17]?.getD undef = .int .i64 c.count := by rw [hb]; exact (show _ = vs 7 by kernel_rfl).trans (hp 7 (by decide))
      rw [if_pos (AnyO.wanted_none rfl)]
      clear hb hp
      go_simp
      go_at_call 75
      refine (H75.out _).mono ?_
      rintro e w2 ⟨rfl, hb2⟩
      exact hK _ _ hb2 rfl
    · -- 9: Op.binOp BinOp.add 9 (Operand.tmp 15) (Operand.tmp 18) 9
      refine AnyO.Step.mk rfl [5, 8] (by kernel_rfl) ?_
      intro vs u hE hp ac hb K hK
      have s15 : ac.tmps[15]?.getD undef = .string ((⟨#[104, 101, 108, 108, 111, 32]⟩ : ByteArray) ++ c.name ++ ⟨#[32]⟩) := by rw [hb]; exact (show _ = vs 5 by kernel_rfl).trans (hp 5 (by decide))
      have s18 : ac.tmps[18]?.getD undef = .string (itoaB c.count) := by rw [hb]; exact (show _ = vs 8 by kernel_rfl).trans (hp 8 (by decide))
      rw [if_pos (AnyO.wanted_none rfl)]
      clear hb hp
      have r1 : ¬ 9223372036854775807 < 6 + c.name.size + 1 + (itoaB c.count).size := by have := HS.out.1; have := HS.out.2; omega
      go_simp
      exact hK _ _ (Below.refl _ _) rfl
    · -- 10: Op.assign (Operand.tmp 19)
      refine AnyO.Step.mk rfl [9, 8, 0, 1, 2, 3, 4, 5, 6, 7, 8, 9] (by kernel_rfl) ?_
      intro vs u hE hp ac hb K hK
      have s19 : ac.tmps[19]?.getD undef = .string ((⟨#[104, 101, 108, 108, 111, 32]⟩ : ByteArray) ++ c.name ++ ⟨#[32]⟩ ++ itoaB c.count) := by rw [hb]; exact (show _ = vs 9 by kernel_rfl).trans (hp 9 (by decide))
      rw [if_pos (AnyO.wanted_none rfl)]
      clear hb hp
      go_simp
      exact hK _ _ (Below.refl _ _) rfl
  · intro vs u hE hp
    have e0 : vs 0 = .string ⟨#[104, 101, 108, 108, 111]⟩ := hp 0 (by decide)
    have e1 : vs 1 = .string ⟨#[104, 101, 108, 108, 111, 32]⟩ := hp 1 (by decide)
    have e2 : vs 2 = .pointer (some ⟨b, 1, none⟩) := hp 2 (by decide)
    have e3 : vs 3 = .string c.name := hp 3 (by decide)
    have e4 : vs 4 = .string ((⟨#[104, 101, 108, 108, 111, 32]⟩ : ByteArray) ++ c.name) := hp 4 (by decide)
    have e5 : vs 5 = .string ((⟨#[104, 101, 108, 108, 111, 32]⟩ : ByteArray) ++ c.name ++ ⟨#[32]⟩) := hp 5 (by decide)
    have e6 : vs 6 = .pointer (some ⟨b, 36, none⟩) := hp 6 (by decide)
    have e7 : vs 7 = .int .i64 c.count := hp 7 (by decide)
    have e8 : vs 8 = .string (itoaB c.count) := hp 8 (by decide)
    have e9 : vs 9 = .string ((⟨#[104, 101, 108, 108, 111, 32]⟩ : ByteArray) ++ c.name ++ ⟨#[32]⟩ ++ itoaB c.count) := hp 9 (by decide)
    have e10 : vs 10 = .string ((⟨#[104, 101, 108, 108, 111, 32]⟩ : ByteArray) ++ c.name ++ ⟨#[32]⟩ ++ itoaB c.count) := hp 10 (by decide)
    clear hp
    have HE := Lib.hid hE
    clear hE
    rw [puts_range [some 10, some 11, some 12, some 13, some 14, some 15, some 16, some 17, some 18, some 19, some 2] (by kernel_rfl)]
    simp only [putL, Nat.reduceAdd, e0, e1, e2, e3, e4, e5, e6, e7, e8, e9, e10]
    clear e0 e1 e2 e3 e4 e5 e6 e7 e8 e9 e10
    go_simp
    go_wp2
    go_ret
    exact ⟨_, rfl, HX.out, Below.trans HB1.out ((Below.step H1.out HE.out).mono HB1.out.size)⟩
theorem lineC_v2 (c : Cm) (hv : c.verb = 2) : bl (⟨#[111, 102, 102, 101, 114]⟩ ++ ⟨#[32]⟩ ++ textS c.id ++ ⟨#[32]⟩ ++ itoaB c.size) = lineC c := by
  have hf : formC c = (⟨#[111, 102, 102, 101, 114]⟩, 6, 0) := by unfold formC; rw [hv]; rfl
  unfold lineC
  rw [words_all, hf, if_neg (by decide), if_pos (by decide), if_pos (by decide), if_neg (by decide), if_neg (by decide), if_neg (by decide)]
  simp only [List.nil_append, List.cons_append, List.map_cons, List.map_nil, joinS, join1, bl_app, List.append_assoc]
  rfl
set_option maxRecDepth 100000 in
set_option maxHeartbeats 3200000 in
theorem line49_v2 (c : Cm) (hv : c.verb = 2) (h : chk c = 0) (w : World) : Calls Tryd.prog 49 #[vC c] w (LineP c w) := by
  obtain ⟨b, hb⟩ : ∃ b, w.heap.size = b := ⟨_, rfl⟩
  have HB1 := Lib.hid (below_alloc w (.cells (aC c) 31))
  have HR1 := Lib.hid (show Row (w.alloc (.cells (aC c) 31)) b (cC c) 31 by rw [← hb]; exact Row.new w (cC c) 31)
  obtain ⟨W1, hW1⟩ : ∃ W1, w.alloc (.cells (aC c) 31) = W1 := ⟨_, rfl⟩
  rw [hW1] at HB1 HR1
  have hbx : (bxA 31 (vC c)).run Tryd.prog w = .ok (.pointer (some ⟨b, 0, none⟩)) W1 := by rw [run_bx31, hW1, hb]
  have HX := Lib.hid (lineC_v2 c hv)
  have hc := canon_v c h 6 (by unfold formC; rw [hv]; rfl)
  have c0 : ∀ wx, Below W1.heap.size W1 wx → wx.cell? ⟨b, 0, none⟩ = some (.int .i64 2) := fun wx hx => by rw [← hv]; exact (HR1.out.keep hx).cell 0
  have C0 := Lib.hid c0
  have c0 := c0 W1 (Below.refl _ _)
  have H24 := Lib.hid (fun w1 => name24 2 w1)
  rw [show nmB 2 = ⟨#[111, 102, 102, 101, 114]⟩ from rfl] at H24
  have hts := textS_size c.id
  have C2 := Lib.hid (show ∀ wx, Below W1.heap.size W1 wx → okA wx ⟨b, 2, none⟩ 32 = true ∧ rdA wx ⟨b, 2, none⟩ 32 = vI c.id from fun wx hx => (HR1.out.keep hx).idC)
  obtain ⟨r1, r2⟩ := hc.sizer (by decide)
  have his : (itoaB c.size).size ≤ 21 := itoaB_size c.size ⟨by omega, by omega⟩
  have H75 := Lib.hid (fun w1 => decimal75 c.size (by omega) (by omega) w1)
  have CN := Lib.hid (show ∀ wx, Below W1.heap.size W1 wx → wx.cell? ⟨b, 34, none⟩ = some (.int .i64 c.size) from fun wx hx => ((HR1.out.keep hx).cell 34).trans (cC_at (aC_34 c)))
  clear r1 r2
  have HV := Lib.hid hv
  clear hv h hc
  go_enter Tryd.func49, Tryd.ntmps49
  go_wp2_with (first
    | (go_at_call 24; refine (H24.out _).mono ?_; rintro e w1 ⟨rfl, hb1⟩; have c0 := C0.out _ hb1; have c2 := C2.out _ hb1; obtain ⟨i1, i2⟩ := c2;have H1 := Lib.hid hb1; clear hb1)
    | (go_at_call 76; refine (refPrint76 c.id _).mono ?_; rintro e w2 ⟨rfl, hb2⟩; have c0 := C0.out _ (Below.step H1.out hb2); have cN := CN.out _ (Below.step H1.out hb2); have H2 := Lib.hid (Below.step H1.out hb2); clear hb2)
    | (go_at_call 75; refine (H75.out _).mono ?_; rintro e w3 ⟨rfl, hb3⟩; have H3 := Lib.hid (Below.step H2.out hb3); clear hb3))
  go_ret
  exact ⟨_, rfl, HX.out, Below.trans HB1.out (H3.out.mono HB1.out.size)⟩
theorem lineC_v3 (c : Cm) (hv : c.verb = 3) : bl (⟨#[119, 97, 110, 116]⟩ ++ ⟨#[32]⟩ ++ textS c.id ++ ⟨#[32]⟩ ++ itoaB c.from_) = lineC c := by
  have hf : formC c = (⟨#[119, 97, 110, 116]⟩, 10, 0) := by unfold formC; rw [hv]; rfl
  unfold lineC
  rw [words_all, hf, if_neg (by decide), if_pos (by decide), if_neg (by decide), if_pos (by decide), if_neg (by decide), if_neg (by decide)]
  simp only [List.nil_append, List.cons_append, List.map_cons, List.map_nil, joinS, join1, bl_app, List.append_assoc]
  rfl
set_option maxRecDepth 100000 in
set_option maxHeartbeats 3200000 in
theorem line49_v3 (c : Cm) (hv : c.verb = 3) (h : chk c = 0) (w : World) : Calls Tryd.prog 49 #[vC c] w (LineP c w) := by
  obtain ⟨b, hb⟩ : ∃ b, w.heap.size = b := ⟨_, rfl⟩
  have HB1 := Lib.hid (below_alloc w (.cells (aC c) 31))
  have HR1 := Lib.hid (show Row (w.alloc (.cells (aC c) 31)) b (cC c) 31 by rw [← hb]; exact Row.new w (cC c) 31)
  obtain ⟨W1, hW1⟩ : ∃ W1, w.alloc (.cells (aC c) 31) = W1 := ⟨_, rfl⟩
  rw [hW1] at HB1 HR1
  have hbx : (bxA 31 (vC c)).run Tryd.prog w = .ok (.pointer (some ⟨b, 0, none⟩)) W1 := by rw [run_bx31, hW1, hb]
  have HX := Lib.hid (lineC_v3 c hv)
  have hc := canon_v c h 10 (by unfold formC; rw [hv]; rfl)
  have c0 : ∀ wx, Below W1.heap.size W1 wx → wx.cell? ⟨b, 0, none⟩ = some (.int .i64 3) := fun wx hx => by rw [← hv]; exact (HR1.out.keep hx).cell 0
  have C0 := Lib.hid c0
  have c0 := c0 W1 (Below.refl _ _)
  have H24 := Lib.hid (fun w1 => name24 3 w1)
  rw [show nmB 3 = ⟨#[119, 97, 110, 116]⟩ from rfl] at H24
  have hts := textS_size c.id
  have C2 := Lib.hid (show ∀ wx, Below W1.heap.size W1 wx → okA wx ⟨b, 2, none⟩ 32 = true ∧ rdA wx ⟨b, 2, none⟩ 32 = vI c.id from fun wx hx => (HR1.out.keep hx).idC)
  obtain ⟨r1, r2⟩ := hc.fromr (by decide)
  have his : (itoaB c.from_).size ≤ 21 := itoaB_size c.from_ ⟨by omega, by omega⟩
  have H75 := Lib.hid (fun w1 => decimal75 c.from_ (by omega) (by omega) w1)
  have CN := Lib.hid (show ∀ wx, Below W1.heap.size W1 wx → wx.cell? ⟨b, 35, none⟩ = some (.int .i64 c.from_) from fun wx hx => ((HR1.out.keep hx).cell 35).trans (cC_at (aC_35 c)))
  clear r1 r2
  have HV := Lib.hid hv
  clear hv h hc
  go_enter Tryd.func49, Tryd.ntmps49
  go_wp2_with (first
    | (go_at_call 24; refine (H24.out _).mono ?_; rintro e w1 ⟨rfl, hb1⟩; have c0 := C0.out _ hb1; have c2 := C2.out _ hb1; obtain ⟨i1, i2⟩ := c2;have H1 := Lib.hid hb1; clear hb1)
    | (go_at_call 76; refine (refPrint76 c.id _).mono ?_; rintro e w2 ⟨rfl, hb2⟩; have c0 := C0.out _ (Below.step H1.out hb2); have cN := CN.out _ (Below.step H1.out hb2); have H2 := Lib.hid (Below.step H1.out hb2); clear hb2)
    | (go_at_call 75; refine (H75.out _).mono ?_; rintro e w3 ⟨rfl, hb3⟩; have H3 := Lib.hid (Below.step H2.out hb3); clear hb3))
  go_ret
  exact ⟨_, rfl, HX.out, Below.trans HB1.out (H3.out.mono HB1.out.size)⟩
theorem lineC_v4 (c : Cm) (hv : c.verb = 4) : bl (⟨#[104, 97, 118, 101]⟩ ++ ⟨#[32]⟩ ++ textS c.id) = lineC c := by
  have hf : formC c = (⟨#[104, 97, 118, 101]⟩, 2, 0) := by unfold formC; rw [hv]; rfl
  unfold lineC
  rw [words_all, hf, if_neg (by decide), if_pos (by decide), if_neg (by decide), if_neg (by decide), if_neg (by decide), if_neg (by decide)]
  simp only [List.nil_append, List.cons_append, List.map_cons, List.map_nil, joinS, join1, bl_app, List.append_assoc]
  rfl
set_option maxRecDepth 100000 in
set_option maxHeartbeats 3200000 in
theorem line49_v4 (c : Cm) (hv : c.verb = 4) (h : chk c = 0) (w : World) : Calls Tryd.prog 49 #[vC c] w (LineP c w) := by
  obtain ⟨b, hb⟩ : ∃ b, w.heap.size = b := ⟨_, rfl⟩
  have HB1 := Lib.hid (below_alloc w (.cells (aC c) 31))
  have HR1 := Lib.hid (show Row (w.alloc (.cells (aC c) 31)) b (cC c) 31 by rw [← hb]; exact Row.new w (cC c) 31)
  obtain ⟨W1, hW1⟩ : ∃ W1, w.alloc (.cells (aC c) 31) = W1 := ⟨_, rfl⟩
  rw [hW1] at HB1 HR1
  have hbx : (bxA 31 (vC c)).run Tryd.prog w = .ok (.pointer (some ⟨b, 0, none⟩)) W1 := by rw [run_bx31, hW1, hb]
  have HX := Lib.hid (lineC_v4 c hv)
  have hc := canon_v c h 2 (by unfold formC; rw [hv]; rfl)
  have c0 : ∀ wx, Below W1.heap.size W1 wx → wx.cell? ⟨b, 0, none⟩ = some (.int .i64 4) := fun wx hx => by rw [← hv]; exact (HR1.out.keep hx).cell 0
  have C0 := Lib.hid c0
  have c0 := c0 W1 (Below.refl _ _)
  have H24 := Lib.hid (fun w1 => name24 4 w1)
  rw [show nmB 4 = ⟨#[104, 97, 118, 101]⟩ from rfl] at H24
  have hts := textS_size c.id
  have C2 := Lib.hid (show ∀ wx, Below W1.heap.size W1 wx → okA wx ⟨b, 2, none⟩ 32 = true ∧ rdA wx ⟨b, 2, none⟩ 32 = vI c.id from fun wx hx => (HR1.out.keep hx).idC)
  have HV := Lib.hid hv
  clear hv h hc
  go_enter Tryd.func49, Tryd.ntmps49
  go_wp2_with (first
    | (go_at_call 24; refine (H24.out _).mono ?_; rintro e w1 ⟨rfl, hb1⟩; have c0 := C0.out _ hb1; have c2 := C2.out _ hb1; obtain ⟨i1, i2⟩ := c2;have H1 := Lib.hid hb1; clear hb1)
    | (go_at_call 76; refine (refPrint76 c.id _).mono ?_; rintro e w2 ⟨rfl, hb2⟩; have c0 := C0.out _ (Below.step H1.out hb2); have H2 := Lib.hid (Below.step H1.out hb2); clear hb2))
  go_ret
  exact ⟨_, rfl, HX.out, Below.trans HB1.out (H2.out.mono HB1.out.size)⟩
theorem lineC_v5 (c : Cm) (hv : c.verb = 5) : bl (⟨#[108, 97, 116, 101, 114]⟩ ++ ⟨#[32]⟩ ++ textS c.id) = lineC c := by
  have hf : formC c = (⟨#[108, 97, 116, 101, 114]⟩, 2, 0) := by unfold formC; rw [hv]; rfl
  unfold lineC
  rw [words_all, hf, if_neg (by decide), if_pos (by decide), if_neg (by decide), if_neg (by decide), if_neg (by decide), if_neg (by decide)]
  simp only [List.nil_append, List.cons_append, List.map_cons, List.map_nil, joinS, join1, bl_app, List.append_assoc]
  rfl
set_option maxRecDepth 100000 in
set_option maxHeartbeats 3200000 in
theorem line49_v5 (c : Cm) (hv : c.verb = 5) (h : chk c = 0) (w : World) : Calls Tryd.prog 49 #[vC c] w (LineP c w) := by
  obtain ⟨b, hb⟩ : ∃ b, w.heap.size = b := ⟨_, rfl⟩
  have HB1 := Lib.hid (below_alloc w (.cells (aC c) 31))
  have HR1 := Lib.hid (show Row (w.alloc (.cells (aC c) 31)) b (cC c) 31 by rw [← hb]; exact Row.new w (cC c) 31)
  obtain ⟨W1, hW1⟩ : ∃ W1, w.alloc (.cells (aC c) 31) = W1 := ⟨_, rfl⟩
  rw [hW1] at HB1 HR1
  have hbx : (bxA 31 (vC c)).run Tryd.prog w = .ok (.pointer (some ⟨b, 0, none⟩)) W1 := by rw [run_bx31, hW1, hb]
  have HX := Lib.hid (lineC_v5 c hv)
  have hc := canon_v c h 2 (by unfold formC; rw [hv]; rfl)
  have c0 : ∀ wx, Below W1.heap.size W1 wx → wx.cell? ⟨b, 0, none⟩ = some (.int .i64 5) := fun wx hx => by rw [← hv]; exact (HR1.out.keep hx).cell 0
  have C0 := Lib.hid c0
  have c0 := c0 W1 (Below.refl _ _)
  have H24 := Lib.hid (fun w1 => name24 5 w1)
  rw [show nmB 5 = ⟨#[108, 97, 116, 101, 114]⟩ from rfl] at H24
  have hts := textS_size c.id
  have C2 := Lib.hid (show ∀ wx, Below W1.heap.size W1 wx → okA wx ⟨b, 2, none⟩ 32 = true ∧ rdA wx ⟨b, 2, none⟩ 32 = vI c.id from fun wx hx => (HR1.out.keep hx).idC)
  have HV := Lib.hid hv
  clear hv h hc
  go_enter Tryd.func49, Tryd.ntmps49
  go_wp2_with (first
    | (go_at_call 24; refine (H24.out _).mono ?_; rintro e w1 ⟨rfl, hb1⟩; have c0 := C0.out _ hb1; have c2 := C2.out _ hb1; obtain ⟨i1, i2⟩ := c2;have H1 := Lib.hid hb1; clear hb1)
    | (go_at_call 76; refine (refPrint76 c.id _).mono ?_; rintro e w2 ⟨rfl, hb2⟩; have c0 := C0.out _ (Below.step H1.out hb2); have H2 := Lib.hid (Below.step H1.out hb2); clear hb2))
  go_ret
  exact ⟨_, rfl, HX.out, Below.trans HB1.out (H2.out.mono HB1.out.size)⟩
theorem lineC_v6 (c : Cm) (hv : c.verb = 6) : bl (⟨#[114, 101, 102, 117, 115, 101]⟩ ++ ⟨#[32]⟩ ++ textS c.id ++ ⟨#[32]⟩ ++ itoaB c.code) = lineC c := by
  have hf : formC c = (⟨#[114, 101, 102, 117, 115, 101]⟩, 34, 0) := by unfold formC; rw [hv]; rfl
  unfold lineC
  rw [words_all, hf, if_neg (by decide), if_pos (by decide), if_neg (by decide), if_neg (by decide), if_neg (by decide), if_pos (by decide)]
  simp only [List.nil_append, List.cons_append, List.map_cons, List.map_nil, joinS, join1, bl_app, List.append_assoc]
  rfl
set_option maxRecDepth 100000 in
set_option maxHeartbeats 3200000 in
theorem line49_v6 (c : Cm) (hv : c.verb = 6) (h : chk c = 0) (w : World) : Calls Tryd.prog 49 #[vC c] w (LineP c w) := by
  obtain ⟨b, hb⟩ : ∃ b, w.heap.size = b := ⟨_, rfl⟩
  have HB1 := Lib.hid (below_alloc w (.cells (aC c) 31))
  have HR1 := Lib.hid (show Row (w.alloc (.cells (aC c) 31)) b (cC c) 31 by rw [← hb]; exact Row.new w (cC c) 31)
  obtain ⟨W1, hW1⟩ : ∃ W1, w.alloc (.cells (aC c) 31) = W1 := ⟨_, rfl⟩
  rw [hW1] at HB1 HR1
  have hbx : (bxA 31 (vC c)).run Tryd.prog w = .ok (.pointer (some ⟨b, 0, none⟩)) W1 := by rw [run_bx31, hW1, hb]
  have HX := Lib.hid (lineC_v6 c hv)
  have hc := canon_v c h 34 (by unfold formC; rw [hv]; rfl)
  have c0 : ∀ wx, Below W1.heap.size W1 wx → wx.cell? ⟨b, 0, none⟩ = some (.int .i64 6) := fun wx hx => by rw [← hv]; exact (HR1.out.keep hx).cell 0
  have C0 := Lib.hid c0
  have c0 := c0 W1 (Below.refl _ _)
  have H24 := Lib.hid (fun w1 => name24 6 w1)
  rw [show nmB 6 = ⟨#[114, 101, 102, 117, 115, 101]⟩ from rfl] at H24
  have hts := textS_size c.id
  have C2 := Lib.hid (show ∀ wx, Below W1.heap.size W1 wx → okA wx ⟨b, 2, none⟩ 32 = true ∧ rdA wx ⟨b, 2, none⟩ 32 = vI c.id from fun wx hx => (HR1.out.keep hx).idC)
  obtain ⟨r1, r2⟩ := hc.coder (by decide)
  have his : (itoaB c.code).size ≤ 21 := itoaB_size c.code ⟨by omega, by omega⟩
  have H75 := Lib.hid (fun w1 => decimal75 c.code (by omega) (by omega) w1)
  have CN := Lib.hid (show ∀ wx, Below W1.heap.size W1 wx → wx.cell? ⟨b, 37, none⟩ = some (.int .i64 c.code) from fun wx hx => ((HR1.out.keep hx).cell 37).trans (cC_at (aC_37 c)))
  clear r1 r2
  have HV := Lib.hid hv
  clear hv h hc
  go_enter Tryd.func49, Tryd.ntmps49
  go_wp2_with (first
    | (go_at_call 24; refine (H24.out _).mono ?_; rintro e w1 ⟨rfl, hb1⟩; have c0 := C0.out _ hb1; have c2 := C2.out _ hb1; obtain ⟨i1, i2⟩ := c2;have H1 := Lib.hid hb1; clear hb1)
    | (go_at_call 76; refine (refPrint76 c.id _).mono ?_; rintro e w2 ⟨rfl, hb2⟩; have c0 := C0.out _ (Below.step H1.out hb2); have cN := CN.out _ (Below.step H1.out hb2); have H2 := Lib.hid (Below.step H1.out hb2); clear hb2)
    | (go_at_call 75; refine (H75.out _).mono ?_; rintro e w3 ⟨rfl, hb3⟩; have H3 := Lib.hid (Below.step H2.out hb3); clear hb3))
  go_ret
  exact ⟨_, rfl, HX.out, Below.trans HB1.out (H3.out.mono HB1.out.size)⟩
theorem lineC_v7 (c : Cm) (hv : c.verb = 7) : bl (⟨#[100, 97, 116, 97]⟩ ++ ⟨#[32]⟩ ++ textS c.id ++ ⟨#[32]⟩ ++ itoaB c.from_) = lineC c := by
  have hf : formC c = (⟨#[100, 97, 116, 97]⟩, 74, 4096) := by unfold formC; rw [hv]; rfl
  unfold lineC
  rw [words_all, hf, if_neg (by decide), if_pos (by decide), if_neg (by decide), if_pos (by decide), if_neg (by decide), if_neg (by decide)]
  simp only [List.nil_append, List.cons_append, List.map_cons, List.map_nil, joinS, join1, bl_app, List.append_assoc]
  rfl
set_option maxRecDepth 100000 in
set_option maxHeartbeats 3200000 in
theorem line49_v7 (c : Cm) (hv : c.verb = 7) (h : chk c = 0) (w : World) : Calls Tryd.prog 49 #[vC c] w (LineP c w) := by
  obtain ⟨b, hb⟩ : ∃ b, w.heap.size = b := ⟨_, rfl⟩
  have HB1 := Lib.hid (below_alloc w (.cells (aC c) 31))
  have HR1 := Lib.hid (show Row (w.alloc (.cells (aC c) 31)) b (cC c) 31 by rw [← hb]; exact Row.new w (cC c) 31)
  obtain ⟨W1, hW1⟩ : ∃ W1, w.alloc (.cells (aC c) 31) = W1 := ⟨_, rfl⟩
  rw [hW1] at HB1 HR1
  have hbx : (bxA 31 (vC c)).run Tryd.prog w = .ok (.pointer (some ⟨b, 0, none⟩)) W1 := by rw [run_bx31, hW1, hb]
  have HX := Lib.hid (lineC_v7 c hv)
  have hc := canon_v c h 74 (by unfold formC; rw [hv]; rfl)
  have c0 : ∀ wx, Below W1.heap.size W1 wx → wx.cell? ⟨b, 0, none⟩ = some (.int .i64 7) := fun wx hx => by rw [← hv]; exact (HR1.out.keep hx).cell 0
  have C0 := Lib.hid c0
  have c0 := c0 W1 (Below.refl _ _)
  have H24 := Lib.hid (fun w1 => name24 7 w1)
  rw [show nmB 7 = ⟨#[100, 97, 116, 97]⟩ from rfl] at H24
  have hts := textS_size c.id
  have C2 := Lib.hid (show ∀ wx, Below W1.heap.size W1 wx → okA wx ⟨b, 2, none⟩ 32 = true ∧ rdA wx ⟨b, 2, none⟩ 32 = vI c.id from fun wx hx => (HR1.out.keep hx).idC)
  obtain ⟨r1, r2⟩ := hc.fromr (by decide)
  have his : (itoaB c.from_).size ≤ 21 := itoaB_size c.from_ ⟨by omega, by omega⟩
  have H75 := Lib.hid (fun w1 => decimal75 c.from_ (by omega) (by omega) w1)
  have CN := Lib.hid (show ∀ wx, Below W1.heap.size W1 wx → wx.cell? ⟨b, 35, none⟩ = some (.int .i64 c.from_) from fun wx hx => ((HR1.out.keep hx).cell 35).trans (cC_at (aC_35 c)))
  clear r1 r2
  have HV := Lib.hid hv
  clear hv h hc
  go_enter Tryd.func49, Tryd.ntmps49
  go_wp2_with (first
    | (go_at_call 24; refine (H24.out _).mono ?_; rintro e w1 ⟨rfl, hb1⟩; have c0 := C0.out _ hb1; have c2 := C2.out _ hb1; obtain ⟨i1, i2⟩ := c2;have H1 := Lib.hid hb1; clear hb1)
    | (go_at_call 76; refine (refPrint76 c.id _).mono ?_; rintro e w2 ⟨rfl, hb2⟩; have c0 := C0.out _ (Below.step H1.out hb2); have cN := CN.out _ (Below.step H1.out hb2); have H2 := Lib.hid (Below.step H1.out hb2); clear hb2)
    | (go_at_call 75; refine (H75.out _).mono ?_; rintro e w3 ⟨rfl, hb3⟩; have H3 := Lib.hid (Below.step H2.out hb3); clear hb3))
  go_ret
  exact ⟨_, rfl, HX.out, Below.trans HB1.out (H3.out.mono HB1.out.size)⟩
theorem lineC_v8 (c : Cm) (hv : c.verb = 8) : bl (⟨#[100, 111, 110, 101]⟩ ++ ⟨#[32]⟩ ++ textS c.id) = lineC c := by
  have hf : formC c = (⟨#[100, 111, 110, 101]⟩, 2, 0) := by unfold formC; rw [hv]; rfl
  unfold lineC
  rw [words_all, hf, if_neg (by decide), if_pos (by decide), if_neg (by decide), if_neg (by decide), if_neg (by decide), if_neg (by decide)]
  simp only [List.nil_append, List.cons_append, List.map_cons, List.map_nil, joinS, join1, bl_app, List.append_assoc]
  rfl
set_option maxRecDepth 100000 in
set_option maxHeartbeats 3200000 in
theorem line49_v8 (c : Cm) (hv : c.verb = 8) (h : chk c = 0) (w : World) : Calls Tryd.prog 49 #[vC c] w (LineP c w) := by
  obtain ⟨b, hb⟩ : ∃ b, w.heap.size = b := ⟨_, rfl⟩
  have HB1 := Lib.hid (below_alloc w (.cells (aC c) 31))
  have HR1 := Lib.hid (show Row (w.alloc (.cells (aC c) 31)) b (cC c) 31 by rw [← hb]; exact Row.new w (cC c) 31)
  obtain ⟨W1, hW1⟩ : ∃ W1, w.alloc (.cells (aC c) 31) = W1 := ⟨_, rfl⟩
  rw [hW1] at HB1 HR1
  have hbx : (bxA 31 (vC c)).run Tryd.prog w = .ok (.pointer (some ⟨b, 0, none⟩)) W1 := by rw [run_bx31, hW1, hb]
  have HX := Lib.hid (lineC_v8 c hv)
  have hc := canon_v c h 2 (by unfold formC; rw [hv]; rfl)
  have c0 : ∀ wx, Below W1.heap.size W1 wx → wx.cell? ⟨b, 0, none⟩ = some (.int .i64 8) := fun wx hx => by rw [← hv]; exact (HR1.out.keep hx).cell 0
  have C0 := Lib.hid c0
  have c0 := c0 W1 (Below.refl _ _)
  have H24 := Lib.hid (fun w1 => name24 8 w1)
  rw [show nmB 8 = ⟨#[100, 111, 110, 101]⟩ from rfl] at H24
  have hts := textS_size c.id
  have C2 := Lib.hid (show ∀ wx, Below W1.heap.size W1 wx → okA wx ⟨b, 2, none⟩ 32 = true ∧ rdA wx ⟨b, 2, none⟩ 32 = vI c.id from fun wx hx => (HR1.out.keep hx).idC)
  have HV := Lib.hid hv
  clear hv h hc
  go_enter Tryd.func49, Tryd.ntmps49
  go_wp2_with (first
    | (go_at_call 24; refine (H24.out _).mono ?_; rintro e w1 ⟨rfl, hb1⟩; have c0 := C0.out _ hb1; have c2 := C2.out _ hb1; obtain ⟨i1, i2⟩ := c2;have H1 := Lib.hid hb1; clear hb1)
    | (go_at_call 76; refine (refPrint76 c.id _).mono ?_; rintro e w2 ⟨rfl, hb2⟩; have c0 := C0.out _ (Below.step H1.out hb2); have H2 := Lib.hid (Below.step H1.out hb2); clear hb2))
  go_ret
  exact ⟨_, rfl, HX.out, Below.trans HB1.out (H2.out.mono HB1.out.size)⟩
theorem lineC_v9 (c : Cm) (hv : c.verb = 9) : bl (⟨#[103, 111, 116]⟩ ++ ⟨#[32]⟩ ++ textS c.id) = lineC c := by
  have hf : formC c = (⟨#[103, 111, 116]⟩, 2, 0) := by unfold formC; rw [hv]; rfl
  unfold lineC
  rw [words_all, hf, if_neg (by decide), if_pos (by decide), if_neg (by decide), if_neg (by decide), if_neg (by decide), if_neg (by decide)]
  simp only [List.nil_append, List.cons_append, List.map_cons, List.map_nil, joinS, join1, bl_app, List.append_assoc]
  rfl
set_option maxRecDepth 100000 in
set_option maxHeartbeats 3200000 in
theorem line49_v9 (c : Cm) (hv : c.verb = 9) (h : chk c = 0) (w : World) : Calls Tryd.prog 49 #[vC c] w (LineP c w) := by
  obtain ⟨b, hb⟩ : ∃ b, w.heap.size = b := ⟨_, rfl⟩
  have HB1 := Lib.hid (below_alloc w (.cells (aC c) 31))
  have HR1 := Lib.hid (show Row (w.alloc (.cells (aC c) 31)) b (cC c) 31 by rw [← hb]; exact Row.new w (cC c) 31)
  obtain ⟨W1, hW1⟩ : ∃ W1, w.alloc (.cells (aC c) 31) = W1 := ⟨_, rfl⟩
  rw [hW1] at HB1 HR1
  have hbx : (bxA 31 (vC c)).run Tryd.prog w = .ok (.pointer (some ⟨b, 0, none⟩)) W1 := by rw [run_bx31, hW1, hb]
  have HX := Lib.hid (lineC_v9 c hv)
  have hc := canon_v c h 2 (by unfold formC; rw [hv]; rfl)
  have c0 : ∀ wx, Below W1.heap.size W1 wx → wx.cell? ⟨b, 0, none⟩ = some (.int .i64 9) := fun wx hx => by rw [← hv]; exact (HR1.out.keep hx).cell 0
  have C0 := Lib.hid c0
  have c0 := c0 W1 (Below.refl _ _)
  have H24 := Lib.hid (fun w1 => name24 9 w1)
  rw [show nmB 9 = ⟨#[103, 111, 116]⟩ from rfl] at H24
  have hts := textS_size c.id
  have C2 := Lib.hid (show ∀ wx, Below W1.heap.size W1 wx → okA wx ⟨b, 2, none⟩ 32 = true ∧ rdA wx ⟨b, 2, none⟩ 32 = vI c.id from fun wx hx => (HR1.out.keep hx).idC)
  have HV := Lib.hid hv
  clear hv h hc
  go_enter Tryd.func49, Tryd.ntmps49
  go_wp2_with (first
    | (go_at_call 24; refine (H24.out _).mono ?_; rintro e w1 ⟨rfl, hb1⟩; have c0 := C0.out _ hb1; have c2 := C2.out _ hb1; obtain ⟨i1, i2⟩ := c2;have H1 := Lib.hid hb1; clear hb1)
    | (go_at_call 76; refine (refPrint76 c.id _).mono ?_; rintro e w2 ⟨rfl, hb2⟩; have c0 := C0.out _ (Below.step H1.out hb2); have H2 := Lib.hid (Below.step H1.out hb2); clear hb2))
  go_ret
  exact ⟨_, rfl, HX.out, Below.trans HB1.out (H2.out.mono HB1.out.size)⟩
theorem lineC_v10 (c : Cm) (hv : c.verb = 10) : bl (⟨#[98, 97, 116, 99, 104]⟩) = lineC c := by
  have hf : formC c = (⟨#[98, 97, 116, 99, 104]⟩, 64, 262144) := by unfold formC; rw [hv]; rfl
  unfold lineC
  rw [words_all, hf, if_neg (by decide), if_neg (by decide), if_neg (by decide), if_neg (by decide), if_neg (by decide), if_neg (by decide)]
  simp only [List.nil_append, List.map_cons, List.map_nil, join1]
set_option maxRecDepth 100000 in
set_option maxHeartbeats 3200000 in
theorem line49_v10 (c : Cm) (hv : c.verb = 10) (h : chk c = 0) (w : World) : Calls Tryd.prog 49 #[vC c] w (LineP c w) := by
  obtain ⟨b, hb⟩ : ∃ b, w.heap.size = b := ⟨_, rfl⟩
  have HB1 := Lib.hid (below_alloc w (.cells (aC c) 31))
  have HR1 := Lib.hid (show Row (w.alloc (.cells (aC c) 31)) b (cC c) 31 by rw [← hb]; exact Row.new w (cC c) 31)
  obtain ⟨W1, hW1⟩ : ∃ W1, w.alloc (.cells (aC c) 31) = W1 := ⟨_, rfl⟩
  rw [hW1] at HB1 HR1
  have hbx : (bxA 31 (vC c)).run Tryd.prog w = .ok (.pointer (some ⟨b, 0, none⟩)) W1 := by rw [run_bx31, hW1, hb]
  have HX := Lib.hid (lineC_v10 c hv)
  have hc := canon_v c h 64 (by unfold formC; rw [hv]; rfl)
  have c0 : ∀ wx, Below W1.heap.size W1 wx → wx.cell? ⟨b, 0, none⟩ = some (.int .i64 10) := fun wx hx => by rw [← hv]; exact (HR1.out.keep hx).cell 0
  have C0 := Lib.hid c0
  have c0 := c0 W1 (Below.refl _ _)
  have H24 := Lib.hid (fun w1 => name24 10 w1)
  rw [show nmB 10 = ⟨#[98, 97, 116, 99, 104]⟩ from rfl] at H24
  have HV := Lib.hid hv
  clear hv h hc
  go_enter Tryd.func49, Tryd.ntmps49
  go_wp2_with (go_at_call 24; refine (H24.out _).mono ?_; rintro e w1 ⟨rfl, hb1⟩; have c0 := C0.out _ hb1; have H1 := Lib.hid hb1; clear hb1)
  go_ret
  exact ⟨_, rfl, HX.out, Below.trans HB1.out (H1.out.mono HB1.out.size)⟩
theorem lineC_v11 (c : Cm) (hv : c.verb = 11) : bl (⟨#[113, 117, 105, 116]⟩) = lineC c := by
  have hf : formC c = (⟨#[113, 117, 105, 116]⟩, 0, 0) := by unfold formC; rw [hv]; rfl
  unfold lineC
  rw [words_all, hf, if_neg (by decide), if_neg (by decide), if_neg (by decide), if_neg (by decide), if_neg (by decide), if_neg (by decide)]
  simp only [List.nil_append, List.map_cons, List.map_nil, join1]
set_option maxRecDepth 100000 in
set_option maxHeartbeats 3200000 in
theorem line49_v11 (c : Cm) (hv : c.verb = 11) (h : chk c = 0) (w : World) : Calls Tryd.prog 49 #[vC c] w (LineP c w) := by
  obtain ⟨b, hb⟩ : ∃ b, w.heap.size = b := ⟨_, rfl⟩
  have HB1 := Lib.hid (below_alloc w (.cells (aC c) 31))
  have HR1 := Lib.hid (show Row (w.alloc (.cells (aC c) 31)) b (cC c) 31 by rw [← hb]; exact Row.new w (cC c) 31)
  obtain ⟨W1, hW1⟩ : ∃ W1, w.alloc (.cells (aC c) 31) = W1 := ⟨_, rfl⟩
  rw [hW1] at HB1 HR1
  have hbx : (bxA 31 (vC c)).run Tryd.prog w = .ok (.pointer (some ⟨b, 0, none⟩)) W1 := by rw [run_bx31, hW1, hb]
  have HX := Lib.hid (lineC_v11 c hv)
  have hc := canon_v c h 0 (by unfold formC; rw [hv]; rfl)
  have c0 : ∀ wx, Below W1.heap.size W1 wx → wx.cell? ⟨b, 0, none⟩ = some (.int .i64 11) := fun wx hx => by rw [← hv]; exact (HR1.out.keep hx).cell 0
  have C0 := Lib.hid c0
  have c0 := c0 W1 (Below.refl _ _)
  have H24 := Lib.hid (fun w1 => name24 11 w1)
  rw [show nmB 11 = ⟨#[113, 117, 105, 116]⟩ from rfl] at H24
  have HV := Lib.hid hv
  clear hv h hc
  go_enter Tryd.func49, Tryd.ntmps49
  go_wp2_with (go_at_call 24; refine (H24.out _).mono ?_; rintro e w1 ⟨rfl, hb1⟩; have c0 := C0.out _ hb1; have H1 := Lib.hid hb1; clear hb1)
  go_ret
  exact ⟨_, rfl, HX.out, Below.trans HB1.out (H1.out.mono HB1.out.size)⟩
theorem line49 (c : Cm) (h : chk c = 0) (w : World) : Calls Tryd.prog 49 #[vC c] w (LineP c w) := by
  obtain ⟨h1, h2⟩ := chk_verb c h
  have hv : c.verb = 1 ∨ c.verb = 2 ∨ c.verb = 3 ∨ c.verb = 4 ∨ c.verb = 5 ∨ c.verb = 6 ∨ c.verb = 7 ∨ c.verb = 8 ∨ c.verb = 9 ∨ c.verb = 10 ∨ c.verb = 11 := by omega
  rcases hv with hv | hv | hv | hv | hv | hv | hv | hv | hv | hv | hv
  · exact line49_v1 c hv h w
  · exact line49_v2 c hv h w
  · exact line49_v3 c hv h w
  · exact line49_v4 c hv h w
  · exact line49_v5 c hv h w
  · exact line49_v6 c hv h w
  · exact line49_v7 c hv h w
  · exact line49_v8 c hv h w
  · exact line49_v9 c hv h w
  · exact line49_v10 c hv h w
  · exact line49_v11 c hv h w
end
section
open Go.RowKit
theorem text_flag (c : Cm) (h1 : 1 ≤ c.verb) (h2 : c.verb ≤ 11) : (bits BinOp.and .i64 (formC c).2.1 64 == 0) = !(decide (c.verb = 7) || decide (c.verb = 10)) := by
  have h : c.verb = 1 ∨ c.verb = 2 ∨ c.verb = 3 ∨ c.verb = 4 ∨ c.verb = 5 ∨ c.verb = 6 ∨ c.verb = 7 ∨ c.verb = 8 ∨ c.verb = 9 ∨ c.verb = 10 ∨ c.verb = 11 := by omega
  unfold formC
  rcases h with h | h | h | h | h | h | h | h | h | h | h <;> (rw [h]; decide)
def RencP (c : Cm) (w : World) : Ending → World → Prop := fun e w' => ∃ t, e = .returned (.tuple #[.string t, .int .i64 (chk c)]) ∧ bl t = encT c ∧ Below w.heap.size w w'
set_option maxRecDepth 100000 in
set_option maxHeartbeats 3200000 in
theorem refEncode21 (c : Cm) (w : World) (hn : c.name.size ≤ 1000000) (ht : c.text.size ≤ 1000000) : Calls Tryd.prog 21 #[vC c] w (RencP c w) := by
  obtain ⟨b, hb⟩ : ∃ b, w.heap.size = b := ⟨_, rfl⟩
  have HB1 := Lib.hid (below_alloc w (.cells (aC c) 31))
  have HR1 := Lib.hid (show Row (w.alloc (.cells (aC c) 31)) b (cC c) 31 by rw [← hb]; exact Row.new w (cC c) 31)
  obtain ⟨W1, hW1⟩ : ∃ W1, w.alloc (.cells (aC c) 31) = W1 := ⟨_, rfl⟩
  rw [hW1] at HB1 HR1
  have hbx : (bxA 31 (vC c)).run Tryd.prog w = .ok (.pointer (some ⟨b, 0, none⟩)) W1 := by rw [run_bx31, hW1, hb]
  have rr1 := okC HR1.out
  have rr2 := rdC HR1.out
  have H22 := Lib.hid (fun w1 => refCheck22 c w1 hn ht)
  unfold RchkP at H22
  by_cases he : chk c = 0
  case neg =>
    have heb : (chk c != 0) = true := by simpa using he
    have HN := Lib.hid (encT_no c he)
    clear he hn ht
    go_enter Tryd.func21, Tryd.ntmps21
    go_wp2_with (go_at_call 22; refine (H22.out _).mono ?_; rintro e w1 ⟨rfl, hb1⟩; have H1 := Lib.hid hb1; clear hb1)
    go_ret2
    exact ⟨⟨#[]⟩, rfl, HN.out.symm, Below.trans HB1.out (H1.out.mono HB1.out.size)⟩
  obtain ⟨v1, v2⟩ := chk_verb c he
  have HT := Lib.hid (show encT c = lineC c ++ [13, 10] ++ (if bits BinOp.and .i64 (formC c).2.1 64 == 0 then [] else stuffL (bl c.text)) by unfold encT; rw [if_neg (by rw [he]; decide)])
  rw [text_flag c v1 v2] at HT
  have HLN := Lib.hid (line_ok c he).len
  have H49 := Lib.hid (fun w1 => line49 c he w1)
  unfold LineP at H49
  have H46 := Lib.hid (fun w1 => stuffed46 c.text w1 ht)
  have HE0 := Lib.hid he
  rw [he] at H22
  have C0 := Lib.hid (show ∀ wx, Below W1.heap.size W1 wx → wx.cell? ⟨b, 0, none⟩ = some (.int .i64 c.verb) from fun wx hx => (HR1.out.keep hx).cell 0)
  have C7 := Lib.hid (show ∀ wx, Below W1.heap.size W1 wx → wx.cell? ⟨b, 38, none⟩ = some (.string c.text) from fun wx hx => ((HR1.out.keep hx).cell 38).trans (cC_at (aC_38 c)))
  have HTS := Lib.hid (show ∀ t : ByteArray, bl t = stuffL (bl c.text) → t.size ≤ 5000006 from fun t e => by
    rw [← bl_length, e]
    have h2 := stuffP_le 10 (bl c.text) []
    rw [bl_length] at h2
    unfold stuffL
    simp only [List.length_nil] at h2
    omega)
  clear he hn ht v1 v2
  by_cases h7 : c.verb = 7 ∨ c.verb = 10
  · have HT2 := Lib.hid (show encT c = lineC c ++ [13, 10] ++ stuffL (bl c.text) by rw [HT.out, if_neg (by rcases h7 with h | h <;> rw [h] <;> decide)])
    rcases h7 with h7 | h7
    all_goals
      have HV := Lib.hid h7
      rw [h7] at C0
      clear h7
      go_enter Tryd.func21, Tryd.ntmps21
      go_wp2_with (first
        | (go_at_call 22; refine (H22.out _).mono ?_; rintro e w1 ⟨rfl, hb1⟩; clear rr1 rr2; have rr1 := okC (HR1.out.keep hb1); have rr2 := rdC (HR1.out.keep hb1); have H1 := Lib.hid hb1; clear hb1)
        | (go_at_call 49; refine (H49.out _).mono ?_; rintro e w2 ⟨t, rfl, ht, hb2⟩; have hts : t.size ≤ 190 := (by rw [← bl_length, ht]; exact HLN.out); have c0 := C0.out _ (Below.step H1.out hb2); have c7 := C7.out _ (Below.step H1.out hb2); have H2 := Lib.hid (And.intro ht (Below.step H1.out hb2)); clear ht hb2)
        | (go_at_call 46; refine (H46.out _).mono ?_; rintro e w3 ⟨q, rfl, hq, rfl⟩; have hqs := HTS.out q hq; have H3 := Lib.hid hq; clear hq))
      go_ret2
      exact ⟨_, by rw [HE0.out]; rfl, by rw [bl_app, bl_app, H2.out.1, H3.out, HT2.out], Below.trans HB1.out (H2.out.2.mono HB1.out.size)⟩
  · have HT2 := Lib.hid (show encT c = lineC c ++ [13, 10] by rw [HT.out, if_pos (by rw [decide_eq_false (fun e => h7 (Or.inl e)), decide_eq_false (fun e => h7 (Or.inr e))]; rfl), List.append_nil])
    have q7 : (c.verb == 7) = false := by rw [beq_eq_false_iff_ne]; exact fun e => h7 (Or.inl e)
    have q10 : (c.verb == 10) = false := by rw [beq_eq_false_iff_ne]; exact fun e => h7 (Or.inr e)
    clear h7
    go_enter Tryd.func21, Tryd.ntmps21
    go_wp2_with (first
      | (go_at_call 22; refine (H22.out _).mono ?_; rintro e w1 ⟨rfl, hb1⟩; clear rr1 rr2; have rr1 := okC (HR1.out.keep hb1); have rr2 := rdC (HR1.out.keep hb1); have H1 := Lib.hid hb1; clear hb1)
      | (go_at_call 49; refine (H49.out _).mono ?_; rintro e w2 ⟨t, rfl, ht, hb2⟩; have hts : t.size ≤ 190 := (by rw [← bl_length, ht]; exact HLN.out); have c0 := C0.out _ (Below.step H1.out hb2); have H2 := Lib.hid (And.intro ht (Below.step H1.out hb2)); clear ht hb2))
    go_ret2
    exact ⟨_, by rw [HE0.out]; rfl, by rw [bl_app, H2.out.1, HT2.out], Below.trans HB1.out (H2.out.2.mono HB1.out.size)⟩
end
end Go.Proofs.YtfbpipknhghneaaDoor
