/- The methods of a nil sender; bulletinlaw33.OfferNil. -/
import Derived.Test.YtlelecnafdddhaaDoorTo
namespace Go.Proofs.YtlelecnafdddhaaDoor
open Go.RowKit
theorem load_I {w : World} {b : Nat} {x : Id} (h : Row w b (cI x) 40) : (loadVar 40 ⟨b, 0, none⟩).run Tryd.prog w = .ok (vI x) w :=
  run_loadVar_at w ⟨b, 0, none⟩ 40 (cI x) _ (h.at_ (k := 0) (n := 32) (by rw [List.drop_zero, List.take_of_length_le (by rw [cI_length]; omega)])) Tryd.underlying40 rfl (by rw [cI_length]; exact size40)
section
variable (w : World)
set_option maxRecDepth 100000 in
set_option maxHeartbeats 400000 in
theorem say18_nil : Calls Tryd.prog 18 #[.pointer none] w fun e w' => e = .returned (.tuple #[vC zC, .bool false]) ∧ Below w.heap.size w w' := by
  go_enter Tryd.func18, Tryd.ntmps18
  go_wp2
  exact bodyPost_ret (v := .tuple #[vC zC, .bool false]) (results_c2 (ad := ⟨w.heap.size, 0, none⟩) rfl rfl (load_C (Row.new w (cC zC) 45)) rfl) rfl ⟨rfl, below_alloc _ _⟩
set_option maxRecDepth 100000 in
set_option maxHeartbeats 400000 in
theorem current21_nil : Calls Tryd.prog 21 #[.pointer none] w fun e w' => e = .returned (.tuple #[vI zI, .bool false]) ∧ Below w.heap.size w w' := by
  go_enter Tryd.func21, Tryd.ntmps21
  go_wp2
  exact bodyPost_ret (v := .tuple #[vI zI, .bool false]) (results_c2 (ad := ⟨w.heap.size, 0, none⟩) rfl rfl (load_I (Row.new w (cI zI) 40)) rfl) rfl ⟨rfl, below_alloc _ _⟩
set_option maxRecDepth 100000 in
set_option maxHeartbeats 400000 in
theorem add15_nil (x : Id) (t : ByteArray) : Calls Tryd.prog 15 #[.pointer none, vI x, .string t] w fun e w' => e = .returned (.int .i64 1) ∧ Below w.heap.size w w' := by
  go_enter Tryd.func15, Tryd.ntmps15
  go_wp2
  go_ret
  exact ⟨rfl, below_alloc _ _⟩
set_option maxRecDepth 100000 in
set_option maxHeartbeats 400000 in
theorem hear19_nil (c : Cm) : Calls Tryd.prog 19 #[.pointer none, vC c] w fun e w' => e = .returned (.int .i64 1) ∧ Below w.heap.size w w' := by
  go_enter Tryd.func19, Tryd.ntmps19
  go_wp2
  go_ret
  exact ⟨rfl, below_alloc _ _⟩
set_option maxRecDepth 100000 in
set_option maxHeartbeats 400000 in
theorem drop31_nil : Calls Tryd.prog 31 #[.pointer none] w fun e w' => e = .returned (.int .i64 1) ∧ Below w.heap.size w w' := by
  go_enter Tryd.func31, Tryd.ntmps31
  go_wp2
  go_ret
  exact ⟨rfl, Below.refl _ _⟩
set_option maxRecDepth 100000 in
set_option maxHeartbeats 400000 in
theorem outcomes25_nil : Calls Tryd.prog 25 #[.pointer none] w fun e w' => e = .returned (.slice none 0 0) ∧ Below w.heap.size w w' := by
  go_enter Tryd.func25, Tryd.ntmps25
  go_wp2
  go_ret
  exact ⟨rfl, Below.refl _ _⟩
set_option maxRecDepth 100000 in
set_option maxHeartbeats 400000 in
theorem state20_nil : Calls Tryd.prog 20 #[.pointer none] w fun e w' => e = .returned (.int .i64 0) ∧ Below w.heap.size w w' := by
  go_enter Tryd.func20, Tryd.ntmps20
  go_wp2
  go_ret
  exact ⟨rfl, Below.refl _ _⟩
set_option maxRecDepth 100000 in
set_option maxHeartbeats 400000 in
theorem waiting26_nil : Calls Tryd.prog 26 #[.pointer none] w fun e w' => e = .returned (.slice none 0 0) ∧ Below w.heap.size w w' := by
  go_enter Tryd.func26, Tryd.ntmps26
  go_wp2
  go_ret
  exact ⟨rfl, Below.refl _ _⟩
set_option maxRecDepth 100000 in
set_option maxHeartbeats 400000 in
theorem clone29_nil : Calls Tryd.prog 29 #[.pointer none] w fun e w' => e = .returned (.pointer none) ∧ Below w.heap.size w w' := by
  go_enter Tryd.func29, Tryd.ntmps29
  go_wp2
  go_ret
  exact ⟨rfl, Below.refl _ _⟩
set_option maxRecDepth 100000 in
set_option maxHeartbeats 400000 in
theorem equal27_nil : Calls Tryd.prog 27 #[.pointer none, .pointer none] w fun e w' => e = .returned (.bool true) ∧ Below w.heap.size w w' := by
  go_enter Tryd.func27, Tryd.ntmps27
  go_wp2
  go_ret
  exact ⟨rfl, Below.refl _ _⟩
end
theorem cQ_a (x : Rop) : ((cQ x).drop 1).take 33 = cA x.a := by
  unfold cQ
  rw [List.drop_succ_cons, List.drop_zero, List.take_append_of_le_length (by rw [cA_length]; omega), List.take_of_length_le (by rw [cA_length]; omega)]
theorem cQ_aid (x : Rop) : ((cQ x).drop 1).take 32 = cI x.a.1 := by
  have h := congrArg (List.take 32) (cQ_a x)
  rw [List.take_take, show min 32 33 = 32 from rfl] at h
  rw [h]
  exact cA_id x.a
theorem cQ_c (x : Rop) : ((cQ x).drop 34).take 37 = cK x.c := by
  unfold cQ
  rw [show (34 : Nat) = 33 + 1 from rfl, List.drop_succ_cons, show (33 : Nat) = (cA x.a).length by rw [cA_length], List.drop_left, List.take_of_length_le (by rw [cK_length]; omega)]
theorem row_Q {w : World} {g : Nat} {x : Rop} {ty : TypeId} (h : Row w g (cQ x) ty) : w.cell? ⟨g, 0, none⟩ = some (.int .u8 x.kind.toNat) ∧ (okA w ⟨g, 1, none⟩ 32 = true ∧ rdA w ⟨g, 1, none⟩ 32 = vI x.a.1) ∧ w.cell? ⟨g, 33, none⟩ = some (.string x.a.2) ∧
    (okA w ⟨g, 34, none⟩ 37 = true ∧ rdA w ⟨g, 34, none⟩ 37 = vK x.c) ∧ g < w.heap.size := by
  have h1 := h.at_ (cQ_aid x)
  have a1 := h1.ok
  have a2 := h1.rd
  rw [cI_length] at a1 a2
  have h3 := h.at_ (cQ_c x)
  have a3 := h3.ok
  have a4 := h3.rd
  rw [cK_length] at a3 a4
  refine ⟨h.cell 0, ⟨a1, a2⟩, (h.cell 33).trans ?_, ⟨a3, a4⟩, h.lt⟩
  unfold cQ
  rw [show (33 : Nat) = 32 + 1 from rfl, List.getElem?_cons_succ, List.getElem?_append_left (by rw [cA_length]; omega)]
  unfold cA
  rw [List.getElem?_append_right (by rw [cI_length]; omega), cI_length]
  rfl
set_option maxRecDepth 100000 in
set_option maxHeartbeats 2000000 in
theorem law9 (x : Rop) (w : World) (hL : Laid w) : Calls Tryd.prog 9 #[vQ x] w fun e w' => e = .returned (.bool true) ∧ Below w.heap.size w w' := by
  have HX := Lib.hid hL
  have HR := Lib.hid (Row.new w (cQ x) 57)
  clear hL
  have T0 : True := trivial
  go_enter Tryd.func9, Tryd.ntmps9
  go_wp2_with (first
    | (have hh := T0; clear hh T0; go_at_call 18; refine (say18_nil _).mono ?_; rintro e w1 ⟨rfl, hb⟩; have H1 := Lib.hid (Below.step (below_alloc w (.cells (aQ x) 57)) hb); have HR1 := Lib.hid (HR.out.keep hb); clear hb; have T1 : True := trivial)
    | (have hh := T1; clear hh T1; go_at_call 21; refine (current21_nil _).mono ?_; rintro e w2 ⟨rfl, hb⟩; have hb2 := Below.step (below_alloc w1 (.cells (aC zC) 45)) hb; have HC2 := Lib.hid ((Row.new w1 (cC zC) 45).keep hb); have H2 := Lib.hid (Below.step H1.out hb2); have HR2 := Lib.hid (HR1.out.keep hb2); clear hb hb2; have T2 : True := trivial))
  have HW : Below w.heap.size w (w2.alloc (.cells (aI zI) 40)) := Below.step H2.out (below_alloc _ _)
  have R1 : Row (w2.alloc (.cells (aI zI) 40)) w.heap.size (cQ x) 57 := HR2.out.keep (below_alloc _ _)
  have R4 : Row (w2.alloc (.cells (aI zI) 40)) w1.heap.size (cC zC) 45 := HC2.out.keep (below_alloc _ _)
  change Code.wp _ _ _ _ (w2.alloc (.cells (aI zI) 40))
  generalize (w2.alloc (.cells (aI zI) 40)) = W at HW R1 R4 ⊢
  obtain ⟨g6, hg6⟩ : ∃ g6, g6 = w2.heap.size := ⟨_, rfl⟩
  rw [← hg6]
  obtain ⟨g4, hg4⟩ : ∃ g4, g4 = w1.heap.size := ⟨_, rfl⟩
  rw [← hg4] at R4 ⊢
  obtain ⟨g1, hg1⟩ : ∃ g1, g1 = w.heap.size := ⟨_, rfl⟩
  rw [← hg1] at R1 ⊢
  obtain ⟨_, ⟨m1, m1'⟩, m33, ⟨m34, m34'⟩, hlt⟩ := row_Q R1
  have m4 : W.cell? ⟨g4, 0, none⟩ = some (.int .i64 0) := R4.cell 0
  have HY := Lib.hid HW
  clear HW R1 R4 hg1 hg4 hg6
  refine AnyO.wp_any (by kernel_rfl) (by kernel_rfl) (pstP [isV (.bool true), isV (.bool true), isV (.bool false), isV (.bool true), isV (.bool true), isV (.bool true), isV (.pointer (some ⟨g4, 0, none⟩)), isV (.int .i64 0), isV (.bool true), isV (.bool true), isV (.bool true), isV (.bool false), isV (.bool true), isV (.bool true), isV (.bool true), isV (.pointer none), isV (.pointer (some ⟨g1, 1, none⟩)), isV (.pointer (some ⟨g1, 1, none⟩)), isV (vI x.a.1), isV (.pointer (some ⟨g1, 1, none⟩)), isV (.pointer (some ⟨g1, 33, none⟩)), isV (.string x.a.2), isV (.string (cutS x.a.2)), isV (.int .i64 1), isV (.bool true), isV (.bool true), isV (.bool true), isV (.pointer none), isV (.pointer (some ⟨g1, 34, none⟩)), isV (vK x.c), isV (vC (toS x.c)), isV (.int .i64 1), isV (.bool true), isV (.bool true), isV (.bool true), isV (.pointer none), isV (.int .i64 1), isV (.bool true), isV (.bool true), isV (.bool true), isV (.pointer none), isV (.slice none 0 0), isV (.int .i64 0), isV (.bool true), isV (.bool true), isV (.bool true), isV (.pointer none), isV (.int .i64 0), isV (.bool true), isV (.bool true), isV (.bool true), isV (.pointer none), isV (.slice none 0 0), isV (.int .i64 0), isV (.bool true), isV (.bool true), isV (.bool true), isV (.pointer none), isV (.pointer none), isV (.bool true), isV (.bool true), isV (.bool true), isV (.pointer none), isV (.bool true), isV (.bool true), isV (.bool true)]) (MonoL.cons (Mono.v _) (MonoL.cons (Mono.v _) (MonoL.cons (Mono.v _) (MonoL.cons (Mono.v _) (MonoL.cons (Mono.v _) (MonoL.cons (Mono.v _) (MonoL.cons (Mono.v _) (MonoL.cons (Mono.v _) (MonoL.cons (Mono.v _) (MonoL.cons (Mono.v _) (MonoL.cons (Mono.v _) (MonoL.cons (Mono.v _) (MonoL.cons (Mono.v _) (MonoL.cons (Mono.v _) (MonoL.cons (Mono.v _) (MonoL.cons (Mono.v _) (MonoL.cons (Mono.v _) (MonoL.cons (Mono.v _) (MonoL.cons (Mono.v _) (MonoL.cons (Mono.v _) (MonoL.cons (Mono.v _) (MonoL.cons (Mono.v _) (MonoL.cons (Mono.v _) (MonoL.cons (Mono.v _) (MonoL.cons (Mono.v _) (MonoL.cons (Mono.v _) (MonoL.cons (Mono.v _) (MonoL.cons (Mono.v _) (MonoL.cons (Mono.v _) (MonoL.cons (Mono.v _) (MonoL.cons (Mono.v _) (MonoL.cons (Mono.v _) (MonoL.cons (Mono.v _) (MonoL.cons (Mono.v _) (MonoL.cons (Mono.v _) (MonoL.cons (Mono.v _) (MonoL.cons (Mono.v _) (MonoL.cons (Mono.v _) (MonoL.cons (Mono.v _) (MonoL.cons (Mono.v _) (MonoL.cons (Mono.v _) (MonoL.cons (Mono.v _) (MonoL.cons (Mono.v _) (MonoL.cons (Mono.v _) (MonoL.cons (Mono.v _) (MonoL.cons (Mono.v _) (MonoL.cons (Mono.v _) (MonoL.cons (Mono.v _) (MonoL.cons (Mono.v _) (MonoL.cons (Mono.v _) (MonoL.cons (Mono.v _) (MonoL.cons (Mono.v _) (MonoL.cons (Mono.v _) (MonoL.cons (Mono.v _) (MonoL.cons (Mono.v _) (MonoL.cons (Mono.v _) (MonoL.cons (Mono.v _) (MonoL.cons (Mono.v _) (MonoL.cons (Mono.v _) (MonoL.cons (Mono.v _) (MonoL.cons (Mono.v _) (MonoL.cons (Mono.v _) (MonoL.cons (Mono.v _) (MonoL.cons (Mono.v _) (MonoL.cons (Mono.v _) (MonoL.cons (Mono.v _) MonoL.nil)))))))))))))))))))))))))))))))))))))))))))))))))))))))))))))))))) ?_ ?_
  · intro i hi
    have hi2 : i = 0 ∨ i = 1 ∨ i = 2 ∨ i = 3 ∨ i = 4 ∨ i = 5 ∨ i = 6 ∨ i = 7 ∨ i = 8 ∨ i = 9 ∨ i = 10 ∨ i = 11 ∨ i = 12 ∨ i = 13 ∨ i = 14 ∨ i = 15 ∨ i = 16 ∨ i = 17 ∨ i = 18 ∨ i = 19 ∨ i = 20 ∨ i = 21 ∨ i = 22 ∨ i = 23 ∨ i = 24 ∨ i = 25 ∨ i = 26 ∨ i = 27 ∨ i = 28 ∨ i = 29 ∨ i = 30 ∨ i = 31 ∨ i = 32 ∨ i = 33 ∨ i = 34 ∨ i = 35 ∨ i = 36 ∨ i = 37 ∨ i = 38 ∨ i = 39 ∨ i = 40 ∨ i = 41 ∨ i = 42 ∨ i = 43 ∨ i = 44 ∨ i = 45 ∨ i = 46 ∨ i = 47 ∨ i = 48 ∨ i = 49 ∨ i = 50 ∨ i = 51 ∨ i = 52 ∨ i = 53 ∨ i = 54 ∨ i = 55 ∨ i = 56 ∨ i = 57 ∨ i = 58 ∨ i = 59 ∨ i = 60 ∨ i = 61 ∨ i = 62 ∨ i = 63 ∨ i = 64 ∨ i = 65 := by simp only [List.size_toArray, List.append_eq, List.length_append, List.length_cons, List.length_nil] at hi; omega
    clear hi
    rcases hi2 with rfl | rfl | rfl | rfl | rfl | rfl | rfl | rfl | rfl | rfl | rfl | rfl | rfl | rfl | rfl | rfl | rfl | rfl | rfl | rfl | rfl | rfl | rfl | rfl | rfl | rfl | rfl | rfl | rfl | rfl | rfl | rfl | rfl | rfl | rfl | rfl | rfl | rfl | rfl | rfl | rfl | rfl | rfl | rfl | rfl | rfl | rfl | rfl | rfl | rfl | rfl | rfl | rfl | rfl | rfl | rfl | rfl | rfl | rfl | rfl | rfl | rfl | rfl | rfl | rfl | rfl
    · -- 0: Op.call { callee := Callee.value (Operand.func 13), args := 
      refine AnyO.Step.mk rfl [] (by kernel_rfl) ?_
      intro vs u hE hp ac hb K hK
      rw [if_pos (AnyO.wanted_none rfl)]
      clear hb hp
      go_simp
      go_at_call 13
      refine (known13 u (HX.out.keep (Below.step HY.out (Below.step (below_drew _) hE))).1 (HX.out.keep (Below.step HY.out (Below.step (below_drew _) hE))).2).mono ?_
      rintro e w2 ⟨rfl, hb2⟩
      exact hK _ _ hb2 rfl
    · -- 1: Op.move (Operand.tmp 18)
      refine AnyO.Step.mk rfl [0, 0] (by kernel_rfl) ?_
      intro vs u hE hp ac hb K hK
      have s18 : ac.tmps[18]?.getD undef = .bool true := by rw [hb]; exact (show _ = vs 0 by kernel_rfl).trans (hp 0 (by decide))
      rw [if_pos (AnyO.wanted_none rfl)]
      clear hb hp
      go_simp
      exact hK _ _ (Below.refl _ _) rfl
    · -- 2: Op.move (Operand.tmp 5)
      refine AnyO.Step.mk rfl [1] (by kernel_rfl) ?_
      intro vs u hE hp ac hb K hK
      have s5 : ac.tmps[5]?.getD undef = .bool false := by rw [hb]; kernel_rfl
      have s19 : ac.tmps[19]?.getD undef = .bool true := by rw [hb]; exact (show _ = vs 1 by kernel_rfl).trans (hp 1 (by decide))
      rw [if_pos (AnyO.wanted_some (g := 1) (t := 19) (want := true) rfl rfl s19)]
      clear hb hp
      go_simp
      exact hK _ _ (Below.refl _ _) rfl
    · -- 3: Op.unOp UnOp.not 4 (Operand.tmp 20)
      refine AnyO.Step.mk rfl [2, 1] (by kernel_rfl) ?_
      intro vs u hE hp ac hb K hK
      have s20 : ac.tmps[20]?.getD undef = .bool false := by rw [hb]; exact (show _ = vs 2 by kernel_rfl).trans (hp 2 (by decide))
      have s19 : ac.tmps[19]?.getD undef = .bool true := by rw [hb]; exact (show _ = vs 1 by kernel_rfl).trans (hp 1 (by decide))
      rw [if_pos (AnyO.wanted_some (g := 1) (t := 19) (want := true) rfl rfl s19)]
      clear hb hp
      go_simp
      exact hK _ _ (Below.refl _ _) rfl
    · -- 4: Op.pick (Operand.tmp 19) (Operand.tmp 21) (Operand.const (Va
      refine AnyO.Step.mk rfl [1, 3] (by kernel_rfl) ?_
      intro vs u hE hp ac hb K hK
      have s19 : ac.tmps[19]?.getD undef = .bool true := by rw [hb]; exact (show _ = vs 1 by kernel_rfl).trans (hp 1 (by decide))
      have s21 : ac.tmps[21]?.getD undef = .bool true := by rw [hb]; exact (show _ = vs 3 by kernel_rfl).trans (hp 3 (by decide))
      rw [if_pos (AnyO.wanted_none rfl)]
      clear hb hp
      go_simp
      exact hK _ _ (Below.refl _ _) rfl
    · -- 5: Op.move (Operand.tmp 22)
      refine AnyO.Step.mk rfl [4, 1] (by kernel_rfl) ?_
      intro vs u hE hp ac hb K hK
      have s22 : ac.tmps[22]?.getD undef = .bool true := by rw [hb]; exact (show _ = vs 4 by kernel_rfl).trans (hp 4 (by decide))
      rw [if_pos (AnyO.wanted_none rfl)]
      clear hb hp
      go_simp
      exact hK _ _ (Below.refl _ _) rfl
    · -- 6: Op.fieldAddr 45 (Operand.tmp 4) 0
      refine AnyO.Step.mk rfl [5] (by kernel_rfl) ?_
      intro vs u hE hp ac hb K hK
      have s4 : ac.tmps[4]?.getD undef = .pointer (some ⟨g4, 0, none⟩) := by rw [hb]; kernel_rfl
      have s23 : ac.tmps[23]?.getD undef = .bool true := by rw [hb]; exact (show _ = vs 5 by kernel_rfl).trans (hp 5 (by decide))
      rw [if_pos (AnyO.wanted_some (g := 5) (t := 23) (want := true) rfl rfl s23)]
      clear hb hp
      go_simp
      exact hK _ _ (Below.refl _ _) rfl
    · -- 7: Op.load 3 (Operand.tmp 24)
      refine AnyO.Step.mk rfl [6, 5] (by kernel_rfl) ?_
      intro vs u hE hp ac hb K hK
      have s24 : ac.tmps[24]?.getD undef = .pointer (some ⟨g4, 0, none⟩) := by rw [hb]; exact (show _ = vs 6 by kernel_rfl).trans (hp 6 (by decide))
      have s23 : ac.tmps[23]?.getD undef = .bool true := by rw [hb]; exact (show _ = vs 5 by kernel_rfl).trans (hp 5 (by decide))
      rw [if_pos (AnyO.wanted_some (g := 5) (t := 23) (want := true) rfl rfl s23)]
      clear hb hp
      have rr := cell_below m4 (Below.step (below_drew _) hE)
      go_simp
      exact hK _ _ (Below.refl _ _) rfl
    · -- 8: Op.binOp BinOp.eql 3 (Operand.tmp 25) (Operand.const (Value.
      refine AnyO.Step.mk rfl [7, 5] (by kernel_rfl) ?_
      intro vs u hE hp ac hb K hK
      have s25 : ac.tmps[25]?.getD undef = .int .i64 0 := by rw [hb]; exact (show _ = vs 7 by kernel_rfl).trans (hp 7 (by decide))
      have s23 : ac.tmps[23]?.getD undef = .bool true := by rw [hb]; exact (show _ = vs 5 by kernel_rfl).trans (hp 5 (by decide))
      rw [if_pos (AnyO.wanted_some (g := 5) (t := 23) (want := true) rfl rfl s23)]
      clear hb hp
      go_simp
      exact hK _ _ (Below.refl _ _) rfl
    · -- 9: Op.pick (Operand.tmp 23) (Operand.tmp 26) (Operand.const (Va
      refine AnyO.Step.mk rfl [5, 8] (by kernel_rfl) ?_
      intro vs u hE hp ac hb K hK
      have s23 : ac.tmps[23]?.getD undef = .bool true := by rw [hb]; exact (show _ = vs 5 by kernel_rfl).trans (hp 5 (by decide))
      have s26 : ac.tmps[26]?.getD undef = .bool true := by rw [hb]; exact (show _ = vs 8 by kernel_rfl).trans (hp 8 (by decide))
      rw [if_pos (AnyO.wanted_none rfl)]
      clear hb hp
      go_simp
      exact hK _ _ (Below.refl _ _) rfl
    · -- 10: Op.move (Operand.tmp 27)
      refine AnyO.Step.mk rfl [9, 5] (by kernel_rfl) ?_
      intro vs u hE hp ac hb K hK
      have s27 : ac.tmps[27]?.getD undef = .bool true := by rw [hb]; exact (show _ = vs 9 by kernel_rfl).trans (hp 9 (by decide))
      rw [if_pos (AnyO.wanted_none rfl)]
      clear hb hp
      go_simp
      exact hK _ _ (Below.refl _ _) rfl
    · -- 11: Op.move (Operand.tmp 7)
      refine AnyO.Step.mk rfl [10] (by kernel_rfl) ?_
      intro vs u hE hp ac hb K hK
      have s7 : ac.tmps[7]?.getD undef = .bool false := by rw [hb]; kernel_rfl
      have s28 : ac.tmps[28]?.getD undef = .bool true := by rw [hb]; exact (show _ = vs 10 by kernel_rfl).trans (hp 10 (by decide))
      rw [if_pos (AnyO.wanted_some (g := 10) (t := 28) (want := true) rfl rfl s28)]
      clear hb hp
      go_simp
      exact hK _ _ (Below.refl _ _) rfl
    · -- 12: Op.unOp UnOp.not 4 (Operand.tmp 29)
      refine AnyO.Step.mk rfl [11, 10] (by kernel_rfl) ?_
      intro vs u hE hp ac hb K hK
      have s29 : ac.tmps[29]?.getD undef = .bool false := by rw [hb]; exact (show _ = vs 11 by kernel_rfl).trans (hp 11 (by decide))
      have s28 : ac.tmps[28]?.getD undef = .bool true := by rw [hb]; exact (show _ = vs 10 by kernel_rfl).trans (hp 10 (by decide))
      rw [if_pos (AnyO.wanted_some (g := 10) (t := 28) (want := true) rfl rfl s28)]
      clear hb hp
      go_simp
      exact hK _ _ (Below.refl _ _) rfl
    · -- 13: Op.pick (Operand.tmp 28) (Operand.tmp 30) (Operand.const (Va
      refine AnyO.Step.mk rfl [10, 12] (by kernel_rfl) ?_
      intro vs u hE hp ac hb K hK
      have s28 : ac.tmps[28]?.getD undef = .bool true := by rw [hb]; exact (show _ = vs 10 by kernel_rfl).trans (hp 10 (by decide))
      have s30 : ac.tmps[30]?.getD undef = .bool true := by rw [hb]; exact (show _ = vs 12 by kernel_rfl).trans (hp 12 (by decide))
      rw [if_pos (AnyO.wanted_none rfl)]
      clear hb hp
      go_simp
      exact hK _ _ (Below.refl _ _) rfl
    · -- 14: Op.move (Operand.tmp 31)
      refine AnyO.Step.mk rfl [13, 10] (by kernel_rfl) ?_
      intro vs u hE hp ac hb K hK
      have s31 : ac.tmps[31]?.getD undef = .bool true := by rw [hb]; exact (show _ = vs 13 by kernel_rfl).trans (hp 13 (by decide))
      rw [if_pos (AnyO.wanted_none rfl)]
      clear hb hp
      go_simp
      exact hK _ _ (Below.refl _ _) rfl
    · -- 15: Op.move (Operand.tmp 3)
      refine AnyO.Step.mk rfl [14] (by kernel_rfl) ?_
      intro vs u hE hp ac hb K hK
      have s3 : ac.tmps[3]?.getD undef = .pointer none := by rw [hb]; kernel_rfl
      have s32 : ac.tmps[32]?.getD undef = .bool true := by rw [hb]; exact (show _ = vs 14 by kernel_rfl).trans (hp 14 (by decide))
      rw [if_pos (AnyO.wanted_some (g := 14) (t := 32) (want := true) rfl rfl s32)]
      clear hb hp
      go_simp
      exact hK _ _ (Below.refl _ _) rfl
    · -- 16: Op.fieldAddr 57 (Operand.tmp 1) 1
      refine AnyO.Step.mk rfl [14] (by kernel_rfl) ?_
      intro vs u hE hp ac hb K hK
      have s1 : ac.tmps[1]?.getD undef = .pointer (some ⟨g1, 0, none⟩) := by rw [hb]; kernel_rfl
      have s32 : ac.tmps[32]?.getD undef = .bool true := by rw [hb]; exact (show _ = vs 14 by kernel_rfl).trans (hp 14 (by decide))
      rw [if_pos (AnyO.wanted_some (g := 14) (t := 32) (want := true) rfl rfl s32)]
      clear hb hp
      go_simp
      exact hK _ _ (Below.refl _ _) rfl
    · -- 17: Op.fieldAddr 28 (Operand.tmp 34) 0
      refine AnyO.Step.mk rfl [16, 14] (by kernel_rfl) ?_
      intro vs u hE hp ac hb K hK
      have s34 : ac.tmps[34]?.getD undef = .pointer (some ⟨g1, 1, none⟩) := by rw [hb]; exact (show _ = vs 16 by kernel_rfl).trans (hp 16 (by decide))
      have s32 : ac.tmps[32]?.getD undef = .bool true := by rw [hb]; exact (show _ = vs 14 by kernel_rfl).trans (hp 14 (by decide))
      rw [if_pos (AnyO.wanted_some (g := 14) (t := 32) (want := true) rfl rfl s32)]
      clear hb hp
      go_simp
      exact hK _ _ (Below.refl _ _) rfl
    · -- 18: Op.load 22 (Operand.tmp 35)
      refine AnyO.Step.mk rfl [17, 14] (by kernel_rfl) ?_
      intro vs u hE hp ac hb K hK
      have s35 : ac.tmps[35]?.getD undef = .pointer (some ⟨g1, 1, none⟩) := by rw [hb]; exact (show _ = vs 17 by kernel_rfl).trans (hp 17 (by decide))
      have s32 : ac.tmps[32]?.getD undef = .bool true := by rw [hb]; exact (show _ = vs 14 by kernel_rfl).trans (hp 14 (by decide))
      rw [if_pos (AnyO.wanted_some (g := 14) (t := 32) (want := true) rfl rfl s32)]
      clear hb hp
      have rr := okA_below m1 hlt (Below.step (below_drew _) hE)
      rw [m1'] at rr
      obtain ⟨rr1, rr2⟩ := rr
      go_simp
      exact hK _ _ (Below.refl _ _) rfl
    · -- 19: Op.fieldAddr 57 (Operand.tmp 1) 1
      refine AnyO.Step.mk rfl [14] (by kernel_rfl) ?_
      intro vs u hE hp ac hb K hK
      have s1 : ac.tmps[1]?.getD undef = .pointer (some ⟨g1, 0, none⟩) := by rw [hb]; kernel_rfl
      have s32 : ac.tmps[32]?.getD undef = .bool true := by rw [hb]; exact (show _ = vs 14 by kernel_rfl).trans (hp 14 (by decide))
      rw [if_pos (AnyO.wanted_some (g := 14) (t := 32) (want := true) rfl rfl s32)]
      clear hb hp
      go_simp
      exact hK _ _ (Below.refl _ _) rfl
    · -- 20: Op.fieldAddr 28 (Operand.tmp 37) 1
      refine AnyO.Step.mk rfl [19, 14] (by kernel_rfl) ?_
      intro vs u hE hp ac hb K hK
      have s37 : ac.tmps[37]?.getD undef = .pointer (some ⟨g1, 1, none⟩) := by rw [hb]; exact (show _ = vs 19 by kernel_rfl).trans (hp 19 (by decide))
      have s32 : ac.tmps[32]?.getD undef = .bool true := by rw [hb]; exact (show _ = vs 14 by kernel_rfl).trans (hp 14 (by decide))
      rw [if_pos (AnyO.wanted_some (g := 14) (t := 32) (want := true) rfl rfl s32)]
      clear hb hp
      go_simp
      exact hK _ _ (Below.refl _ _) rfl
    · -- 21: Op.load 9 (Operand.tmp 38)
      refine AnyO.Step.mk rfl [20, 14] (by kernel_rfl) ?_
      intro vs u hE hp ac hb K hK
      have s38 : ac.tmps[38]?.getD undef = .pointer (some ⟨g1, 33, none⟩) := by rw [hb]; exact (show _ = vs 20 by kernel_rfl).trans (hp 20 (by decide))
      have s32 : ac.tmps[32]?.getD undef = .bool true := by rw [hb]; exact (show _ = vs 14 by kernel_rfl).trans (hp 14 (by decide))
      rw [if_pos (AnyO.wanted_some (g := 14) (t := 32) (want := true) rfl rfl s32)]
      clear hb hp
      have rr := cell_below m33 (Below.step (below_drew _) hE)
      go_simp
      exact hK _ _ (Below.refl _ _) rfl
    · -- 22: Op.call { callee := Callee.value (Operand.func 16), args := 
      refine AnyO.Step.mk rfl [21, 14, 14] (by kernel_rfl) ?_
      intro vs u hE hp ac hb K hK
      have s39 : ac.tmps[39]?.getD undef = .string x.a.2 := by rw [hb]; exact (show _ = vs 21 by kernel_rfl).trans (hp 21 (by decide))
      have s32 : ac.tmps[32]?.getD undef = .bool true := by rw [hb]; exact (show _ = vs 14 by kernel_rfl).trans (hp 14 (by decide))
      rw [if_pos (AnyO.wanted_some (g := 14) (t := 32) (want := true) rfl rfl s32)]
      clear hb hp
      go_simp
      go_at_call 16
      refine (cut16 x.a.2 u).mono ?_
      rintro e w2 ⟨rfl, rfl⟩
      exact hK _ _ (Below.refl _ _) rfl
    · -- 23: Op.call { callee := Callee.value (Operand.func 15), args := 
      refine AnyO.Step.mk rfl [15, 18, 22, 22, 14] (by kernel_rfl) ?_
      intro vs u hE hp ac hb K hK
      have s33 : ac.tmps[33]?.getD undef = .pointer none := by rw [hb]; exact (show _ = vs 15 by kernel_rfl).trans (hp 15 (by decide))
      have s36 : ac.tmps[36]?.getD undef = vI x.a.1 := by rw [hb]; exact (show _ = vs 18 by kernel_rfl).trans (hp 18 (by decide))
      have s40 : ac.tmps[40]?.getD undef = .string (cutS x.a.2) := by rw [hb]; exact (show _ = vs 22 by kernel_rfl).trans (hp 22 (by decide))
      have s32 : ac.tmps[32]?.getD undef = .bool true := by rw [hb]; exact (show _ = vs 14 by kernel_rfl).trans (hp 14 (by decide))
      rw [if_pos (AnyO.wanted_some (g := 14) (t := 32) (want := true) rfl rfl s32)]
      clear hb hp
      go_simp
      go_at_call 15
      refine (add15_nil u _ _).mono ?_
      rintro e w2 ⟨rfl, hb2⟩
      exact hK _ _ hb2 rfl
    · -- 24: Op.binOp BinOp.eql 24 (Operand.tmp 41) (Operand.const (Value
      refine AnyO.Step.mk rfl [23, 14] (by kernel_rfl) ?_
      intro vs u hE hp ac hb K hK
      have s41 : ac.tmps[41]?.getD undef = .int .i64 1 := by rw [hb]; exact (show _ = vs 23 by kernel_rfl).trans (hp 23 (by decide))
      have s32 : ac.tmps[32]?.getD undef = .bool true := by rw [hb]; exact (show _ = vs 14 by kernel_rfl).trans (hp 14 (by decide))
      rw [if_pos (AnyO.wanted_some (g := 14) (t := 32) (want := true) rfl rfl s32)]
      clear hb hp
      go_simp
      exact hK _ _ (Below.refl _ _) rfl
    · -- 25: Op.pick (Operand.tmp 32) (Operand.tmp 42) (Operand.const (Va
      refine AnyO.Step.mk rfl [14, 24] (by kernel_rfl) ?_
      intro vs u hE hp ac hb K hK
      have s32 : ac.tmps[32]?.getD undef = .bool true := by rw [hb]; exact (show _ = vs 14 by kernel_rfl).trans (hp 14 (by decide))
      have s42 : ac.tmps[42]?.getD undef = .bool true := by rw [hb]; exact (show _ = vs 24 by kernel_rfl).trans (hp 24 (by decide))
      rw [if_pos (AnyO.wanted_none rfl)]
      clear hb hp
      go_simp
      exact hK _ _ (Below.refl _ _) rfl
    · -- 26: Op.move (Operand.tmp 43)
      refine AnyO.Step.mk rfl [25, 23] (by kernel_rfl) ?_
      intro vs u hE hp ac hb K hK
      have s43 : ac.tmps[43]?.getD undef = .bool true := by rw [hb]; exact (show _ = vs 25 by kernel_rfl).trans (hp 25 (by decide))
      rw [if_pos (AnyO.wanted_none rfl)]
      clear hb hp
      go_simp
      exact hK _ _ (Below.refl _ _) rfl
    · -- 27: Op.move (Operand.tmp 3)
      refine AnyO.Step.mk rfl [26] (by kernel_rfl) ?_
      intro vs u hE hp ac hb K hK
      have s3 : ac.tmps[3]?.getD undef = .pointer none := by rw [hb]; kernel_rfl
      have s44 : ac.tmps[44]?.getD undef = .bool true := by rw [hb]; exact (show _ = vs 26 by kernel_rfl).trans (hp 26 (by decide))
      rw [if_pos (AnyO.wanted_some (g := 26) (t := 44) (want := true) rfl rfl s44)]
      clear hb hp
      go_simp
      exact hK _ _ (Below.refl _ _) rfl
    · -- 28: Op.fieldAddr 57 (Operand.tmp 1) 2
      refine AnyO.Step.mk rfl [26] (by kernel_rfl) ?_
      intro vs u hE hp ac hb K hK
      have s1 : ac.tmps[1]?.getD undef = .pointer (some ⟨g1, 0, none⟩) := by rw [hb]; kernel_rfl
      have s44 : ac.tmps[44]?.getD undef = .bool true := by rw [hb]; exact (show _ = vs 26 by kernel_rfl).trans (hp 26 (by decide))
      rw [if_pos (AnyO.wanted_some (g := 26) (t := 44) (want := true) rfl rfl s44)]
      clear hb hp
      go_simp
      exact hK _ _ (Below.refl _ _) rfl
    · -- 29: Op.load 55 (Operand.tmp 46)
      refine AnyO.Step.mk rfl [28, 26] (by kernel_rfl) ?_
      intro vs u hE hp ac hb K hK
      have s46 : ac.tmps[46]?.getD undef = .pointer (some ⟨g1, 34, none⟩) := by rw [hb]; exact (show _ = vs 28 by kernel_rfl).trans (hp 28 (by decide))
      have s44 : ac.tmps[44]?.getD undef = .bool true := by rw [hb]; exact (show _ = vs 26 by kernel_rfl).trans (hp 26 (by decide))
      rw [if_pos (AnyO.wanted_some (g := 26) (t := 44) (want := true) rfl rfl s44)]
      clear hb hp
      have rr := okA_below m34 hlt (Below.step (below_drew _) hE)
      rw [m34'] at rr
      obtain ⟨rr1, rr2⟩ := rr
      go_simp
      exact hK _ _ (Below.refl _ _) rfl
    · -- 30: Op.call { callee := Callee.value (Operand.func 30), args := 
      refine AnyO.Step.mk rfl [29, 26, 26] (by kernel_rfl) ?_
      intro vs u hE hp ac hb K hK
      have s47 : ac.tmps[47]?.getD undef = vK x.c := by rw [hb]; exact (show _ = vs 29 by kernel_rfl).trans (hp 29 (by decide))
      have s44 : ac.tmps[44]?.getD undef = .bool true := by rw [hb]; exact (show _ = vs 26 by kernel_rfl).trans (hp 26 (by decide))
      rw [if_pos (AnyO.wanted_some (g := 26) (t := 44) (want := true) rfl rfl s44)]
      clear hb hp
      go_simp
      go_at_call 30
      refine (to30 x.c u).mono ?_
      rintro e w2 ⟨rfl, hb2⟩
      exact hK _ _ hb2 rfl
    · -- 31: Op.call { callee := Callee.value (Operand.func 19), args := 
      refine AnyO.Step.mk rfl [27, 30, 30, 26] (by kernel_rfl) ?_
      intro vs u hE hp ac hb K hK
      have s45 : ac.tmps[45]?.getD undef = .pointer none := by rw [hb]; exact (show _ = vs 27 by kernel_rfl).trans (hp 27 (by decide))
      have s48 : ac.tmps[48]?.getD undef = vC (toS x.c) := by rw [hb]; exact (show _ = vs 30 by kernel_rfl).trans (hp 30 (by decide))
      have s44 : ac.tmps[44]?.getD undef = .bool true := by rw [hb]; exact (show _ = vs 26 by kernel_rfl).trans (hp 26 (by decide))
      rw [if_pos (AnyO.wanted_some (g := 26) (t := 44) (want := true) rfl rfl s44)]
      clear hb hp
      go_simp
      go_at_call 19
      refine (hear19_nil u _).mono ?_
      rintro e w2 ⟨rfl, hb2⟩
      exact hK _ _ hb2 rfl
    · -- 32: Op.binOp BinOp.eql 24 (Operand.tmp 49) (Operand.const (Value
      refine AnyO.Step.mk rfl [31, 26] (by kernel_rfl) ?_
      intro vs u hE hp ac hb K hK
      have s49 : ac.tmps[49]?.getD undef = .int .i64 1 := by rw [hb]; exact (show _ = vs 31 by kernel_rfl).trans (hp 31 (by decide))
      have s44 : ac.tmps[44]?.getD undef = .bool true := by rw [hb]; exact (show _ = vs 26 by kernel_rfl).trans (hp 26 (by decide))
      rw [if_pos (AnyO.wanted_some (g := 26) (t := 44) (want := true) rfl rfl s44)]
      clear hb hp
      go_simp
      exact hK _ _ (Below.refl _ _) rfl
    · -- 33: Op.pick (Operand.tmp 44) (Operand.tmp 50) (Operand.const (Va
      refine AnyO.Step.mk rfl [26, 32] (by kernel_rfl) ?_
      intro vs u hE hp ac hb K hK
      have s44 : ac.tmps[44]?.getD undef = .bool true := by rw [hb]; exact (show _ = vs 26 by kernel_rfl).trans (hp 26 (by decide))
      have s50 : ac.tmps[50]?.getD undef = .bool true := by rw [hb]; exact (show _ = vs 32 by kernel_rfl).trans (hp 32 (by decide))
      rw [if_pos (AnyO.wanted_none rfl)]
      clear hb hp
      go_simp
      exact hK _ _ (Below.refl _ _) rfl
    · -- 34: Op.move (Operand.tmp 51)
      refine AnyO.Step.mk rfl [33, 31] (by kernel_rfl) ?_
      intro vs u hE hp ac hb K hK
      have s51 : ac.tmps[51]?.getD undef = .bool true := by rw [hb]; exact (show _ = vs 33 by kernel_rfl).trans (hp 33 (by decide))
      rw [if_pos (AnyO.wanted_none rfl)]
      clear hb hp
      go_simp
      exact hK _ _ (Below.refl _ _) rfl
    · -- 35: Op.move (Operand.tmp 3)
      refine AnyO.Step.mk rfl [34] (by kernel_rfl) ?_
      intro vs u hE hp ac hb K hK
      have s3 : ac.tmps[3]?.getD undef = .pointer none := by rw [hb]; kernel_rfl
      have s52 : ac.tmps[52]?.getD undef = .bool true := by rw [hb]; exact (show _ = vs 34 by kernel_rfl).trans (hp 34 (by decide))
      rw [if_pos (AnyO.wanted_some (g := 34) (t := 52) (want := true) rfl rfl s52)]
      clear hb hp
      go_simp
      exact hK _ _ (Below.refl _ _) rfl
    · -- 36: Op.call { callee := Callee.value (Operand.func 31), args := 
      refine AnyO.Step.mk rfl [35, 34, 34] (by kernel_rfl) ?_
      intro vs u hE hp ac hb K hK
      have s53 : ac.tmps[53]?.getD undef = .pointer none := by rw [hb]; exact (show _ = vs 35 by kernel_rfl).trans (hp 35 (by decide))
      have s52 : ac.tmps[52]?.getD undef = .bool true := by rw [hb]; exact (show _ = vs 34 by kernel_rfl).trans (hp 34 (by decide))
      rw [if_pos (AnyO.wanted_some (g := 34) (t := 52) (want := true) rfl rfl s52)]
      clear hb hp
      go_simp
      go_at_call 31
      refine (drop31_nil u).mono ?_
      rintro e w2 ⟨rfl, hb2⟩
      exact hK _ _ hb2 rfl
    · -- 37: Op.binOp BinOp.eql 24 (Operand.tmp 54) (Operand.const (Value
      refine AnyO.Step.mk rfl [36, 34] (by kernel_rfl) ?_
      intro vs u hE hp ac hb K hK
      have s54 : ac.tmps[54]?.getD undef = .int .i64 1 := by rw [hb]; exact (show _ = vs 36 by kernel_rfl).trans (hp 36 (by decide))
      have s52 : ac.tmps[52]?.getD undef = .bool true := by rw [hb]; exact (show _ = vs 34 by kernel_rfl).trans (hp 34 (by decide))
      rw [if_pos (AnyO.wanted_some (g := 34) (t := 52) (want := true) rfl rfl s52)]
      clear hb hp
      go_simp
      exact hK _ _ (Below.refl _ _) rfl
    · -- 38: Op.pick (Operand.tmp 52) (Operand.tmp 55) (Operand.const (Va
      refine AnyO.Step.mk rfl [34, 37] (by kernel_rfl) ?_
      intro vs u hE hp ac hb K hK
      have s52 : ac.tmps[52]?.getD undef = .bool true := by rw [hb]; exact (show _ = vs 34 by kernel_rfl).trans (hp 34 (by decide))
      have s55 : ac.tmps[55]?.getD undef = .bool true := by rw [hb]; exact (show _ = vs 37 by kernel_rfl).trans (hp 37 (by decide))
      rw [if_pos (AnyO.wanted_none rfl)]
      clear hb hp
      go_simp
      exact hK _ _ (Below.refl _ _) rfl
    · -- 39: Op.move (Operand.tmp 56)
      refine AnyO.Step.mk rfl [38, 36] (by kernel_rfl) ?_
      intro vs u hE hp ac hb K hK
      have s56 : ac.tmps[56]?.getD undef = .bool true := by rw [hb]; exact (show _ = vs 38 by kernel_rfl).trans (hp 38 (by decide))
      rw [if_pos (AnyO.wanted_none rfl)]
      clear hb hp
      go_simp
      exact hK _ _ (Below.refl _ _) rfl
    · -- 40: Op.move (Operand.tmp 3)
      refine AnyO.Step.mk rfl [39] (by kernel_rfl) ?_
      intro vs u hE hp ac hb K hK
      have s3 : ac.tmps[3]?.getD undef = .pointer none := by rw [hb]; kernel_rfl
      have s57 : ac.tmps[57]?.getD undef = .bool true := by rw [hb]; exact (show _ = vs 39 by kernel_rfl).trans (hp 39 (by decide))
      rw [if_pos (AnyO.wanted_some (g := 39) (t := 57) (want := true) rfl rfl s57)]
      clear hb hp
      go_simp
      exact hK _ _ (Below.refl _ _) rfl
    · -- 41: Op.call { callee := Callee.value (Operand.func 25), args := 
      refine AnyO.Step.mk rfl [40, 39, 39] (by kernel_rfl) ?_
      intro vs u hE hp ac hb K hK
      have s58 : ac.tmps[58]?.getD undef = .pointer none := by rw [hb]; exact (show _ = vs 40 by kernel_rfl).trans (hp 40 (by decide))
      have s57 : ac.tmps[57]?.getD undef = .bool true := by rw [hb]; exact (show _ = vs 39 by kernel_rfl).trans (hp 39 (by decide))
      rw [if_pos (AnyO.wanted_some (g := 39) (t := 57) (want := true) rfl rfl s57)]
      clear hb hp
      go_simp
      go_at_call 25
      refine (outcomes25_nil u).mono ?_
      rintro e w2 ⟨rfl, hb2⟩
      exact hK _ _ hb2 rfl
    · -- 42: Op.call { callee := Callee.builtin Builtin.len, args := #[Op
      refine AnyO.Step.mk rfl [41, 39] (by kernel_rfl) ?_
      intro vs u hE hp ac hb K hK
      have s59 : ac.tmps[59]?.getD undef = .slice none 0 0 := by rw [hb]; exact (show _ = vs 41 by kernel_rfl).trans (hp 41 (by decide))
      have s57 : ac.tmps[57]?.getD undef = .bool true := by rw [hb]; exact (show _ = vs 39 by kernel_rfl).trans (hp 39 (by decide))
      rw [if_pos (AnyO.wanted_some (g := 39) (t := 57) (want := true) rfl rfl s57)]
      clear hb hp
      go_simp
      exact hK _ _ (Below.refl _ _) rfl
    · -- 43: Op.binOp BinOp.eql 3 (Operand.tmp 60) (Operand.const (Value.
      refine AnyO.Step.mk rfl [42, 39] (by kernel_rfl) ?_
      intro vs u hE hp ac hb K hK
      have s60 : ac.tmps[60]?.getD undef = .int .i64 0 := by rw [hb]; exact (show _ = vs 42 by kernel_rfl).trans (hp 42 (by decide))
      have s57 : ac.tmps[57]?.getD undef = .bool true := by rw [hb]; exact (show _ = vs 39 by kernel_rfl).trans (hp 39 (by decide))
      rw [if_pos (AnyO.wanted_some (g := 39) (t := 57) (want := true) rfl rfl s57)]
      clear hb hp
      go_simp
      exact hK _ _ (Below.refl _ _) rfl
    · -- 44: Op.pick (Operand.tmp 57) (Operand.tmp 61) (Operand.const (Va
      refine AnyO.Step.mk rfl [39, 43] (by kernel_rfl) ?_
      intro vs u hE hp ac hb K hK
      have s57 : ac.tmps[57]?.getD undef = .bool true := by rw [hb]; exact (show _ = vs 39 by kernel_rfl).trans (hp 39 (by decide))
      have s61 : ac.tmps[61]?.getD undef = .bool true := by rw [hb]; exact (show _ = vs 43 by kernel_rfl).trans (hp 43 (by decide))
      rw [if_pos (AnyO.wanted_none rfl)]
      clear hb hp
      go_simp
      exact hK _ _ (Below.refl _ _) rfl
    · -- 45: Op.move (Operand.tmp 62)
      refine AnyO.Step.mk rfl [44, 41] (by kernel_rfl) ?_
      intro vs u hE hp ac hb K hK
      have s62 : ac.tmps[62]?.getD undef = .bool true := by rw [hb]; exact (show _ = vs 44 by kernel_rfl).trans (hp 44 (by decide))
      rw [if_pos (AnyO.wanted_none rfl)]
      clear hb hp
      go_simp
      exact hK _ _ (Below.refl _ _) rfl
    · -- 46: Op.move (Operand.tmp 3)
      refine AnyO.Step.mk rfl [45] (by kernel_rfl) ?_
      intro vs u hE hp ac hb K hK
      have s3 : ac.tmps[3]?.getD undef = .pointer none := by rw [hb]; kernel_rfl
      have s63 : ac.tmps[63]?.getD undef = .bool true := by rw [hb]; exact (show _ = vs 45 by kernel_rfl).trans (hp 45 (by decide))
      rw [if_pos (AnyO.wanted_some (g := 45) (t := 63) (want := true) rfl rfl s63)]
      clear hb hp
      go_simp
      exact hK _ _ (Below.refl _ _) rfl
    · -- 47: Op.call { callee := Callee.value (Operand.func 20), args := 
      refine AnyO.Step.mk rfl [46, 45, 45] (by kernel_rfl) ?_
      intro vs u hE hp ac hb K hK
      have s64 : ac.tmps[64]?.getD undef = .pointer none := by rw [hb]; exact (show _ = vs 46 by kernel_rfl).trans (hp 46 (by decide))
      have s63 : ac.tmps[63]?.getD undef = .bool true := by rw [hb]; exact (show _ = vs 45 by kernel_rfl).trans (hp 45 (by decide))
      rw [if_pos (AnyO.wanted_some (g := 45) (t := 63) (want := true) rfl rfl s63)]
      clear hb hp
      go_simp
      go_at_call 20
      refine (state20_nil u).mono ?_
      rintro e w2 ⟨rfl, hb2⟩
      exact hK _ _ hb2 rfl
    · -- 48: Op.binOp BinOp.eql 3 (Operand.tmp 65) (Operand.const (Value.
      refine AnyO.Step.mk rfl [47, 45] (by kernel_rfl) ?_
      intro vs u hE hp ac hb K hK
      have s65 : ac.tmps[65]?.getD undef = .int .i64 0 := by rw [hb]; exact (show _ = vs 47 by kernel_rfl).trans (hp 47 (by decide))
      have s63 : ac.tmps[63]?.getD undef = .bool true := by rw [hb]; exact (show _ = vs 45 by kernel_rfl).trans (hp 45 (by decide))
      rw [if_pos (AnyO.wanted_some (g := 45) (t := 63) (want := true) rfl rfl s63)]
      clear hb hp
      go_simp
      exact hK _ _ (Below.refl _ _) rfl
    · -- 49: Op.pick (Operand.tmp 63) (Operand.tmp 66) (Operand.const (Va
      refine AnyO.Step.mk rfl [45, 48] (by kernel_rfl) ?_
      intro vs u hE hp ac hb K hK
      have s63 : ac.tmps[63]?.getD undef = .bool true := by rw [hb]; exact (show _ = vs 45 by kernel_rfl).trans (hp 45 (by decide))
      have s66 : ac.tmps[66]?.getD undef = .bool true := by rw [hb]; exact (show _ = vs 48 by kernel_rfl).trans (hp 48 (by decide))
      rw [if_pos (AnyO.wanted_none rfl)]
      clear hb hp
      go_simp
      exact hK _ _ (Below.refl _ _) rfl
    · -- 50: Op.move (Operand.tmp 67)
      refine AnyO.Step.mk rfl [49, 47] (by kernel_rfl) ?_
      intro vs u hE hp ac hb K hK
      have s67 : ac.tmps[67]?.getD undef = .bool true := by rw [hb]; exact (show _ = vs 49 by kernel_rfl).trans (hp 49 (by decide))
      rw [if_pos (AnyO.wanted_none rfl)]
      clear hb hp
      go_simp
      exact hK _ _ (Below.refl _ _) rfl
    · -- 51: Op.move (Operand.tmp 3)
      refine AnyO.Step.mk rfl [50] (by kernel_rfl) ?_
      intro vs u hE hp ac hb K hK
      have s3 : ac.tmps[3]?.getD undef = .pointer none := by rw [hb]; kernel_rfl
      have s68 : ac.tmps[68]?.getD undef = .bool true := by rw [hb]; exact (show _ = vs 50 by kernel_rfl).trans (hp 50 (by decide))
      rw [if_pos (AnyO.wanted_some (g := 50) (t := 68) (want := true) rfl rfl s68)]
      clear hb hp
      go_simp
      exact hK _ _ (Below.refl _ _) rfl
    · -- 52: Op.call { callee := Callee.value (Operand.func 26), args := 
      refine AnyO.Step.mk rfl [51, 50, 50] (by kernel_rfl) ?_
      intro vs u hE hp ac hb K hK
      have s69 : ac.tmps[69]?.getD undef = .pointer none := by rw [hb]; exact (show _ = vs 51 by kernel_rfl).trans (hp 51 (by decide))
      have s68 : ac.tmps[68]?.getD undef = .bool true := by rw [hb]; exact (show _ = vs 50 by kernel_rfl).trans (hp 50 (by decide))
      rw [if_pos (AnyO.wanted_some (g := 50) (t := 68) (want := true) rfl rfl s68)]
      clear hb hp
      go_simp
      go_at_call 26
      refine (waiting26_nil u).mono ?_
      rintro e w2 ⟨rfl, hb2⟩
      exact hK _ _ hb2 rfl
    · -- 53: Op.call { callee := Callee.builtin Builtin.len, args := #[Op
      refine AnyO.Step.mk rfl [52, 50] (by kernel_rfl) ?_
      intro vs u hE hp ac hb K hK
      have s70 : ac.tmps[70]?.getD undef = .slice none 0 0 := by rw [hb]; exact (show _ = vs 52 by kernel_rfl).trans (hp 52 (by decide))
      have s68 : ac.tmps[68]?.getD undef = .bool true := by rw [hb]; exact (show _ = vs 50 by kernel_rfl).trans (hp 50 (by decide))
      rw [if_pos (AnyO.wanted_some (g := 50) (t := 68) (want := true) rfl rfl s68)]
      clear hb hp
      go_simp
      exact hK _ _ (Below.refl _ _) rfl
    · -- 54: Op.binOp BinOp.eql 3 (Operand.tmp 71) (Operand.const (Value.
      refine AnyO.Step.mk rfl [53, 50] (by kernel_rfl) ?_
      intro vs u hE hp ac hb K hK
      have s71 : ac.tmps[71]?.getD undef = .int .i64 0 := by rw [hb]; exact (show _ = vs 53 by kernel_rfl).trans (hp 53 (by decide))
      have s68 : ac.tmps[68]?.getD undef = .bool true := by rw [hb]; exact (show _ = vs 50 by kernel_rfl).trans (hp 50 (by decide))
      rw [if_pos (AnyO.wanted_some (g := 50) (t := 68) (want := true) rfl rfl s68)]
      clear hb hp
      go_simp
      exact hK _ _ (Below.refl _ _) rfl
    · -- 55: Op.pick (Operand.tmp 68) (Operand.tmp 72) (Operand.const (Va
      refine AnyO.Step.mk rfl [50, 54] (by kernel_rfl) ?_
      intro vs u hE hp ac hb K hK
      have s68 : ac.tmps[68]?.getD undef = .bool true := by rw [hb]; exact (show _ = vs 50 by kernel_rfl).trans (hp 50 (by decide))
      have s72 : ac.tmps[72]?.getD undef = .bool true := by rw [hb]; exact (show _ = vs 54 by kernel_rfl).trans (hp 54 (by decide))
      rw [if_pos (AnyO.wanted_none rfl)]
      clear hb hp
      go_simp
      exact hK _ _ (Below.refl _ _) rfl
    · -- 56: Op.move (Operand.tmp 73)
      refine AnyO.Step.mk rfl [55, 52] (by kernel_rfl) ?_
      intro vs u hE hp ac hb K hK
      have s73 : ac.tmps[73]?.getD undef = .bool true := by rw [hb]; exact (show _ = vs 55 by kernel_rfl).trans (hp 55 (by decide))
      rw [if_pos (AnyO.wanted_none rfl)]
      clear hb hp
      go_simp
      exact hK _ _ (Below.refl _ _) rfl
    · -- 57: Op.move (Operand.tmp 3)
      refine AnyO.Step.mk rfl [56] (by kernel_rfl) ?_
      intro vs u hE hp ac hb K hK
      have s3 : ac.tmps[3]?.getD undef = .pointer none := by rw [hb]; kernel_rfl
      have s74 : ac.tmps[74]?.getD undef = .bool true := by rw [hb]; exact (show _ = vs 56 by kernel_rfl).trans (hp 56 (by decide))
      rw [if_pos (AnyO.wanted_some (g := 56) (t := 74) (want := true) rfl rfl s74)]
      clear hb hp
      go_simp
      exact hK _ _ (Below.refl _ _) rfl
    · -- 58: Op.call { callee := Callee.value (Operand.func 29), args := 
      refine AnyO.Step.mk rfl [57, 56, 56] (by kernel_rfl) ?_
      intro vs u hE hp ac hb K hK
      have s75 : ac.tmps[75]?.getD undef = .pointer none := by rw [hb]; exact (show _ = vs 57 by kernel_rfl).trans (hp 57 (by decide))
      have s74 : ac.tmps[74]?.getD undef = .bool true := by rw [hb]; exact (show _ = vs 56 by kernel_rfl).trans (hp 56 (by decide))
      rw [if_pos (AnyO.wanted_some (g := 56) (t := 74) (want := true) rfl rfl s74)]
      clear hb hp
      go_simp
      go_at_call 29
      refine (clone29_nil u).mono ?_
      rintro e w2 ⟨rfl, hb2⟩
      exact hK _ _ hb2 rfl
    · -- 59: Op.binOp BinOp.eql 23 (Operand.tmp 76) (Operand.const (Value
      refine AnyO.Step.mk rfl [58, 56] (by kernel_rfl) ?_
      intro vs u hE hp ac hb K hK
      have s76 : ac.tmps[76]?.getD undef = .pointer none := by rw [hb]; exact (show _ = vs 58 by kernel_rfl).trans (hp 58 (by decide))
      have s74 : ac.tmps[74]?.getD undef = .bool true := by rw [hb]; exact (show _ = vs 56 by kernel_rfl).trans (hp 56 (by decide))
      rw [if_pos (AnyO.wanted_some (g := 56) (t := 74) (want := true) rfl rfl s74)]
      clear hb hp
      go_simp
      exact hK _ _ (Below.refl _ _) rfl
    · -- 60: Op.pick (Operand.tmp 74) (Operand.tmp 77) (Operand.const (Va
      refine AnyO.Step.mk rfl [56, 59] (by kernel_rfl) ?_
      intro vs u hE hp ac hb K hK
      have s74 : ac.tmps[74]?.getD undef = .bool true := by rw [hb]; exact (show _ = vs 56 by kernel_rfl).trans (hp 56 (by decide))
      have s77 : ac.tmps[77]?.getD undef = .bool true := by rw [hb]; exact (show _ = vs 59 by kernel_rfl).trans (hp 59 (by decide))
      rw [if_pos (AnyO.wanted_none rfl)]
      clear hb hp
      go_simp
      exact hK _ _ (Below.refl _ _) rfl
    · -- 61: Op.move (Operand.tmp 78)
      refine AnyO.Step.mk rfl [60, 58] (by kernel_rfl) ?_
      intro vs u hE hp ac hb K hK
      have s78 : ac.tmps[78]?.getD undef = .bool true := by rw [hb]; exact (show _ = vs 60 by kernel_rfl).trans (hp 60 (by decide))
      rw [if_pos (AnyO.wanted_none rfl)]
      clear hb hp
      go_simp
      exact hK _ _ (Below.refl _ _) rfl
    · -- 62: Op.move (Operand.tmp 3)
      refine AnyO.Step.mk rfl [61] (by kernel_rfl) ?_
      intro vs u hE hp ac hb K hK
      have s3 : ac.tmps[3]?.getD undef = .pointer none := by rw [hb]; kernel_rfl
      have s79 : ac.tmps[79]?.getD undef = .bool true := by rw [hb]; exact (show _ = vs 61 by kernel_rfl).trans (hp 61 (by decide))
      rw [if_pos (AnyO.wanted_some (g := 61) (t := 79) (want := true) rfl rfl s79)]
      clear hb hp
      go_simp
      exact hK _ _ (Below.refl _ _) rfl
    · -- 63: Op.call { callee := Callee.value (Operand.func 27), args := 
      refine AnyO.Step.mk rfl [62, 61, 61] (by kernel_rfl) ?_
      intro vs u hE hp ac hb K hK
      have s80 : ac.tmps[80]?.getD undef = .pointer none := by rw [hb]; exact (show _ = vs 62 by kernel_rfl).trans (hp 62 (by decide))
      have s79 : ac.tmps[79]?.getD undef = .bool true := by rw [hb]; exact (show _ = vs 61 by kernel_rfl).trans (hp 61 (by decide))
      rw [if_pos (AnyO.wanted_some (g := 61) (t := 79) (want := true) rfl rfl s79)]
      clear hb hp
      go_simp
      go_at_call 27
      refine (equal27_nil u).mono ?_
      rintro e w2 ⟨rfl, hb2⟩
      exact hK _ _ hb2 rfl
    · -- 64: Op.pick (Operand.tmp 79) (Operand.tmp 81) (Operand.const (Va
      refine AnyO.Step.mk rfl [61, 63] (by kernel_rfl) ?_
      intro vs u hE hp ac hb K hK
      have s79 : ac.tmps[79]?.getD undef = .bool true := by rw [hb]; exact (show _ = vs 61 by kernel_rfl).trans (hp 61 (by decide))
      have s81 : ac.tmps[81]?.getD undef = .bool true := by rw [hb]; exact (show _ = vs 63 by kernel_rfl).trans (hp 63 (by decide))
      rw [if_pos (AnyO.wanted_none rfl)]
      clear hb hp
      go_simp
      exact hK _ _ (Below.refl _ _) rfl
    · -- 65: Op.assign (Operand.tmp 82)
      refine AnyO.Step.mk rfl [64, 63, 0, 1, 2, 3, 4, 5, 6, 7, 8, 9, 10, 11, 12, 13, 14, 15, 16, 17, 18, 19, 20, 21, 22, 23, 24, 25, 26, 27, 28, 29, 30, 31, 32, 33, 34, 35, 36, 37, 38, 39, 40, 41, 42, 43, 44, 45, 46, 47, 48, 49, 50, 51, 52, 53, 54, 55, 56, 57, 58, 59, 60, 61, 62, 63, 64] (by kernel_rfl) ?_
      intro vs u hE hp ac hb K hK
      have s82 : ac.tmps[82]?.getD undef = .bool true := by rw [hb]; exact (show _ = vs 64 by kernel_rfl).trans (hp 64 (by decide))
      rw [if_pos (AnyO.wanted_none rfl)]
      clear hb hp
      go_simp
      exact hK _ _ (Below.refl _ _) rfl
  · intro vs u hE hp
    have e0 : vs 0 = .bool true := hp 0 (by decide)
    have e1 : vs 1 = .bool true := hp 1 (by decide)
    have e2 : vs 2 = .bool false := hp 2 (by decide)
    have e3 : vs 3 = .bool true := hp 3 (by decide)
    have e4 : vs 4 = .bool true := hp 4 (by decide)
    have e5 : vs 5 = .bool true := hp 5 (by decide)
    have e6 : vs 6 = .pointer (some ⟨g4, 0, none⟩) := hp 6 (by decide)
    have e7 : vs 7 = .int .i64 0 := hp 7 (by decide)
    have e8 : vs 8 = .bool true := hp 8 (by decide)
    have e9 : vs 9 = .bool true := hp 9 (by decide)
    have e10 : vs 10 = .bool true := hp 10 (by decide)
    have e11 : vs 11 = .bool false := hp 11 (by decide)
    have e12 : vs 12 = .bool true := hp 12 (by decide)
    have e13 : vs 13 = .bool true := hp 13 (by decide)
    have e14 : vs 14 = .bool true := hp 14 (by decide)
    have e15 : vs 15 = .pointer none := hp 15 (by decide)
    have e16 : vs 16 = .pointer (some ⟨g1, 1, none⟩) := hp 16 (by decide)
    have e17 : vs 17 = .pointer (some ⟨g1, 1, none⟩) := hp 17 (by decide)
    have e18 : vs 18 = vI x.a.1 := hp 18 (by decide)
    have e19 : vs 19 = .pointer (some ⟨g1, 1, none⟩) := hp 19 (by decide)
    have e20 : vs 20 = .pointer (some ⟨g1, 33, none⟩) := hp 20 (by decide)
    have e21 : vs 21 = .string x.a.2 := hp 21 (by decide)
    have e22 : vs 22 = .string (cutS x.a.2) := hp 22 (by decide)
    have e23 : vs 23 = .int .i64 1 := hp 23 (by decide)
    have e24 : vs 24 = .bool true := hp 24 (by decide)
    have e25 : vs 25 = .bool true := hp 25 (by decide)
    have e26 : vs 26 = .bool true := hp 26 (by decide)
    have e27 : vs 27 = .pointer none := hp 27 (by decide)
    have e28 : vs 28 = .pointer (some ⟨g1, 34, none⟩) := hp 28 (by decide)
    have e29 : vs 29 = vK x.c := hp 29 (by decide)
    have e30 : vs 30 = vC (toS x.c) := hp 30 (by decide)
    have e31 : vs 31 = .int .i64 1 := hp 31 (by decide)
    have e32 : vs 32 = .bool true := hp 32 (by decide)
    have e33 : vs 33 = .bool true := hp 33 (by decide)
    have e34 : vs 34 = .bool true := hp 34 (by decide)
    have e35 : vs 35 = .pointer none := hp 35 (by decide)
    have e36 : vs 36 = .int .i64 1 := hp 36 (by decide)
    have e37 : vs 37 = .bool true := hp 37 (by decide)
    have e38 : vs 38 = .bool true := hp 38 (by decide)
    have e39 : vs 39 = .bool true := hp 39 (by decide)
    have e40 : vs 40 = .pointer none := hp 40 (by decide)
    have e41 : vs 41 = .slice none 0 0 := hp 41 (by decide)
    have e42 : vs 42 = .int .i64 0 := hp 42 (by decide)
    have e43 : vs 43 = .bool true := hp 43 (by decide)
    have e44 : vs 44 = .bool true := hp 44 (by decide)
    have e45 : vs 45 = .bool true := hp 45 (by decide)
    have e46 : vs 46 = .pointer none := hp 46 (by decide)
    have e47 : vs 47 = .int .i64 0 := hp 47 (by decide)
    have e48 : vs 48 = .bool true := hp 48 (by decide)
    have e49 : vs 49 = .bool true := hp 49 (by decide)
    have e50 : vs 50 = .bool true := hp 50 (by decide)
    have e51 : vs 51 = .pointer none := hp 51 (by decide)
    have e52 : vs 52 = .slice none 0 0 := hp 52 (by decide)
    have e53 : vs 53 = .int .i64 0 := hp 53 (by decide)
    have e54 : vs 54 = .bool true := hp 54 (by decide)
    have e55 : vs 55 = .bool true := hp 55 (by decide)
    have e56 : vs 56 = .bool true := hp 56 (by decide)
    have e57 : vs 57 = .pointer none := hp 57 (by decide)
    have e58 : vs 58 = .pointer none := hp 58 (by decide)
    have e59 : vs 59 = .bool true := hp 59 (by decide)
    have e60 : vs 60 = .bool true := hp 60 (by decide)
    have e61 : vs 61 = .bool true := hp 61 (by decide)
    have e62 : vs 62 = .pointer none := hp 62 (by decide)
    have e63 : vs 63 = .bool true := hp 63 (by decide)
    have e64 : vs 64 = .bool true := hp 64 (by decide)
    have e65 : vs 65 = .bool true := hp 65 (by decide)
    clear hp
    have HE := Lib.hid hE
    clear hE
    rw [puts_range [some 18, some 19, some 20, some 21, some 22, some 23, some 24, some 25, some 26, some 27, some 28, some 29, some 30, some 31, some 32, some 33, some 34, some 35, some 36, some 37, some 38, some 39, some 40, some 41, some 42, some 43, some 44, some 45, some 46, some 47, some 48, some 49, some 50, some 51, some 52, some 53, some 54, some 55, some 56, some 57, some 58, some 59, some 60, some 61, some 62, some 63, some 64, some 65, some 66, some 67, some 68, some 69, some 70, some 71, some 72, some 73, some 74, some 75, some 76, some 77, some 78, some 79, some 80, some 81, some 82, some 2] (by kernel_rfl)]
    simp only [putL, Nat.reduceAdd, e0, e1, e2, e3, e4, e5, e6, e7, e8, e9, e10, e11, e12, e13, e14, e15, e16, e17, e18, e19, e20, e21, e22, e23, e24, e25, e26, e27, e28, e29, e30, e31, e32, e33, e34, e35, e36, e37, e38, e39, e40, e41, e42, e43, e44, e45, e46, e47, e48, e49, e50, e51, e52, e53, e54, e55, e56, e57, e58, e59, e60, e61, e62, e63, e64, e65]
    clear e0 e1 e2 e3 e4 e5 e6 e7 e8 e9 e10 e11 e12 e13 e14 e15 e16 e17 e18 e19 e20 e21 e22 e23 e24 e25 e26 e27 e28 e29 e30 e31 e32 e33 e34 e35 e36 e37 e38 e39 e40 e41 e42 e43 e44 e45 e46 e47 e48 e49 e50 e51 e52 e53 e54 e55 e56 e57 e58 e59 e60 e61 e62 e63 e64 e65
    go_simp
    go_wp2
    go_ret
    exact ⟨rfl, Below.step HY.out HE.out⟩

end Go.Proofs.YtlelecnafdddhaaDoor
