/- The methods of a nil taker. -/
import Derived.Test.YtgojaelkdpabkaaGreatDoorAnw
namespace Go.Proofs.YtgojaelkdpabkaaGreatDoor
open Go.RowKit
set_option maxRecDepth 100000 in
theorem accepted25_nil (x : Id) (n : Int) (w : World) : Calls Tryz.prog 25 #[.pointer none, vI x, .int .i64 n] w fun e w' => e = .returned (.tuple #[vC zC, .int .i64 1]) ∧ Below w.heap.size w w' := by
  obtain ⟨W1, hW1⟩ : ∃ W1, w.alloc (.cells (aI x) 30) = W1 := ⟨_, rfl⟩
  obtain ⟨r0, hr0⟩ : ∃ r0, W1.heap.size = r0 := ⟨_, rfl⟩
  obtain ⟨W2, hW2⟩ : ∃ W2, W1.alloc (.cells (aC zC) 32) = W2 := ⟨_, rfl⟩
  have hb1 : Below w.heap.size w W1 := by rw [← hW1]; exact below_alloc _ _
  have hb2 : Below W1.heap.size W1 W2 := by rw [← hW2]; exact below_alloc _ _
  have hro : Row W2 r0 (cC zC) 32 := by rw [← hW2, ← hr0]; exact Row.new W1 (cC zC) _
  have ro : rowOk W2 r0 39 = true := hro.rowOk (cC_length zC)
  have HB := Lib.hid (And.intro (Below.step hb1 hb2) (show w.heap.size ≤ r0 by rw [← hr0]; exact hb1.size))
  clear hb1 hb2 hro
  go_enter Tryz.func25, Tryz.ntmps25
  go_wp2
  exact bodyPost_ret (v := .tuple #[vC zC, .int .i64 1]) (results_c2 (ad := ⟨r0, 0, none⟩) rfl rfl (ld_setRow zC ro) rfl) rfl ⟨rfl, Below.setRow' HB.out.1 HB.out.2 _⟩
set_option maxRecDepth 100000 in
theorem cancel28_nil (x : Id) (w : World) : Calls Tryz.prog 28 #[.pointer none, vI x] w fun e w' => e = .returned (.tuple #[vC zC, .int .i64 1]) ∧ Below w.heap.size w w' := by
  obtain ⟨W1, hW1⟩ : ∃ W1, w.alloc (.cells (aI x) 30) = W1 := ⟨_, rfl⟩
  obtain ⟨r0, hr0⟩ : ∃ r0, W1.heap.size = r0 := ⟨_, rfl⟩
  obtain ⟨W2, hW2⟩ : ∃ W2, W1.alloc (.cells (aC zC) 32) = W2 := ⟨_, rfl⟩
  have hb1 : Below w.heap.size w W1 := by rw [← hW1]; exact below_alloc _ _
  have hb2 : Below W1.heap.size W1 W2 := by rw [← hW2]; exact below_alloc _ _
  have hro : Row W2 r0 (cC zC) 32 := by rw [← hW2, ← hr0]; exact Row.new W1 (cC zC) _
  have ro : rowOk W2 r0 39 = true := hro.rowOk (cC_length zC)
  have HB := Lib.hid (And.intro (Below.step hb1 hb2) (show w.heap.size ≤ r0 by rw [← hr0]; exact hb1.size))
  clear hb1 hb2 hro
  go_enter Tryz.func28, Tryz.ntmps28
  go_wp2
  exact bodyPost_ret (v := .tuple #[vC zC, .int .i64 1]) (results_c2 (ad := ⟨r0, 0, none⟩) rfl rfl (ld_setRow zC ro) rfl) rfl ⟨rfl, Below.setRow' HB.out.1 HB.out.2 _⟩
theorem drop18_nil (w : World) : Calls Tryz.prog 18 #[.pointer none] w fun e w' => e = .returned (.int .i64 1) ∧ Below w.heap.size w w' := by
  go_enter Tryz.func18, Tryz.ntmps18
  go_wp2
  go_ret
  exact ⟨rfl, Below.refl _ _⟩
theorem run_field_st (w : World) (x : Pt) : (Instr.field 86 (vA x) 2).run Tryz.prog w = .ok (.int .i64 x.state) w := by
  have h := part_c w 3 (aA x) 33 _ _ Tryz.underlying3 rfl (aA_33 x)
  unfold Instr.field
  simp only [Sem.run_bind, run_underlying Tryz.underlying86, Result.andThen]
  exact h
theorem run_field_sz (w : World) (x : Pt) : (Instr.field 86 (vA x) 1).run Tryz.prog w = .ok (.int .i64 x.size) w := by
  have h := part_c w 3 (aA x) 32 _ _ Tryz.underlying3 rfl (aA_32 x)
  unfold Instr.field
  simp only [Sem.run_bind, run_underlying Tryz.underlying86, Result.andThen]
  exact h
theorem ld_setRowP (a : Pt) {w : World} {b : Nat} (h : rowOk w b 35 = true) : (loadVar 86 ⟨b, 0, none⟩).run Tryz.prog (w.setRow b (aA a)) = .ok (vA a) (w.setRow b (aA a)) :=
  run_loadVar_at _ ⟨b, 0, none⟩ 86 (cA a) _ (at_setRow (cA a) h) Tryz.underlying86 rfl (by rw [cA_length]; exact sizePA)
set_option maxRecDepth 100000 in
theorem lookup45_nil (x : Id) (w : World) : Calls Tryz.prog 45 #[.pointer none, vI x] w fun e w' => e = .returned (vA zA) ∧ Below w.heap.size w w' := by
  obtain ⟨W1, hW1⟩ : ∃ W1, w.alloc (.cells (aI x) 30) = W1 := ⟨_, rfl⟩
  obtain ⟨r0, hr0⟩ : ∃ r0, W1.heap.size = r0 := ⟨_, rfl⟩
  obtain ⟨W2, hW2⟩ : ∃ W2, W1.alloc (.cells (aA zA) 86) = W2 := ⟨_, rfl⟩
  have hb1 : Below w.heap.size w W1 := by rw [← hW1]; exact below_alloc _ _
  have hb2 : Below W1.heap.size W1 W2 := by rw [← hW2]; exact below_alloc _ _
  have hro : Row W2 r0 (cA zA) 86 := by rw [← hW2, ← hr0]; exact Row.new W1 (cA zA) _
  have ro : rowOk W2 r0 35 = true := hro.rowOk (cA_length zA)
  have HB := Lib.hid (And.intro (Below.step hb1 hb2) (show w.heap.size ≤ r0 by rw [← hr0]; exact hb1.size))
  clear hb1 hb2 hro
  go_enter Tryz.func45, Tryz.ntmps45
  go_wp2
  exact bodyPost_ret (v := vA zA) (results_c1 (ad := ⟨r0, 0, none⟩) rfl rfl (ld_setRowP zA ro)) rfl ⟨rfl, Below.setRow' HB.out.1 HB.out.2 _⟩
set_option maxRecDepth 100000 in
theorem state22_nil (x : Id) (w : World) : Calls Tryz.prog 22 #[.pointer none, vI x] w fun e w' => e = .returned (.int .i64 0) ∧ Below w.heap.size w w' := by
  obtain ⟨b, hb⟩ : ∃ b, w.heap.size = b := ⟨_, rfl⟩
  obtain ⟨W1, hW1⟩ : ∃ W1, w.alloc (.cells (aI x) 30) = W1 := ⟨_, rfl⟩
  have hrow : Row W1 b (cI x) 30 := by rw [← hW1, ← hb]; exact Row.new w (cI x) _
  have q := Row.okw hrow (cI_length x)
  have r1 := q.1
  have r2 : rdA W1 ⟨b, 0, none⟩ 32 = vI x := q.2
  have HB := Lib.hid (show Below w.heap.size w W1 by rw [← hW1]; exact below_alloc _ _)
  clear q hrow
  go_enter Tryz.func22, Tryz.ntmps22
  go_wp2_with (go_at_call 45; refine (lookup45_nil x W1).mono ?_; rintro e w2 ⟨rfl, hb2⟩; have rf := run_field_st w2 zA; have H2 := Lib.hid (Below.step HB.out hb2); clear hb2)
  go_ret
  exact ⟨rfl, H2.out⟩
set_option maxRecDepth 100000 in
theorem size24_nil (x : Id) (w : World) : Calls Tryz.prog 24 #[.pointer none, vI x] w fun e w' => e = .returned (.int .i64 0) ∧ Below w.heap.size w w' := by
  obtain ⟨b, hb⟩ : ∃ b, w.heap.size = b := ⟨_, rfl⟩
  obtain ⟨W1, hW1⟩ : ∃ W1, w.alloc (.cells (aI x) 30) = W1 := ⟨_, rfl⟩
  have hrow : Row W1 b (cI x) 30 := by rw [← hW1, ← hb]; exact Row.new w (cI x) _
  have q := Row.okw hrow (cI_length x)
  have r1 := q.1
  have r2 : rdA W1 ⟨b, 0, none⟩ 32 = vI x := q.2
  have HB := Lib.hid (show Below w.heap.size w W1 by rw [← hW1]; exact below_alloc _ _)
  clear q hrow
  go_enter Tryz.func24, Tryz.ntmps24
  go_wp2_with (go_at_call 45; refine (lookup45_nil x W1).mono ?_; rintro e w2 ⟨rfl, hb2⟩; have rf := run_field_sz w2 zA; have H2 := Lib.hid (Below.step HB.out hb2); clear hb2)
  go_ret
  exact ⟨rfl, H2.out⟩
theorem zero_part (w2 : World) (p : Pt) : ∃ r5 W3, w2.heap.size = r5 ∧ rowOk (w2.alloc (.cells (aA zA) 86)) r5 35 = true ∧ (w2.alloc (.cells (aA zA) 86)).setRow r5 (aA p) = W3 ∧ W3.cell? ⟨r5, 33, none⟩ = some (.int .i64 p.state) ∧ W3.cell? ⟨r5, 34, none⟩ = some (.string p.bytes) ∧ Below w2.heap.size w2 W3 := by
  have ro : rowOk (w2.alloc (.cells (aA zA) 86)) w2.heap.size 35 = true := Row.rowOk (Row.new w2 (cA zA) _) (cA_length zA)
  have hat := at_setRow (cA p) ro
  exact ⟨_, _, rfl, ro, rfl, hat.2 33 _ (cA_at (aA_33 p)), hat.2 34 _ (cA_at (aA_34 p)), Below.setRow' (below_alloc _ _) (Nat.le_refl _) (aA p)⟩
set_option maxRecDepth 100000 in
theorem received23_nil (x : Id) (w : World) : Calls Tryz.prog 23 #[.pointer none, vI x] w fun e w' => e = .returned (.int .i64 0) ∧ Below w.heap.size w w' := by
  obtain ⟨b, hb⟩ : ∃ b, w.heap.size = b := ⟨_, rfl⟩
  obtain ⟨W1, hW1⟩ : ∃ W1, w.alloc (.cells (aI x) 30) = W1 := ⟨_, rfl⟩
  have hrow : Row W1 b (cI x) 30 := by rw [← hW1, ← hb]; exact Row.new w (cI x) _
  have q := Row.okw hrow (cI_length x)
  have r1 := q.1
  have r2 : rdA W1 ⟨b, 0, none⟩ 32 = vI x := q.2
  have HB := Lib.hid (show Below w.heap.size w W1 by rw [← hW1]; exact below_alloc _ _)
  clear q hrow
  go_enter Tryz.func23, Tryz.ntmps23
  go_wp2_with (go_at_call 45; refine (lookup45_nil x W1).mono ?_; rintro e w2 ⟨rfl, hb2⟩; obtain ⟨r5, W3, hr5, ro, hW3, k33, k34, hb3⟩ := zero_part w2 zA; have H2 := Lib.hid (Below.step (Below.step HB.out hb2) hb3); clear hb2 hb3)
  go_ret
  exact ⟨rfl, H2.out⟩
theorem active19_nil (w : World) : Calls Tryz.prog 19 #[.pointer none] w fun e w' => e = .returned (.slice none 0 0) ∧ Below w.heap.size w w' := by
  go_enter Tryz.func19, Tryz.ntmps19
  go_wp2
  go_ret
  exact ⟨rfl, Below.refl _ _⟩
theorem partial20_nil (w : World) : Calls Tryz.prog 20 #[.pointer none] w fun e w' => e = .returned (.slice none 0 0) ∧ Below w.heap.size w w' := by
  go_enter Tryz.func20, Tryz.ntmps20
  go_wp2
  go_ret
  exact ⟨rfl, Below.refl _ _⟩
theorem clone27_nil (w : World) : Calls Tryz.prog 27 #[.pointer none] w fun e w' => e = .returned (.pointer none) ∧ Below w.heap.size w w' := by
  go_enter Tryz.func27, Tryz.ntmps27
  go_wp2
  go_ret
  exact ⟨rfl, Below.refl _ _⟩
set_option maxRecDepth 100000 in
theorem forget35_nil (x : Id) (w : World) : Calls Tryz.prog 35 #[.pointer none, vI x] w fun e w' => e = .returned (.bool false) ∧ Below w.heap.size w w' := by
  go_enter Tryz.func35, Tryz.ntmps35
  go_wp2
  go_quiet (fail)
  go_wp2
  go_ret
  exact ⟨rfl, Below.step (below_alloc _ _) (below_drewN _ _)⟩
theorem equal29_nn (w : World) : Calls Tryz.prog 29 #[.pointer none, .pointer none] w fun e w' => e = .returned (.bool true) ∧ Below w.heap.size w w' := by
  go_enter Tryz.func29, Tryz.ntmps29
  go_wp2
  go_ret
  exact ⟨rfl, Below.refl _ _⟩
theorem equal29_np (b : Nat) (w : World) : Calls Tryz.prog 29 #[.pointer none, .pointer (some ⟨b, 0, none⟩)] w fun e w' => e = .returned (.bool false) ∧ Below w.heap.size w w' := by
  go_enter Tryz.func29, Tryz.ntmps29
  go_wp2
  go_ret
  exact ⟨rfl, Below.refl _ _⟩
theorem equal29_pn (b : Nat) (w : World) : Calls Tryz.prog 29 #[.pointer (some ⟨b, 0, none⟩), .pointer none] w fun e w' => e = .returned (.bool false) ∧ Below w.heap.size w w' := by
  go_enter Tryz.func29, Tryz.ntmps29
  go_wp2
  go_ret
  exact ⟨rfl, Below.refl _ _⟩
end Go.Proofs.YtgojaelkdpabkaaGreatDoor
