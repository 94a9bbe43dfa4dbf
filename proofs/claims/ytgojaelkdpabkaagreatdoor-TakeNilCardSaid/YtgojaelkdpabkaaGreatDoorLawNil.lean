/- bulletinlaw34.TakeNil: whatever the operation, the law returns true. -/
import Derived.Test.YtgojaelkdpabkaaGreatDoorSml
namespace Go.Proofs.YtgojaelkdpabkaaGreatDoor
open Go.RowKit
section
variable (w : World)
def aOs (xs : List Opn) : Array Value := (xs.flatMap cO).toArray
theorem rowOP : (Tryz.prog.info? 37).map (fun i => (i.zero.map (·.cells.size), i.size, i.bytes)) = some (some 41, 41, 120) := by kernel_rfl
@[go_sem ↓] theorem bsOP (n : Nat) (parts : Array (Nat × Value)) : Instr.buildSlice 22 n parts = bsA 22 n parts := rfl
theorem run_bsOP (xs : List Opn) (h : xs.length ≤ 100) : (bsA 22 xs.length (xs.zipIdx.map fun x => (x.2, vO x.1)).toArray).run Tryz.prog w = .ok (.slice (some ⟨w.heap.size, 0, none⟩) xs.length xs.length) (w.alloc (.cells (aOs xs) 37)) := by
  obtain ⟨i, z, h1, h2, h3⟩ := info_of rowOP
  exact run_bsA w vO 22 37 i z 41 Tryz.underlying22 h1 h2 h3 (fun x => cO_length x) xs (by omega)
@[go_sem] theorem run_bsOP_1 (x : Opn) : (bsA 22 1 #[(0, vO x)]).run Tryz.prog w = .ok (.slice (some ⟨w.heap.size, 0, none⟩) 1 1) (w.alloc (.cells (aOs [x]) 37)) := run_bsOP w [x] (by simp)
end
theorem sl_op1 (w : World) (o : Opn) : Sl (w.alloc (.cells (aOs [o]) 37)) cO (some ⟨w.heap.size, 0, none⟩) [o] := fun _ => ⟨_, rfl, at_new w _ _ _ rfl⟩
theorem cO_sub (x : Opn) : ((cO x).drop 1).take 39 = cC x.cmd := by
  unfold cO
  rw [List.drop_succ_cons, List.drop_zero, List.take_append_of_le_length (by rw [cC_length]; omega), List.take_of_length_le (by rw [cC_length]; omega)]
theorem cO_40 (x : Opn) : (cO x)[40]? = some (.int .i64 x.result) := by
  unfold cO
  rw [show 40 = 39 + 1 from rfl, List.getElem?_cons_succ, List.getElem?_append_right (by rw [cC_length]; omega), cC_length]
  rfl
theorem hold0 (w5 : World) (d : Cm) : ∃ r W, w5.heap.size = r ∧ rowOk (w5.alloc (.cells (aC zC) 32)) r 39 = true ∧ (w5.alloc (.cells (aC zC) 32)).setRow r (aC d) = W ∧ Row W r (cC d) 32 ∧ Below w5.heap.size w5 W := by
  obtain ⟨r, W, h1, h2, h3, h4, h5, _⟩ := hold_c w5 (F5 := []) (fun k hk => by cases hk) d
  exact ⟨r, W, h1, h2, h3, h4, h5⟩
set_option maxRecDepth 100000 in
set_option maxHeartbeats 3200000 in
theorem law10 (o : Opn) (w : World) (hL : Laid w) : Calls Tryz.prog 10 #[vO o] w fun e w' => e = .returned (.bool true) ∧ Below w.heap.size w w' := by
  obtain ⟨g, hg⟩ : ∃ g, w.heap.size = g := ⟨_, rfl⟩
  obtain ⟨W0, hW0⟩ : ∃ W0, w.alloc (.cells (aO o) 37) = W0 := ⟨_, rfl⟩
  have hb0 : Below w.heap.size w W0 := by rw [← hW0]; exact below_alloc _ _
  have hr0 : Row W0 g (cO o) 37 := by rw [← hW0, ← hg]; exact Row.new w (cO o) _
  obtain ⟨bs, hbs⟩ : ∃ bs, smallL [o] = bs := ⟨_, rfl⟩
  have H0 := Lib.hid (And.intro hr0 (And.intro hb0 (hL.keep hb0)))
  have HS := Lib.hid hbs
  clear hb0 hr0 hL hbs
  cases bs
  · go_enter Tryz.func10, Tryz.ntmps10
    go_wp2_with (first
      | (go_at_call 11; refine (known34 w2 (H0.out.2.2.keep H2.out)).mono ?_; rintro e w3 ⟨rfl, hb3⟩; have H3 := Lib.hid (Below.step H2.out hb3); clear hb3)
      | (go_at_call 11; refine (known34 W0 H0.out.2.2).mono ?_; rintro e w1 ⟨rfl, hb1⟩; have hr1 := H0.out.1.keep hb1; have j1 := (Row.okw hr1 (cO_length o)).1; have j2 : rdA w1 ⟨g, 0, none⟩ 41 = vO o := (Row.okw hr1 (cO_length o)).2; obtain ⟨g1, hg1⟩ : ∃ g1, w1.heap.size = g1 := ⟨_, rfl⟩; obtain ⟨W1, hW1⟩ : ∃ W1, w1.alloc (.cells (aOs [o]) 37) = W1 := ⟨_, rfl⟩; have hs1 : Sl W1 cO (some ⟨g1, 0, none⟩) [o] := (by rw [← hW1, ← hg1]; exact sl_op1 w1 o); have hbb : Below W0.heap.size W0 W1 := (by rw [← hW1]; exact Below.step hb1 (below_alloc _ _)); have H1 := Lib.hid (And.intro hs1 hbb); clear hb1 hr1 hs1 hbb)
      | (go_at_call 12; refine (small12 _ 1 [o] W1 H1.out.1 (show 1 ≤ 1000000 by decide)).mono ?_; rw [HS.out]; rintro e w2 ⟨rfl, hb2⟩; have H2 := Lib.hid (Below.step H1.out.2 hb2);  clear hb2))
    go_ret
    exact ⟨rfl, Below.step H0.out.2.1 H3.out⟩
  · go_enter Tryz.func10, Tryz.ntmps10
    go_wp2_with (first
      | (go_at_call 13; refine (new13_ok 1 (by decide) (by decide) W7).mono ?_; rintro e w8 ⟨rfl, -, hb⟩; rw [hb7]; have Hw8 := Lib.hid (And.intro (Below.step HW7.out.1 hb) ((And.intro ((HW7.out.2.1).keep hb) (And.intro ((HW7.out.2.2.1).keep hb) (And.intro ((HW7.out.2.2.2.1).keep hb) (And.intro ((HW7.out.2.2.2.2.1).keep hb) ((HW7.out.2.2.2.2.2).keep hb)))))));have k5a := (Row.okw (Hw8.out.2.2.2.1) (cC_length zC)).1; have k5b : rdA w8 ⟨r8, 0, none⟩ 39 = vC zC := (Row.okw (Hw8.out.2.2.2.1) (cC_length zC)).2;have k6a := (Row.okw (Hw8.out.2.2.2.2.1) (cC_length zC)).1; have k6b : rdA w8 ⟨r10, 0, none⟩ 39 = vC zC := (Row.okw (Hw8.out.2.2.2.2.1) (cC_length zC)).2;have k7a := (Row.okw (Hw8.out.2.2.2.2.2) (cC_length zC)).1; have k7b : rdA w8 ⟨r12, 0, none⟩ 39 = vC zC := (Row.okw (Hw8.out.2.2.2.2.2) (cC_length zC)).2; clear hb)
      | (go_at_call 28; refine (cancel28_nil o.cmd.id W6).mono ?_; rintro e w7 ⟨rfl, hb⟩; have Hw7 := Lib.hid (And.intro (Below.step HW6.out.1 hb) ((And.intro ((HW6.out.2.1).keep hb) (And.intro ((HW6.out.2.2.1).keep hb) (And.intro ((HW6.out.2.2.2.1).keep hb) ((HW6.out.2.2.2.2).keep hb)))))); obtain ⟨r12, W7, hr12, ror12, hWr12, hrow, hbh⟩ := hold0 w7 zC; have HW7 := Lib.hid (And.intro (Below.step Hw7.out.1 hbh) ((And.intro ((Hw7.out.2.1).keep hbh) (And.intro ((Hw7.out.2.2.1).keep hbh) (And.intro ((Hw7.out.2.2.2.1).keep hbh) (And.intro ((Hw7.out.2.2.2.2).keep hbh) (hrow))))))); clear hrow hbh; obtain ⟨b, hb7⟩ : ∃ b, W7.heap.size = b := ⟨_, rfl⟩; clear hb)
      | (go_at_call 25; refine (accepted25_nil o.cmd.id o.result W5).mono ?_; rintro e w6 ⟨rfl, hb⟩; have Hw6 := Lib.hid (And.intro (Below.step HW5.out.1 hb) ((And.intro ((HW5.out.2.1).keep hb) (And.intro ((HW5.out.2.2.1).keep hb) ((HW5.out.2.2.2).keep hb))))); obtain ⟨r10, W6, hr10, ror10, hWr10, hrow, hbh⟩ := hold0 w6 zC; have HW6 := Lib.hid (And.intro (Below.step Hw6.out.1 hbh) ((And.intro ((Hw6.out.2.1).keep hbh) (And.intro ((Hw6.out.2.2.1).keep hbh) (And.intro ((Hw6.out.2.2.2).keep hbh) (hrow)))))); clear hrow hbh;obtain ⟨k4a, k4b⟩ := (HW6.out.2.2.1).idC; clear hb)
      | (go_at_call 16; refine (answer16_nil o.cmd w4).mono ?_; rintro e w5 ⟨rfl, hb⟩; have Hw5 := Lib.hid (And.intro (Below.step Hw4.out.1 hb) ((And.intro ((Hw4.out.2.1).keep hb) ((Hw4.out.2.2).keep hb)))); obtain ⟨r8, W5, hr8, ror8, hWr8, hrow, hbh⟩ := hold0 w5 zC; have HW5 := Lib.hid (And.intro (Below.step Hw5.out.1 hbh) ((And.intro ((Hw5.out.2.1).keep hbh) (And.intro ((Hw5.out.2.2).keep hbh) (hrow))))); clear hrow hbh;obtain ⟨k3a, k3b⟩ := (HW5.out.2.2.1).idC; have c40 : W5.cell? ⟨g, 40, none⟩ = some (.int .i64 o.result) := ((HW5.out.2.1).cell 40).trans (cO_40 o); clear hb)
      | (go_at_call 15; refine (hear15_nil o.cmd W3).mono ?_; rintro e w4 ⟨rfl, hb⟩; have Hw4 := Lib.hid (And.intro (Below.step HW3.out.1 hb) ((And.intro ((HW3.out.2.1).keep hb) ((HW3.out.2.2).keep hb))));have k2a := (Row.okw (Hw4.out.2.2) (cC_length o.cmd)).1; have k2b : rdA w4 ⟨r4, 0, none⟩ 39 = vC o.cmd := (Row.okw (Hw4.out.2.2) (cC_length o.cmd)).2; clear hb)
      | (go_at_call 14; refine (own14 o.cmd w2).mono ?_; rintro e w3 ⟨rfl, hb⟩; have Hw3 := Lib.hid (And.intro (Below.step Hw2.out.1 hb) ((Hw2.out.2).keep hb)); obtain ⟨r4, W3, hr4, ror4, hWr4, hrow, hbh⟩ := hold0 w3 o.cmd; have HW3 := Lib.hid (And.intro (Below.step Hw3.out.1 hbh) ((And.intro ((Hw3.out.2).keep hbh) (hrow)))); clear hrow hbh;have k1a := (Row.okw (HW3.out.2.2) (cC_length o.cmd)).1; have k1b : rdA W3 ⟨r4, 0, none⟩ 39 = vC o.cmd := (Row.okw (HW3.out.2.2) (cC_length o.cmd)).2; clear hb)
      | (go_at_call 12; refine (small12 _ 1 [o] W1 HS1.out (show 1 ≤ 1000000 by decide)).mono ?_; rw [HS.out]; rintro e w2 ⟨rfl, hb⟩; have Hw2 := Lib.hid (And.intro (Below.step HW1.out.1 hb) ((HW1.out.2).keep hb)); have hq := Hw2.out.2.at_ (k := 1) (n := 39) (cO_sub o); have j3 := hq.ok; have j4 := hq.rd; rw [cC_length] at j3 j4; change rdA w2 ⟨g, 1, none⟩ 39 = vC o.cmd at j4; clear hq hb)
      | (go_at_call 11; refine (known34 W0 H0.out.2.2).mono ?_; rintro e w1 ⟨rfl, hb⟩; have hr1 := H0.out.1.keep hb; have j1 := (Row.okw hr1 (cO_length o)).1; have j2 : rdA w1 ⟨g, 0, none⟩ 41 = vO o := (Row.okw hr1 (cO_length o)).2; obtain ⟨g1, hg1⟩ : ∃ g1, w1.heap.size = g1 := ⟨_, rfl⟩; obtain ⟨W1, hW1⟩ : ∃ W1, w1.alloc (.cells (aOs [o]) 37) = W1 := ⟨_, rfl⟩; have hs1 : Sl W1 cO (some ⟨g1, 0, none⟩) [o] := (by rw [← hW1, ← hg1]; exact sl_op1 w1 o); have hbb : Below w1.heap.size w1 W1 := (by rw [← hW1]; exact below_alloc _ _); have HW1 := Lib.hid (And.intro (Below.step (Below.step H0.out.2.1 hb) hbb) (hr1.keep hbb)); have HS1 := Lib.hid hs1; clear hb hr1 hs1 hbb))
    refine AnyO.wp_anyI (by kernel_rfl) (by kernel_rfl) (AnyO.InvG (σ := Unit) (fun σ => AnyO.pvL [some (.pointer none), some (.int .i64 1), some (.bool true), some (.bool true), some (.pointer none), some (.int .i64 1), some (.bool true), some (.bool true), some (.bool true), some (.pointer none), some (.pointer (some ⟨r4, 2, none⟩)), some (vI o.cmd.id), some (.int .i64 0), some (.pointer none), some (.pointer (some ⟨r4, 2, none⟩)), some (vI o.cmd.id), some (.int .i64 0), some (.int .i64 0), some (.pointer none), some (.pointer (some ⟨r4, 2, none⟩)), some (vI o.cmd.id), some (.int .i64 0), some (.int .i64 0), some (.bool true), some (.bool true), some (.bool true), some (.pointer none), some (.slice none 0 0), some (.int .i64 0), some (.pointer none), some (.slice none 0 0), some (.int .i64 0), some (.int .i64 0), some (.bool true), some (.bool true), some (.bool true), some (.pointer none), some (.pointer (some ⟨r4, 2, none⟩)), some (vI o.cmd.id), some (.bool false), some (.bool true), some (.bool true), some (.bool true), some (.pointer none), some (.bool false), some (.bool true), some (.bool true), some (.bool true), some (.pointer none), some (.pointer none), some (.bool true), some (.bool true), some (.bool true), some (.pointer none), some (.bool true), some (.bool true), some (.bool true), some (.pointer none), some (.pointer (some ⟨b, 0, none⟩)), some (.bool false), some (.bool true), some (.bool true), some (.bool true), some (.pointer (some ⟨b, 0, none⟩)), some (.bool false), some (.bool true), some (.bool true), some (.bool true)]) (fun _ _ u => Below w8.heap.size w8 u)) (AnyO.InvG.start (g := ()) (below_drew _)) ?_ ?_
    · intro i hi
      have hi2 : i = 1 ∨ i = 4 ∨ i = 5 ∨ i = 6 ∨ i = 9 ∨ i = 10 ∨ i = 11 ∨ i = 12 ∨ i = 13 ∨ i = 14 ∨ i = 15 ∨ i = 16 ∨ i = 17 ∨ i = 18 ∨ i = 19 ∨ i = 20 ∨ i = 21 ∨ i = 22 ∨ i = 23 ∨ i = 26 ∨ i = 27 ∨ i = 28 ∨ i = 29 ∨ i = 30 ∨ i = 31 ∨ i = 32 ∨ i = 33 ∨ i = 36 ∨ i = 37 ∨ i = 38 ∨ i = 39 ∨ i = 40 ∨ i = 43 ∨ i = 44 ∨ i = 45 ∨ i = 48 ∨ i = 49 ∨ i = 50 ∨ i = 53 ∨ i = 54 ∨ i = 57 ∨ i = 58 ∨ i = 59 ∨ i = 60 ∨ i = 63 ∨ i = 64 ∨ i = 65 ∨ i = 0 ∨ i = 2 ∨ i = 3 ∨ i = 7 ∨ i = 8 ∨ i = 24 ∨ i = 25 ∨ i = 34 ∨ i = 35 ∨ i = 41 ∨ i = 42 ∨ i = 46 ∨ i = 47 ∨ i = 51 ∨ i = 52 ∨ i = 55 ∨ i = 56 ∨ i = 61 ∨ i = 62 ∨ i = 66 ∨ i = 67 := by simp only [List.size_toArray, List.append_eq, List.length_append, List.length_cons, List.length_nil] at hi; omega
      clear hi
      rcases hi2 with rfl | rfl | rfl | rfl | rfl | rfl | rfl | rfl | rfl | rfl | rfl | rfl | rfl | rfl | rfl | rfl | rfl | rfl | rfl | rfl | rfl | rfl | rfl | rfl | rfl | rfl | rfl | rfl | rfl | rfl | rfl | rfl | rfl | rfl | rfl | rfl | rfl | rfl | rfl | rfl | rfl | rfl | rfl | rfl | rfl | rfl | rfl | rfl | rfl | rfl | rfl | rfl | rfl | rfl | rfl | rfl | rfl | rfl | rfl | rfl | rfl | rfl | rfl | rfl | rfl | rfl | rfl | rfl
      · refine AnyO.StepI.mk rfl [0] (by kernel_rfl) ?_; rintro D vs u ⟨σ, hP, hW⟩ h0 hC hp ac hb K hK
        have s102 := AnyO.slot 102 hb (by kernel_rfl) (hP 0 (hp 0 (by decide)))
        rw [if_pos (AnyO.wanted_none rfl)]; clear hb hp hC h0; have HPW := Lib.hid (And.intro hP hW); clear hP hW; go_simp; obtain ⟨hP, hW⟩ := HPW.out
        go_at_call 17
        refine (open17_nil u).mono ?_
        rintro e w2 ⟨rfl, hcb⟩
        exact hK _ _ (AnyO.InvG.step (g := σ) hP rfl (Below.step hW hcb))
      · refine AnyO.StepI.mk rfl [3] (by kernel_rfl) ?_; rintro D vs u ⟨σ, hP, hW⟩ h0 hC hp ac hb K hK
        have s3 : ac.tmps[3]?.getD undef = .pointer none := by rw [hb]; kernel_rfl
        have s105 := AnyO.slot 105 hb (by kernel_rfl) (hP 3 (hp 3 (by decide)))
        rw [if_pos (AnyO.wanted_some (g := 3) (t := 105) (want := true) rfl rfl s105)]
        clear hb hp hC h0
        have HPW := Lib.hid (And.intro hP hW); clear hP hW; go_simp; exact hK _ _ (AnyO.InvG.step (g := σ) HPW.out.1 rfl HPW.out.2)
      · refine AnyO.StepI.mk rfl [4, 3, 3] (by kernel_rfl) ?_; rintro D vs u ⟨σ, hP, hW⟩ h0 hC hp ac hb K hK
        have s106 := AnyO.slot 106 hb (by kernel_rfl) (hP 4 (hp 4 (by decide)))
        have s105 := AnyO.slot 105 hb (by kernel_rfl) (hP 3 (hp 3 (by decide)))
        rw [if_pos (AnyO.wanted_some (g := 3) (t := 105) (want := true) rfl rfl s105)]
        clear hb hp hC h0
        have HPW := Lib.hid (And.intro hP hW); clear hP hW; go_simp; obtain ⟨hP, hW⟩ := HPW.out
        go_at_call 18
        refine (drop18_nil u).mono ?_
        rintro e w2 ⟨rfl, hcb⟩
        exact hK _ _ (AnyO.InvG.step (g := σ) hP rfl (Below.step hW hcb))
      · refine AnyO.StepI.mk rfl [5, 3] (by kernel_rfl) ?_; rintro D vs u ⟨σ, hP, hW⟩ h0 hC hp ac hb K hK
        have s107 := AnyO.slot 107 hb (by kernel_rfl) (hP 5 (hp 5 (by decide)))
        have s105 := AnyO.slot 105 hb (by kernel_rfl) (hP 3 (hp 3 (by decide)))
        rw [if_pos (AnyO.wanted_some (g := 3) (t := 105) (want := true) rfl rfl s105)]
        clear hb hp hC h0
        have HPW := Lib.hid (And.intro hP hW); clear hP hW; go_simp; exact hK _ _ (AnyO.InvG.step (g := σ) HPW.out.1 rfl HPW.out.2)
      · refine AnyO.StepI.mk rfl [8] (by kernel_rfl) ?_; rintro D vs u ⟨σ, hP, hW⟩ h0 hC hp ac hb K hK
        have s3 : ac.tmps[3]?.getD undef = .pointer none := by rw [hb]; kernel_rfl
        have s110 := AnyO.slot 110 hb (by kernel_rfl) (hP 8 (hp 8 (by decide)))
        rw [if_pos (AnyO.wanted_some (g := 8) (t := 110) (want := true) rfl rfl s110)]
        clear hb hp hC h0
        have HPW := Lib.hid (And.intro hP hW); clear hP hW; go_simp; exact hK _ _ (AnyO.InvG.step (g := σ) HPW.out.1 rfl HPW.out.2)
      · refine AnyO.StepI.mk rfl [8] (by kernel_rfl) ?_; rintro D vs u ⟨σ, hP, hW⟩ h0 hC hp ac hb K hK
        have s4 : ac.tmps[4]?.getD undef = .pointer (some ⟨r4, 0, none⟩) := by rw [hb]; kernel_rfl
        have s110 := AnyO.slot 110 hb (by kernel_rfl) (hP 8 (hp 8 (by decide)))
        rw [if_pos (AnyO.wanted_some (g := 8) (t := 110) (want := true) rfl rfl s110)]
        clear hb hp hC h0
        have HPW := Lib.hid (And.intro hP hW); clear hP hW; go_simp; exact hK _ _ (AnyO.InvG.step (g := σ) HPW.out.1 rfl HPW.out.2)
      · refine AnyO.StepI.mk rfl [10, 8] (by kernel_rfl) ?_; rintro D vs u ⟨σ, hP, hW⟩ h0 hC hp ac hb K hK
        have s112 := AnyO.slot 112 hb (by kernel_rfl) (hP 10 (hp 10 (by decide)))
        have s110 := AnyO.slot 110 hb (by kernel_rfl) (hP 8 (hp 8 (by decide)))
        rw [if_pos (AnyO.wanted_some (g := 8) (t := 110) (want := true) rfl rfl s110)]
        clear hb hp
        obtain ⟨rr1, rr2⟩ := ((Hw8.out.2.2.1).keep hW).idC
        clear hC h0; have HPW := Lib.hid (And.intro hP hW); clear hP hW; go_simp; exact hK _ _ (AnyO.InvG.step (g := σ) HPW.out.1 rfl HPW.out.2)
      · refine AnyO.StepI.mk rfl [9, 11, 8, 8] (by kernel_rfl) ?_; rintro D vs u ⟨σ, hP, hW⟩ h0 hC hp ac hb K hK
        have s111 := AnyO.slot 111 hb (by kernel_rfl) (hP 9 (hp 9 (by decide)))
        have s113 := AnyO.slot 113 hb (by kernel_rfl) (hP 11 (hp 11 (by decide)))
        have s110 := AnyO.slot 110 hb (by kernel_rfl) (hP 8 (hp 8 (by decide)))
        rw [if_pos (AnyO.wanted_some (g := 8) (t := 110) (want := true) rfl rfl s110)]
        clear hb hp hC h0
        have HPW := Lib.hid (And.intro hP hW); clear hP hW; go_simp; obtain ⟨hP, hW⟩ := HPW.out
        go_at_call 22
        refine (state22_nil o.cmd.id u).mono ?_
        rintro e w2 ⟨rfl, hcb⟩
        exact hK _ _ (AnyO.InvG.step (g := σ) hP rfl (Below.step hW hcb))
      · refine AnyO.StepI.mk rfl [8] (by kernel_rfl) ?_; rintro D vs u ⟨σ, hP, hW⟩ h0 hC hp ac hb K hK
        have s3 : ac.tmps[3]?.getD undef = .pointer none := by rw [hb]; kernel_rfl
        have s110 := AnyO.slot 110 hb (by kernel_rfl) (hP 8 (hp 8 (by decide)))
        rw [if_pos (AnyO.wanted_some (g := 8) (t := 110) (want := true) rfl rfl s110)]
        clear hb hp hC h0
        have HPW := Lib.hid (And.intro hP hW); clear hP hW; go_simp; exact hK _ _ (AnyO.InvG.step (g := σ) HPW.out.1 rfl HPW.out.2)
      · refine AnyO.StepI.mk rfl [8] (by kernel_rfl) ?_; rintro D vs u ⟨σ, hP, hW⟩ h0 hC hp ac hb K hK
        have s4 : ac.tmps[4]?.getD undef = .pointer (some ⟨r4, 0, none⟩) := by rw [hb]; kernel_rfl
        have s110 := AnyO.slot 110 hb (by kernel_rfl) (hP 8 (hp 8 (by decide)))
        rw [if_pos (AnyO.wanted_some (g := 8) (t := 110) (want := true) rfl rfl s110)]
        clear hb hp hC h0
        have HPW := Lib.hid (And.intro hP hW); clear hP hW; go_simp; exact hK _ _ (AnyO.InvG.step (g := σ) HPW.out.1 rfl HPW.out.2)
      · refine AnyO.StepI.mk rfl [14, 8] (by kernel_rfl) ?_; rintro D vs u ⟨σ, hP, hW⟩ h0 hC hp ac hb K hK
        have s116 := AnyO.slot 116 hb (by kernel_rfl) (hP 14 (hp 14 (by decide)))
        have s110 := AnyO.slot 110 hb (by kernel_rfl) (hP 8 (hp 8 (by decide)))
        rw [if_pos (AnyO.wanted_some (g := 8) (t := 110) (want := true) rfl rfl s110)]
        clear hb hp
        obtain ⟨rr1, rr2⟩ := ((Hw8.out.2.2.1).keep hW).idC
        clear hC h0; have HPW := Lib.hid (And.intro hP hW); clear hP hW; go_simp; exact hK _ _ (AnyO.InvG.step (g := σ) HPW.out.1 rfl HPW.out.2)
      · refine AnyO.StepI.mk rfl [13, 15, 12, 8] (by kernel_rfl) ?_; rintro D vs u ⟨σ, hP, hW⟩ h0 hC hp ac hb K hK
        have s115 := AnyO.slot 115 hb (by kernel_rfl) (hP 13 (hp 13 (by decide)))
        have s117 := AnyO.slot 117 hb (by kernel_rfl) (hP 15 (hp 15 (by decide)))
        have s110 := AnyO.slot 110 hb (by kernel_rfl) (hP 8 (hp 8 (by decide)))
        rw [if_pos (AnyO.wanted_some (g := 8) (t := 110) (want := true) rfl rfl s110)]
        clear hb hp hC h0
        have HPW := Lib.hid (And.intro hP hW); clear hP hW; go_simp; obtain ⟨hP, hW⟩ := HPW.out
        go_at_call 23
        refine (received23_nil o.cmd.id u).mono ?_
        rintro e w2 ⟨rfl, hcb⟩
        exact hK _ _ (AnyO.InvG.step (g := σ) hP rfl (Below.step hW hcb))
      · refine AnyO.StepI.mk rfl [12, 16, 8] (by kernel_rfl) ?_; rintro D vs u ⟨σ, hP, hW⟩ h0 hC hp ac hb K hK
        have s114 := AnyO.slot 114 hb (by kernel_rfl) (hP 12 (hp 12 (by decide)))
        have s118 := AnyO.slot 118 hb (by kernel_rfl) (hP 16 (hp 16 (by decide)))
        have s110 := AnyO.slot 110 hb (by kernel_rfl) (hP 8 (hp 8 (by decide)))
        rw [if_pos (AnyO.wanted_some (g := 8) (t := 110) (want := true) rfl rfl s110)]
        clear hb hp hC h0
        have HPW := Lib.hid (And.intro hP hW); clear hP hW; go_simp; exact hK _ _ (AnyO.InvG.step (g := σ) HPW.out.1 rfl HPW.out.2)
      · refine AnyO.StepI.mk rfl [8] (by kernel_rfl) ?_; rintro D vs u ⟨σ, hP, hW⟩ h0 hC hp ac hb K hK
        have s3 : ac.tmps[3]?.getD undef = .pointer none := by rw [hb]; kernel_rfl
        have s110 := AnyO.slot 110 hb (by kernel_rfl) (hP 8 (hp 8 (by decide)))
        rw [if_pos (AnyO.wanted_some (g := 8) (t := 110) (want := true) rfl rfl s110)]
        clear hb hp hC h0
        have HPW := Lib.hid (And.intro hP hW); clear hP hW; go_simp; exact hK _ _ (AnyO.InvG.step (g := σ) HPW.out.1 rfl HPW.out.2)
      · refine AnyO.StepI.mk rfl [8] (by kernel_rfl) ?_; rintro D vs u ⟨σ, hP, hW⟩ h0 hC hp ac hb K hK
        have s4 : ac.tmps[4]?.getD undef = .pointer (some ⟨r4, 0, none⟩) := by rw [hb]; kernel_rfl
        have s110 := AnyO.slot 110 hb (by kernel_rfl) (hP 8 (hp 8 (by decide)))
        rw [if_pos (AnyO.wanted_some (g := 8) (t := 110) (want := true) rfl rfl s110)]
        clear hb hp hC h0
        have HPW := Lib.hid (And.intro hP hW); clear hP hW; go_simp; exact hK _ _ (AnyO.InvG.step (g := σ) HPW.out.1 rfl HPW.out.2)
      · refine AnyO.StepI.mk rfl [19, 8] (by kernel_rfl) ?_; rintro D vs u ⟨σ, hP, hW⟩ h0 hC hp ac hb K hK
        have s121 := AnyO.slot 121 hb (by kernel_rfl) (hP 19 (hp 19 (by decide)))
        have s110 := AnyO.slot 110 hb (by kernel_rfl) (hP 8 (hp 8 (by decide)))
        rw [if_pos (AnyO.wanted_some (g := 8) (t := 110) (want := true) rfl rfl s110)]
        clear hb hp
        obtain ⟨rr1, rr2⟩ := ((Hw8.out.2.2.1).keep hW).idC
        clear hC h0; have HPW := Lib.hid (And.intro hP hW); clear hP hW; go_simp; exact hK _ _ (AnyO.InvG.step (g := σ) HPW.out.1 rfl HPW.out.2)
      · refine AnyO.StepI.mk rfl [18, 20, 16, 8] (by kernel_rfl) ?_; rintro D vs u ⟨σ, hP, hW⟩ h0 hC hp ac hb K hK
        have s120 := AnyO.slot 120 hb (by kernel_rfl) (hP 18 (hp 18 (by decide)))
        have s122 := AnyO.slot 122 hb (by kernel_rfl) (hP 20 (hp 20 (by decide)))
        have s110 := AnyO.slot 110 hb (by kernel_rfl) (hP 8 (hp 8 (by decide)))
        rw [if_pos (AnyO.wanted_some (g := 8) (t := 110) (want := true) rfl rfl s110)]
        clear hb hp hC h0
        have HPW := Lib.hid (And.intro hP hW); clear hP hW; go_simp; obtain ⟨hP, hW⟩ := HPW.out
        go_at_call 24
        refine (size24_nil o.cmd.id u).mono ?_
        rintro e w2 ⟨rfl, hcb⟩
        exact hK _ _ (AnyO.InvG.step (g := σ) hP rfl (Below.step hW hcb))
      · refine AnyO.StepI.mk rfl [17, 21, 8] (by kernel_rfl) ?_; rintro D vs u ⟨σ, hP, hW⟩ h0 hC hp ac hb K hK
        have s119 := AnyO.slot 119 hb (by kernel_rfl) (hP 17 (hp 17 (by decide)))
        have s123 := AnyO.slot 123 hb (by kernel_rfl) (hP 21 (hp 21 (by decide)))
        have s110 := AnyO.slot 110 hb (by kernel_rfl) (hP 8 (hp 8 (by decide)))
        rw [if_pos (AnyO.wanted_some (g := 8) (t := 110) (want := true) rfl rfl s110)]
        clear hb hp hC h0
        have HPW := Lib.hid (And.intro hP hW); clear hP hW; go_simp; exact hK _ _ (AnyO.InvG.step (g := σ) HPW.out.1 rfl HPW.out.2)
      · refine AnyO.StepI.mk rfl [22, 8] (by kernel_rfl) ?_; rintro D vs u ⟨σ, hP, hW⟩ h0 hC hp ac hb K hK
        have s124 := AnyO.slot 124 hb (by kernel_rfl) (hP 22 (hp 22 (by decide)))
        have s110 := AnyO.slot 110 hb (by kernel_rfl) (hP 8 (hp 8 (by decide)))
        rw [if_pos (AnyO.wanted_some (g := 8) (t := 110) (want := true) rfl rfl s110)]
        clear hb hp hC h0
        have HPW := Lib.hid (And.intro hP hW); clear hP hW; go_simp; exact hK _ _ (AnyO.InvG.step (g := σ) HPW.out.1 rfl HPW.out.2)
      · refine AnyO.StepI.mk rfl [25] (by kernel_rfl) ?_; rintro D vs u ⟨σ, hP, hW⟩ h0 hC hp ac hb K hK
        have s3 : ac.tmps[3]?.getD undef = .pointer none := by rw [hb]; kernel_rfl
        have s127 := AnyO.slot 127 hb (by kernel_rfl) (hP 25 (hp 25 (by decide)))
        rw [if_pos (AnyO.wanted_some (g := 25) (t := 127) (want := true) rfl rfl s127)]
        clear hb hp hC h0
        have HPW := Lib.hid (And.intro hP hW); clear hP hW; go_simp; exact hK _ _ (AnyO.InvG.step (g := σ) HPW.out.1 rfl HPW.out.2)
      · refine AnyO.StepI.mk rfl [26, 25, 25] (by kernel_rfl) ?_; rintro D vs u ⟨σ, hP, hW⟩ h0 hC hp ac hb K hK
        have s128 := AnyO.slot 128 hb (by kernel_rfl) (hP 26 (hp 26 (by decide)))
        have s127 := AnyO.slot 127 hb (by kernel_rfl) (hP 25 (hp 25 (by decide)))
        rw [if_pos (AnyO.wanted_some (g := 25) (t := 127) (want := true) rfl rfl s127)]
        clear hb hp hC h0
        have HPW := Lib.hid (And.intro hP hW); clear hP hW; go_simp; obtain ⟨hP, hW⟩ := HPW.out
        go_at_call 19
        refine (active19_nil u).mono ?_
        rintro e w2 ⟨rfl, hcb⟩
        exact hK _ _ (AnyO.InvG.step (g := σ) hP rfl (Below.step hW hcb))
      · refine AnyO.StepI.mk rfl [27, 25] (by kernel_rfl) ?_; rintro D vs u ⟨σ, hP, hW⟩ h0 hC hp ac hb K hK
        have s129 := AnyO.slot 129 hb (by kernel_rfl) (hP 27 (hp 27 (by decide)))
        have s127 := AnyO.slot 127 hb (by kernel_rfl) (hP 25 (hp 25 (by decide)))
        rw [if_pos (AnyO.wanted_some (g := 25) (t := 127) (want := true) rfl rfl s127)]
        clear hb hp hC h0
        have HPW := Lib.hid (And.intro hP hW); clear hP hW; go_simp; exact hK _ _ (AnyO.InvG.step (g := σ) HPW.out.1 rfl HPW.out.2)
      · refine AnyO.StepI.mk rfl [25] (by kernel_rfl) ?_; rintro D vs u ⟨σ, hP, hW⟩ h0 hC hp ac hb K hK
        have s3 : ac.tmps[3]?.getD undef = .pointer none := by rw [hb]; kernel_rfl
        have s127 := AnyO.slot 127 hb (by kernel_rfl) (hP 25 (hp 25 (by decide)))
        rw [if_pos (AnyO.wanted_some (g := 25) (t := 127) (want := true) rfl rfl s127)]
        clear hb hp hC h0
        have HPW := Lib.hid (And.intro hP hW); clear hP hW; go_simp; exact hK _ _ (AnyO.InvG.step (g := σ) HPW.out.1 rfl HPW.out.2)
      · refine AnyO.StepI.mk rfl [29, 27, 25] (by kernel_rfl) ?_; rintro D vs u ⟨σ, hP, hW⟩ h0 hC hp ac hb K hK
        have s131 := AnyO.slot 131 hb (by kernel_rfl) (hP 29 (hp 29 (by decide)))
        have s127 := AnyO.slot 127 hb (by kernel_rfl) (hP 25 (hp 25 (by decide)))
        rw [if_pos (AnyO.wanted_some (g := 25) (t := 127) (want := true) rfl rfl s127)]
        clear hb hp hC h0
        have HPW := Lib.hid (And.intro hP hW); clear hP hW; go_simp; obtain ⟨hP, hW⟩ := HPW.out
        go_at_call 20
        refine (partial20_nil u).mono ?_
        rintro e w2 ⟨rfl, hcb⟩
        exact hK _ _ (AnyO.InvG.step (g := σ) hP rfl (Below.step hW hcb))
      · refine AnyO.StepI.mk rfl [30, 25] (by kernel_rfl) ?_; rintro D vs u ⟨σ, hP, hW⟩ h0 hC hp ac hb K hK
        have s132 := AnyO.slot 132 hb (by kernel_rfl) (hP 30 (hp 30 (by decide)))
        have s127 := AnyO.slot 127 hb (by kernel_rfl) (hP 25 (hp 25 (by decide)))
        rw [if_pos (AnyO.wanted_some (g := 25) (t := 127) (want := true) rfl rfl s127)]
        clear hb hp hC h0
        have HPW := Lib.hid (And.intro hP hW); clear hP hW; go_simp; exact hK _ _ (AnyO.InvG.step (g := σ) HPW.out.1 rfl HPW.out.2)
      · refine AnyO.StepI.mk rfl [28, 31, 25] (by kernel_rfl) ?_; rintro D vs u ⟨σ, hP, hW⟩ h0 hC hp ac hb K hK
        have s130 := AnyO.slot 130 hb (by kernel_rfl) (hP 28 (hp 28 (by decide)))
        have s133 := AnyO.slot 133 hb (by kernel_rfl) (hP 31 (hp 31 (by decide)))
        have s127 := AnyO.slot 127 hb (by kernel_rfl) (hP 25 (hp 25 (by decide)))
        rw [if_pos (AnyO.wanted_some (g := 25) (t := 127) (want := true) rfl rfl s127)]
        clear hb hp hC h0
        have HPW := Lib.hid (And.intro hP hW); clear hP hW; go_simp; exact hK _ _ (AnyO.InvG.step (g := σ) HPW.out.1 rfl HPW.out.2)
      · refine AnyO.StepI.mk rfl [32, 25] (by kernel_rfl) ?_; rintro D vs u ⟨σ, hP, hW⟩ h0 hC hp ac hb K hK
        have s134 := AnyO.slot 134 hb (by kernel_rfl) (hP 32 (hp 32 (by decide)))
        have s127 := AnyO.slot 127 hb (by kernel_rfl) (hP 25 (hp 25 (by decide)))
        rw [if_pos (AnyO.wanted_some (g := 25) (t := 127) (want := true) rfl rfl s127)]
        clear hb hp hC h0
        have HPW := Lib.hid (And.intro hP hW); clear hP hW; go_simp; exact hK _ _ (AnyO.InvG.step (g := σ) HPW.out.1 rfl HPW.out.2)
      · refine AnyO.StepI.mk rfl [35] (by kernel_rfl) ?_; rintro D vs u ⟨σ, hP, hW⟩ h0 hC hp ac hb K hK
        have s3 : ac.tmps[3]?.getD undef = .pointer none := by rw [hb]; kernel_rfl
        have s137 := AnyO.slot 137 hb (by kernel_rfl) (hP 35 (hp 35 (by decide)))
        rw [if_pos (AnyO.wanted_some (g := 35) (t := 137) (want := true) rfl rfl s137)]
        clear hb hp hC h0
        have HPW := Lib.hid (And.intro hP hW); clear hP hW; go_simp; exact hK _ _ (AnyO.InvG.step (g := σ) HPW.out.1 rfl HPW.out.2)
      · refine AnyO.StepI.mk rfl [35] (by kernel_rfl) ?_; rintro D vs u ⟨σ, hP, hW⟩ h0 hC hp ac hb K hK
        have s4 : ac.tmps[4]?.getD undef = .pointer (some ⟨r4, 0, none⟩) := by rw [hb]; kernel_rfl
        have s137 := AnyO.slot 137 hb (by kernel_rfl) (hP 35 (hp 35 (by decide)))
        rw [if_pos (AnyO.wanted_some (g := 35) (t := 137) (want := true) rfl rfl s137)]
        clear hb hp hC h0
        have HPW := Lib.hid (And.intro hP hW); clear hP hW; go_simp; exact hK _ _ (AnyO.InvG.step (g := σ) HPW.out.1 rfl HPW.out.2)
      · refine AnyO.StepI.mk rfl [37, 35] (by kernel_rfl) ?_; rintro D vs u ⟨σ, hP, hW⟩ h0 hC hp ac hb K hK
        have s139 := AnyO.slot 139 hb (by kernel_rfl) (hP 37 (hp 37 (by decide)))
        have s137 := AnyO.slot 137 hb (by kernel_rfl) (hP 35 (hp 35 (by decide)))
        rw [if_pos (AnyO.wanted_some (g := 35) (t := 137) (want := true) rfl rfl s137)]
        clear hb hp
        obtain ⟨rr1, rr2⟩ := ((Hw8.out.2.2.1).keep hW).idC
        clear hC h0; have HPW := Lib.hid (And.intro hP hW); clear hP hW; go_simp; exact hK _ _ (AnyO.InvG.step (g := σ) HPW.out.1 rfl HPW.out.2)
      · refine AnyO.StepI.mk rfl [36, 38, 35, 35] (by kernel_rfl) ?_; rintro D vs u ⟨σ, hP, hW⟩ h0 hC hp ac hb K hK
        have s138 := AnyO.slot 138 hb (by kernel_rfl) (hP 36 (hp 36 (by decide)))
        have s140 := AnyO.slot 140 hb (by kernel_rfl) (hP 38 (hp 38 (by decide)))
        have s137 := AnyO.slot 137 hb (by kernel_rfl) (hP 35 (hp 35 (by decide)))
        rw [if_pos (AnyO.wanted_some (g := 35) (t := 137) (want := true) rfl rfl s137)]
        clear hb hp hC h0
        have HPW := Lib.hid (And.intro hP hW); clear hP hW; go_simp; obtain ⟨hP, hW⟩ := HPW.out
        go_at_call 35
        refine (forget35_nil o.cmd.id u).mono ?_
        rintro e w2 ⟨rfl, hcb⟩
        exact hK _ _ (AnyO.InvG.step (g := σ) hP rfl (Below.step hW hcb))
      · refine AnyO.StepI.mk rfl [39, 35] (by kernel_rfl) ?_; rintro D vs u ⟨σ, hP, hW⟩ h0 hC hp ac hb K hK
        have s141 := AnyO.slot 141 hb (by kernel_rfl) (hP 39 (hp 39 (by decide)))
        have s137 := AnyO.slot 137 hb (by kernel_rfl) (hP 35 (hp 35 (by decide)))
        rw [if_pos (AnyO.wanted_some (g := 35) (t := 137) (want := true) rfl rfl s137)]
        clear hb hp hC h0
        have HPW := Lib.hid (And.intro hP hW); clear hP hW; go_simp; exact hK _ _ (AnyO.InvG.step (g := σ) HPW.out.1 rfl HPW.out.2)
      · refine AnyO.StepI.mk rfl [42] (by kernel_rfl) ?_; rintro D vs u ⟨σ, hP, hW⟩ h0 hC hp ac hb K hK
        have s3 : ac.tmps[3]?.getD undef = .pointer none := by rw [hb]; kernel_rfl
        have s144 := AnyO.slot 144 hb (by kernel_rfl) (hP 42 (hp 42 (by decide)))
        rw [if_pos (AnyO.wanted_some (g := 42) (t := 144) (want := true) rfl rfl s144)]
        clear hb hp hC h0
        have HPW := Lib.hid (And.intro hP hW); clear hP hW; go_simp; exact hK _ _ (AnyO.InvG.step (g := σ) HPW.out.1 rfl HPW.out.2)
      · refine AnyO.StepI.mk rfl [43, 42, 42] (by kernel_rfl) ?_; rintro D vs u ⟨σ, hP, hW⟩ h0 hC hp ac hb K hK
        have s145 := AnyO.slot 145 hb (by kernel_rfl) (hP 43 (hp 43 (by decide)))
        have s144 := AnyO.slot 144 hb (by kernel_rfl) (hP 42 (hp 42 (by decide)))
        rw [if_pos (AnyO.wanted_some (g := 42) (t := 144) (want := true) rfl rfl s144)]
        clear hb hp hC h0
        have HPW := Lib.hid (And.intro hP hW); clear hP hW; go_simp; obtain ⟨hP, hW⟩ := HPW.out
        go_at_call 21
        refine (isOpen21_nil u).mono ?_
        rintro e w2 ⟨rfl, hcb⟩
        exact hK _ _ (AnyO.InvG.step (g := σ) hP rfl (Below.step hW hcb))
      · refine AnyO.StepI.mk rfl [44, 42] (by kernel_rfl) ?_; rintro D vs u ⟨σ, hP, hW⟩ h0 hC hp ac hb K hK
        have s146 := AnyO.slot 146 hb (by kernel_rfl) (hP 44 (hp 44 (by decide)))
        have s144 := AnyO.slot 144 hb (by kernel_rfl) (hP 42 (hp 42 (by decide)))
        rw [if_pos (AnyO.wanted_some (g := 42) (t := 144) (want := true) rfl rfl s144)]
        clear hb hp hC h0
        have HPW := Lib.hid (And.intro hP hW); clear hP hW; go_simp; exact hK _ _ (AnyO.InvG.step (g := σ) HPW.out.1 rfl HPW.out.2)
      · refine AnyO.StepI.mk rfl [47] (by kernel_rfl) ?_; rintro D vs u ⟨σ, hP, hW⟩ h0 hC hp ac hb K hK
        have s3 : ac.tmps[3]?.getD undef = .pointer none := by rw [hb]; kernel_rfl
        have s149 := AnyO.slot 149 hb (by kernel_rfl) (hP 47 (hp 47 (by decide)))
        rw [if_pos (AnyO.wanted_some (g := 47) (t := 149) (want := true) rfl rfl s149)]
        clear hb hp hC h0
        have HPW := Lib.hid (And.intro hP hW); clear hP hW; go_simp; exact hK _ _ (AnyO.InvG.step (g := σ) HPW.out.1 rfl HPW.out.2)
      · refine AnyO.StepI.mk rfl [48, 47, 47] (by kernel_rfl) ?_; rintro D vs u ⟨σ, hP, hW⟩ h0 hC hp ac hb K hK
        have s150 := AnyO.slot 150 hb (by kernel_rfl) (hP 48 (hp 48 (by decide)))
        have s149 := AnyO.slot 149 hb (by kernel_rfl) (hP 47 (hp 47 (by decide)))
        rw [if_pos (AnyO.wanted_some (g := 47) (t := 149) (want := true) rfl rfl s149)]
        clear hb hp hC h0
        have HPW := Lib.hid (And.intro hP hW); clear hP hW; go_simp; obtain ⟨hP, hW⟩ := HPW.out
        go_at_call 27
        refine (clone27_nil u).mono ?_
        rintro e w2 ⟨rfl, hcb⟩
        exact hK _ _ (AnyO.InvG.step (g := σ) hP rfl (Below.step hW hcb))
      · refine AnyO.StepI.mk rfl [49, 47] (by kernel_rfl) ?_; rintro D vs u ⟨σ, hP, hW⟩ h0 hC hp ac hb K hK
        have s151 := AnyO.slot 151 hb (by kernel_rfl) (hP 49 (hp 49 (by decide)))
        have s149 := AnyO.slot 149 hb (by kernel_rfl) (hP 47 (hp 47 (by decide)))
        rw [if_pos (AnyO.wanted_some (g := 47) (t := 149) (want := true) rfl rfl s149)]
        clear hb hp hC h0
        have HPW := Lib.hid (And.intro hP hW); clear hP hW; go_simp; exact hK _ _ (AnyO.InvG.step (g := σ) HPW.out.1 rfl HPW.out.2)
      · refine AnyO.StepI.mk rfl [52] (by kernel_rfl) ?_; rintro D vs u ⟨σ, hP, hW⟩ h0 hC hp ac hb K hK
        have s3 : ac.tmps[3]?.getD undef = .pointer none := by rw [hb]; kernel_rfl
        have s154 := AnyO.slot 154 hb (by kernel_rfl) (hP 52 (hp 52 (by decide)))
        rw [if_pos (AnyO.wanted_some (g := 52) (t := 154) (want := true) rfl rfl s154)]
        clear hb hp hC h0
        have HPW := Lib.hid (And.intro hP hW); clear hP hW; go_simp; exact hK _ _ (AnyO.InvG.step (g := σ) HPW.out.1 rfl HPW.out.2)
      · refine AnyO.StepI.mk rfl [53, 52, 52] (by kernel_rfl) ?_; rintro D vs u ⟨σ, hP, hW⟩ h0 hC hp ac hb K hK
        have s155 := AnyO.slot 155 hb (by kernel_rfl) (hP 53 (hp 53 (by decide)))
        have s154 := AnyO.slot 154 hb (by kernel_rfl) (hP 52 (hp 52 (by decide)))
        rw [if_pos (AnyO.wanted_some (g := 52) (t := 154) (want := true) rfl rfl s154)]
        clear hb hp hC h0
        have HPW := Lib.hid (And.intro hP hW); clear hP hW; go_simp; obtain ⟨hP, hW⟩ := HPW.out
        go_at_call 29
        refine (equal29_nn u).mono ?_
        rintro e w2 ⟨rfl, hcb⟩
        exact hK _ _ (AnyO.InvG.step (g := σ) hP rfl (Below.step hW hcb))
      · refine AnyO.StepI.mk rfl [56] (by kernel_rfl) ?_; rintro D vs u ⟨σ, hP, hW⟩ h0 hC hp ac hb K hK
        have s3 : ac.tmps[3]?.getD undef = .pointer none := by rw [hb]; kernel_rfl
        have s158 := AnyO.slot 158 hb (by kernel_rfl) (hP 56 (hp 56 (by decide)))
        rw [if_pos (AnyO.wanted_some (g := 56) (t := 158) (want := true) rfl rfl s158)]
        clear hb hp hC h0
        have HPW := Lib.hid (And.intro hP hW); clear hP hW; go_simp; exact hK _ _ (AnyO.InvG.step (g := σ) HPW.out.1 rfl HPW.out.2)
      · refine AnyO.StepI.mk rfl [56] (by kernel_rfl) ?_; rintro D vs u ⟨σ, hP, hW⟩ h0 hC hp ac hb K hK
        have s14 : ac.tmps[14]?.getD undef = .pointer (some ⟨b, 0, none⟩) := by rw [hb]; kernel_rfl
        have s158 := AnyO.slot 158 hb (by kernel_rfl) (hP 56 (hp 56 (by decide)))
        rw [if_pos (AnyO.wanted_some (g := 56) (t := 158) (want := true) rfl rfl s158)]
        clear hb hp hC h0
        have HPW := Lib.hid (And.intro hP hW); clear hP hW; go_simp; exact hK _ _ (AnyO.InvG.step (g := σ) HPW.out.1 rfl HPW.out.2)
      · refine AnyO.StepI.mk rfl [57, 58, 56, 56] (by kernel_rfl) ?_; rintro D vs u ⟨σ, hP, hW⟩ h0 hC hp ac hb K hK
        have s159 := AnyO.slot 159 hb (by kernel_rfl) (hP 57 (hp 57 (by decide)))
        have s160 := AnyO.slot 160 hb (by kernel_rfl) (hP 58 (hp 58 (by decide)))
        have s158 := AnyO.slot 158 hb (by kernel_rfl) (hP 56 (hp 56 (by decide)))
        rw [if_pos (AnyO.wanted_some (g := 56) (t := 158) (want := true) rfl rfl s158)]
        clear hb hp hC h0
        have HPW := Lib.hid (And.intro hP hW); clear hP hW; go_simp; obtain ⟨hP, hW⟩ := HPW.out
        go_at_call 29
        refine (equal29_np b u).mono ?_
        rintro e w2 ⟨rfl, hcb⟩
        exact hK _ _ (AnyO.InvG.step (g := σ) hP rfl (Below.step hW hcb))
      · refine AnyO.StepI.mk rfl [59, 56] (by kernel_rfl) ?_; rintro D vs u ⟨σ, hP, hW⟩ h0 hC hp ac hb K hK
        have s161 := AnyO.slot 161 hb (by kernel_rfl) (hP 59 (hp 59 (by decide)))
        have s158 := AnyO.slot 158 hb (by kernel_rfl) (hP 56 (hp 56 (by decide)))
        rw [if_pos (AnyO.wanted_some (g := 56) (t := 158) (want := true) rfl rfl s158)]
        clear hb hp hC h0
        have HPW := Lib.hid (And.intro hP hW); clear hP hW; go_simp; exact hK _ _ (AnyO.InvG.step (g := σ) HPW.out.1 rfl HPW.out.2)
      · refine AnyO.StepI.mk rfl [62] (by kernel_rfl) ?_; rintro D vs u ⟨σ, hP, hW⟩ h0 hC hp ac hb K hK
        have s14 : ac.tmps[14]?.getD undef = .pointer (some ⟨b, 0, none⟩) := by rw [hb]; kernel_rfl
        have s164 := AnyO.slot 164 hb (by kernel_rfl) (hP 62 (hp 62 (by decide)))
        rw [if_pos (AnyO.wanted_some (g := 62) (t := 164) (want := true) rfl rfl s164)]
        clear hb hp hC h0
        have HPW := Lib.hid (And.intro hP hW); clear hP hW; go_simp; exact hK _ _ (AnyO.InvG.step (g := σ) HPW.out.1 rfl HPW.out.2)
      · refine AnyO.StepI.mk rfl [63, 62, 62] (by kernel_rfl) ?_; rintro D vs u ⟨σ, hP, hW⟩ h0 hC hp ac hb K hK
        have s165 := AnyO.slot 165 hb (by kernel_rfl) (hP 63 (hp 63 (by decide)))
        have s164 := AnyO.slot 164 hb (by kernel_rfl) (hP 62 (hp 62 (by decide)))
        rw [if_pos (AnyO.wanted_some (g := 62) (t := 164) (want := true) rfl rfl s164)]
        clear hb hp hC h0
        have HPW := Lib.hid (And.intro hP hW); clear hP hW; go_simp; obtain ⟨hP, hW⟩ := HPW.out
        go_at_call 29
        refine (equal29_pn b u).mono ?_
        rintro e w2 ⟨rfl, hcb⟩
        exact hK _ _ (AnyO.InvG.step (g := σ) hP rfl (Below.step hW hcb))
      · refine AnyO.StepI.mk rfl [64, 62] (by kernel_rfl) ?_; rintro D vs u ⟨σ, hP, hW⟩ h0 hC hp ac hb K hK
        have s166 := AnyO.slot 166 hb (by kernel_rfl) (hP 64 (hp 64 (by decide)))
        have s164 := AnyO.slot 164 hb (by kernel_rfl) (hP 62 (hp 62 (by decide)))
        rw [if_pos (AnyO.wanted_some (g := 62) (t := 164) (want := true) rfl rfl s164)]
        clear hb hp hC h0
        have HPW := Lib.hid (And.intro hP hW); clear hP hW; go_simp; exact hK _ _ (AnyO.InvG.step (g := σ) HPW.out.1 rfl HPW.out.2)
      all_goals
        refine AnyO.StepI.mk rfl _ rfl ?_; rintro D vs u ⟨σ, hP, hW⟩ h0 hC hp ac hb K hK
        try have s3 : ac.tmps[3]?.getD undef = .pointer none := by rw [hb]; kernel_rfl
        try have s103 := AnyO.slot 103 hb (by kernel_rfl) (hP 1 (hp 1 (by decide +kernel)))
        try have s104 := AnyO.slot 104 hb (by kernel_rfl) (hP 2 (hp 2 (by decide +kernel)))
        try have s105 := AnyO.slot 105 hb (by kernel_rfl) (hP 3 (hp 3 (by decide +kernel)))
        try have s108 := AnyO.slot 108 hb (by kernel_rfl) (hP 6 (hp 6 (by decide +kernel)))
        try have s109 := AnyO.slot 109 hb (by kernel_rfl) (hP 7 (hp 7 (by decide +kernel)))
        try have s110 := AnyO.slot 110 hb (by kernel_rfl) (hP 8 (hp 8 (by decide +kernel)))
        try have s125 := AnyO.slot 125 hb (by kernel_rfl) (hP 23 (hp 23 (by decide +kernel)))
        try have s126 := AnyO.slot 126 hb (by kernel_rfl) (hP 24 (hp 24 (by decide +kernel)))
        try have s127 := AnyO.slot 127 hb (by kernel_rfl) (hP 25 (hp 25 (by decide +kernel)))
        try have s135 := AnyO.slot 135 hb (by kernel_rfl) (hP 33 (hp 33 (by decide +kernel)))
        try have s136 := AnyO.slot 136 hb (by kernel_rfl) (hP 34 (hp 34 (by decide +kernel)))
        try have s137 := AnyO.slot 137 hb (by kernel_rfl) (hP 35 (hp 35 (by decide +kernel)))
        try have s142 := AnyO.slot 142 hb (by kernel_rfl) (hP 40 (hp 40 (by decide +kernel)))
        try have s143 := AnyO.slot 143 hb (by kernel_rfl) (hP 41 (hp 41 (by decide +kernel)))
        try have s144 := AnyO.slot 144 hb (by kernel_rfl) (hP 42 (hp 42 (by decide +kernel)))
        try have s147 := AnyO.slot 147 hb (by kernel_rfl) (hP 45 (hp 45 (by decide +kernel)))
        try have s148 := AnyO.slot 148 hb (by kernel_rfl) (hP 46 (hp 46 (by decide +kernel)))
        try have s149 := AnyO.slot 149 hb (by kernel_rfl) (hP 47 (hp 47 (by decide +kernel)))
        try have s152 := AnyO.slot 152 hb (by kernel_rfl) (hP 50 (hp 50 (by decide +kernel)))
        try have s153 := AnyO.slot 153 hb (by kernel_rfl) (hP 51 (hp 51 (by decide +kernel)))
        try have s154 := AnyO.slot 154 hb (by kernel_rfl) (hP 52 (hp 52 (by decide +kernel)))
        try have s156 := AnyO.slot 156 hb (by kernel_rfl) (hP 54 (hp 54 (by decide +kernel)))
        try have s157 := AnyO.slot 157 hb (by kernel_rfl) (hP 55 (hp 55 (by decide +kernel)))
        try have s158 := AnyO.slot 158 hb (by kernel_rfl) (hP 56 (hp 56 (by decide +kernel)))
        try have s162 := AnyO.slot 162 hb (by kernel_rfl) (hP 60 (hp 60 (by decide +kernel)))
        try have s163 := AnyO.slot 163 hb (by kernel_rfl) (hP 61 (hp 61 (by decide +kernel)))
        try have s164 := AnyO.slot 164 hb (by kernel_rfl) (hP 62 (hp 62 (by decide +kernel)))
        try have s167 := AnyO.slot 167 hb (by kernel_rfl) (hP 65 (hp 65 (by decide +kernel)))
        try have s168 := AnyO.slot 168 hb (by kernel_rfl) (hP 66 (hp 66 (by decide +kernel)))
        rw [if_pos (AnyO.wanted_none rfl)]; clear hb hp hC h0; have HPW := Lib.hid (And.intro hP hW); clear hP hW; go_simp; obtain ⟨hP, hW⟩ := HPW.out
        exact hK _ _ (AnyO.InvG.step (g := σ) hP rfl hW)
    · intro D vs u hI hD
      obtain ⟨σ, hP, hW⟩ := hI
      have e0 : _ = _ := hP 0 (hD 0 (by decide))
      have e1 : _ = _ := hP 1 (hD 1 (by decide))
      have e2 : _ = _ := hP 2 (hD 2 (by decide))
      have e3 : _ = _ := hP 3 (hD 3 (by decide))
      have e4 : _ = _ := hP 4 (hD 4 (by decide))
      have e5 : _ = _ := hP 5 (hD 5 (by decide))
      have e6 : _ = _ := hP 6 (hD 6 (by decide))
      have e7 : _ = _ := hP 7 (hD 7 (by decide))
      have e8 : _ = _ := hP 8 (hD 8 (by decide))
      have e9 : _ = _ := hP 9 (hD 9 (by decide))
      have e10 : _ = _ := hP 10 (hD 10 (by decide))
      have e11 : _ = _ := hP 11 (hD 11 (by decide))
      have e12 : _ = _ := hP 12 (hD 12 (by decide))
      have e13 : _ = _ := hP 13 (hD 13 (by decide))
      have e14 : _ = _ := hP 14 (hD 14 (by decide))
      have e15 : _ = _ := hP 15 (hD 15 (by decide))
      have e16 : _ = _ := hP 16 (hD 16 (by decide))
      have e17 : _ = _ := hP 17 (hD 17 (by decide))
      have e18 : _ = _ := hP 18 (hD 18 (by decide))
      have e19 : _ = _ := hP 19 (hD 19 (by decide))
      have e20 : _ = _ := hP 20 (hD 20 (by decide))
      have e21 : _ = _ := hP 21 (hD 21 (by decide))
      have e22 : _ = _ := hP 22 (hD 22 (by decide))
      have e23 : _ = _ := hP 23 (hD 23 (by decide))
      have e24 : _ = _ := hP 24 (hD 24 (by decide))
      have e25 : _ = _ := hP 25 (hD 25 (by decide))
      have e26 : _ = _ := hP 26 (hD 26 (by decide))
      have e27 : _ = _ := hP 27 (hD 27 (by decide))
      have e28 : _ = _ := hP 28 (hD 28 (by decide))
      have e29 : _ = _ := hP 29 (hD 29 (by decide))
      have e30 : _ = _ := hP 30 (hD 30 (by decide))
      have e31 : _ = _ := hP 31 (hD 31 (by decide))
      have e32 : _ = _ := hP 32 (hD 32 (by decide))
      have e33 : _ = _ := hP 33 (hD 33 (by decide))
      have e34 : _ = _ := hP 34 (hD 34 (by decide))
      have e35 : _ = _ := hP 35 (hD 35 (by decide))
      have e36 : _ = _ := hP 36 (hD 36 (by decide))
      have e37 : _ = _ := hP 37 (hD 37 (by decide))
      have e38 : _ = _ := hP 38 (hD 38 (by decide))
      have e39 : _ = _ := hP 39 (hD 39 (by decide))
      have e40 : _ = _ := hP 40 (hD 40 (by decide))
      have e41 : _ = _ := hP 41 (hD 41 (by decide))
      have e42 : _ = _ := hP 42 (hD 42 (by decide))
      have e43 : _ = _ := hP 43 (hD 43 (by decide))
      have e44 : _ = _ := hP 44 (hD 44 (by decide))
      have e45 : _ = _ := hP 45 (hD 45 (by decide))
      have e46 : _ = _ := hP 46 (hD 46 (by decide))
      have e47 : _ = _ := hP 47 (hD 47 (by decide))
      have e48 : _ = _ := hP 48 (hD 48 (by decide))
      have e49 : _ = _ := hP 49 (hD 49 (by decide))
      have e50 : _ = _ := hP 50 (hD 50 (by decide))
      have e51 : _ = _ := hP 51 (hD 51 (by decide))
      have e52 : _ = _ := hP 52 (hD 52 (by decide))
      have e53 : _ = _ := hP 53 (hD 53 (by decide))
      have e54 : _ = _ := hP 54 (hD 54 (by decide))
      have e55 : _ = _ := hP 55 (hD 55 (by decide))
      have e56 : _ = _ := hP 56 (hD 56 (by decide))
      have e57 : _ = _ := hP 57 (hD 57 (by decide))
      have e58 : _ = _ := hP 58 (hD 58 (by decide))
      have e59 : _ = _ := hP 59 (hD 59 (by decide))
      have e60 : _ = _ := hP 60 (hD 60 (by decide))
      have e61 : _ = _ := hP 61 (hD 61 (by decide))
      have e62 : _ = _ := hP 62 (hD 62 (by decide))
      have e63 : _ = _ := hP 63 (hD 63 (by decide))
      have e64 : _ = _ := hP 64 (hD 64 (by decide))
      have e65 : _ = _ := hP 65 (hD 65 (by decide))
      have e66 : _ = _ := hP 66 (hD 66 (by decide))
      have e67 : _ = _ := hP 67 (hD 67 (by decide))
      have HW := Lib.hid hW
      clear hW hP hD
      rw [puts_range [some 102, some 103, some 104, some 105, some 106, some 107, some 108, some 109, some 110, some 111, some 112, some 113, some 114, some 115, some 116, some 117, some 118, some 119, some 120, some 121, some 122, some 123, some 124, some 125, some 126, some 127, some 128, some 129, some 130, some 131, some 132, some 133, some 134, some 135, some 136, some 137, some 138, some 139, some 140, some 141, some 142, some 143, some 144, some 145, some 146, some 147, some 148, some 149, some 150, some 151, some 152, some 153, some 154, some 155, some 156, some 157, some 158, some 159, some 160, some 161, some 162, some 163, some 164, some 165, some 166, some 167, some 168, some 2] (by kernel_rfl)]
      simp only [putL, Nat.reduceAdd, e0, e1, e2, e3, e4, e5, e6, e7, e8, e9, e10, e11, e12, e13, e14, e15, e16, e17, e18, e19, e20, e21, e22, e23, e24, e25, e26, e27, e28, e29, e30, e31, e32, e33, e34, e35, e36, e37, e38, e39, e40, e41, e42, e43, e44, e45, e46, e47, e48, e49, e50, e51, e52, e53, e54, e55, e56, e57, e58, e59, e60, e61, e62, e63, e64, e65, e66, e67]
      clear e0 e1 e2 e3 e4 e5 e6 e7 e8 e9 e10 e11 e12 e13 e14 e15 e16 e17 e18 e19 e20 e21 e22 e23 e24 e25 e26 e27 e28 e29 e30 e31 e32 e33 e34 e35 e36 e37 e38 e39 e40 e41 e42 e43 e44 e45 e46 e47 e48 e49 e50 e51 e52 e53 e54 e55 e56 e57 e58 e59 e60 e61 e62 e63 e64 e65 e66 e67
      go_simp
      go_wp2
      go_ret
      exact ⟨rfl, Below.step Hw8.out.1 HW.out⟩
end Go.Proofs.YtgojaelkdpabkaaGreatDoor
