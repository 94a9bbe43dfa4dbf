/- date: the scanner: one byte that must be, blanks that are passed over. -/
import Derived.Test.YtibelollgdnidaaGreatDoorMDs1
import Derived.BigQuiet
namespace Go.Proofs.YtibelollgdnidaaGreatDoor
open Go.RowKit
theorem dLetter149b (c : UInt8) (h1 : 65 ≤ c.toNat) (h2 : c.toNat ≤ 90) (w : World) : Calls Tryz.prog 149 #[.int .u8 (c.toNat : Int)] w fun e w' => e = .returned (.bool true) ∧ w' = w := by
 have h1i : 65 ≤ (c.toNat : Int) := by omega
 have h2i : (c.toNat : Int) ≤ 90 := by omega
 clear h1 h2
 go_enter Tryz.func149, Tryz.ntmps149
 go_wp2
 go_ret
 exact ⟨rfl, rfl⟩
theorem is152 (c : UInt8) (w : World) : Calls Tryz.prog 152 #[.int .u8 (c.toNat : Int)] w fun e w' => e = .returned (.func (.func 183) #[] #[.pointer (some ⟨w.heap.size, 0, none⟩)]) ∧ w'.cell? ⟨w.heap.size, 0, none⟩ = some (.int .u8 (c.toNat : Int)) ∧ Below w.heap.size w w' := by
 have hc := Row.new w [.int .u8 (c.toNat : Int)] 5
 have HC := Lib.hid hc
 clear hc
 go_enter Tryz.func152, Tryz.ntmps152
 go_wp2
 go_ret
 exact ⟨rfl, HC.out.cell 0, below_alloc _ _⟩
section
set_option maxRecDepth 100000
theorem sees_is (w : World) (b : Nat) (s : ByteArray) (i : Nat) (c : UInt8) (h : ScR w b s i) (hi : i < s.size) (hc : s[i] = c) (r : Bool) (g : Nat) (d : UInt8) (hr : decide (c = d) = r ∧ w.cell? ⟨g, 0, none⟩ = some (.int .u8 (d.toNat : Int))) : Calls Tryz.prog 148 #[.pointer (some ⟨b, 0, none⟩), .func (.func 183) #[] #[.pointer (some ⟨g, 0, none⟩)]] w fun e w' => e = .returned (.bool r) ∧ Below w.heap.size w w' := by
 have hii : (i : Int) < (s.size : Int) := by omega
 have H := Lib.hid h
 have HC := Lib.hid hc
 have HR := Lib.hid hr
 clear h hc hr
 go_enter Tryz.func148, Tryz.ntmps148
 go_wp2
 refine AnyO.wp_anyI (by kernel_rfl) (by kernel_rfl) (AnyO.InvG (σ := Unit) (fun σ => AnyO.pvL [some (.pointer (some ⟨b, 0, none⟩)), some (.pointer (some ⟨b, 0, none⟩)), some (.pointer (some ⟨b, 2, none⟩)), some (.int .i64 0), some (.bool true), some (.bool true), some (.pointer (some ⟨b, 0, none⟩)), some (.pointer (some ⟨b, 0, none⟩)), some (.pointer (some ⟨b, 1, none⟩)), some (.int .i64 (i : Int)), some (.pointer (some ⟨b, 0, none⟩)), some (.pointer (some ⟨b, 0, none⟩)), some (.pointer (some ⟨b, 0, none⟩)), some (.string s), some (.int .i64 (s.size : Int)), some (.bool true), some (.bool true), some (.bool true), some (.func (.func 183) #[] #[.pointer (some ⟨g, 0, none⟩)]), some (.pointer (some ⟨b, 0, none⟩)), some (.pointer (some ⟨b, 0, none⟩)), some (.pointer (some ⟨b, 0, none⟩)), some (.string s), some (.pointer (some ⟨b, 0, none⟩)), some (.pointer (some ⟨b, 0, none⟩)), some (.pointer (some ⟨b, 1, none⟩)), some (.int .i64 (i : Int)), some (.int .u8 (c.toNat : Int)), some (.bool r), some (.bool r), some (.bool r)]) (fun _ _ u => Below w.heap.size w u)) (AnyO.InvG.start (g := ()) (below_drew w)) ?_ ?_
 ·intro i hi
  have hi2 : i = 6 ∨ i = 7 ∨ i = 8 ∨ i = 9 ∨ i = 10 ∨ i = 11 ∨ i = 12 ∨ i = 13 ∨ i = 14 ∨ i = 15 ∨ i = 18 ∨ i = 19 ∨ i = 20 ∨ i = 21 ∨ i = 22 ∨ i = 23 ∨ i = 24 ∨ i = 25 ∨ i = 26 ∨ i = 27 ∨ i = 28 ∨ i = 0 ∨ i = 1 ∨ i = 2 ∨ i = 3 ∨ i = 4 ∨ i = 5 ∨ i = 16 ∨ i = 17 ∨ i = 29 ∨ i = 30 := by simp only [List.size_toArray, List.length_cons, List.length_nil] at hi; omega
  clear hi
  rcases hi2 with rfl | rfl | rfl | rfl | rfl | rfl | rfl | rfl | rfl | rfl | rfl | rfl | rfl | rfl | rfl | rfl | rfl | rfl | rfl | rfl | rfl | rfl | rfl | rfl | rfl | rfl | rfl | rfl | rfl | rfl | rfl
  ·refine AnyO.StepI.mk rfl [5] (by kernel_rfl) ?_; rintro D vs u ⟨σ, hP, hW⟩ h0 hC hp ac hb K hK
   have s0 : ac.tmps[0]?.getD undef = .pointer (some ⟨b, 0, none⟩) := by rw [hb]; kernel_rfl
   have s10 := AnyO.slot 10 hb (by kernel_rfl) (hP 5 (hp 5 (by decide)))
   rw [if_pos (AnyO.wanted_some (g := 5) (t := 10) (want := true) rfl rfl s10)]
   clear hb hp
   clear hC h0; have HPW := Lib.hid (And.intro hP hW); clear hP hW; go_simp; exact hK _ _ (AnyO.InvG.step (g := σ) HPW.out.1 rfl HPW.out.2)
  ·refine AnyO.StepI.mk rfl [6, 5] (by kernel_rfl) ?_; rintro D vs u ⟨σ, hP, hW⟩ h0 hC hp ac hb K hK
   have s11 := AnyO.slot 11 hb (by kernel_rfl) (hP 6 (hp 6 (by decide)))
   have s10 := AnyO.slot 10 hb (by kernel_rfl) (hP 5 (hp 5 (by decide)))
   rw [if_pos (AnyO.wanted_some (g := 5) (t := 10) (want := true) rfl rfl s10)]
   clear hb hp
   clear hC h0; have HPW := Lib.hid (And.intro hP hW); clear hP hW; go_simp; exact hK _ _ (AnyO.InvG.step (g := σ) HPW.out.1 rfl HPW.out.2)
  ·refine AnyO.StepI.mk rfl [7, 5] (by kernel_rfl) ?_; rintro D vs u ⟨σ, hP, hW⟩ h0 hC hp ac hb K hK
   have s12 := AnyO.slot 12 hb (by kernel_rfl) (hP 7 (hp 7 (by decide)))
   have s10 := AnyO.slot 10 hb (by kernel_rfl) (hP 5 (hp 5 (by decide)))
   rw [if_pos (AnyO.wanted_some (g := 5) (t := 10) (want := true) rfl rfl s10)]
   clear hb hp
   clear hC h0; have HPW := Lib.hid (And.intro hP hW); clear hP hW; go_simp; exact hK _ _ (AnyO.InvG.step (g := σ) HPW.out.1 rfl HPW.out.2)
  ·refine AnyO.StepI.mk rfl [8, 5] (by kernel_rfl) ?_; rintro D vs u ⟨σ, hP, hW⟩ h0 hC hp ac hb K hK
   have s13 := AnyO.slot 13 hb (by kernel_rfl) (hP 8 (hp 8 (by decide)))
   have s10 := AnyO.slot 10 hb (by kernel_rfl) (hP 5 (hp 5 (by decide)))
   rw [if_pos (AnyO.wanted_some (g := 5) (t := 10) (want := true) rfl rfl s10)]
   clear hb hp
   have rr1 : u.cell? ⟨b, 1, none⟩ = some (.int .i64 (i : Int)) := (Row.keep H.out hW).cell 1
   clear hC h0; have HPW := Lib.hid (And.intro hP hW); clear hP hW; go_simp; exact hK _ _ (AnyO.InvG.step (g := σ) HPW.out.1 rfl HPW.out.2)
  ·refine AnyO.StepI.mk rfl [5] (by kernel_rfl) ?_; rintro D vs u ⟨σ, hP, hW⟩ h0 hC hp ac hb K hK
   have s0 : ac.tmps[0]?.getD undef = .pointer (some ⟨b, 0, none⟩) := by rw [hb]; kernel_rfl
   have s10 := AnyO.slot 10 hb (by kernel_rfl) (hP 5 (hp 5 (by decide)))
   rw [if_pos (AnyO.wanted_some (g := 5) (t := 10) (want := true) rfl rfl s10)]
   clear hb hp
   clear hC h0; have HPW := Lib.hid (And.intro hP hW); clear hP hW; go_simp; exact hK _ _ (AnyO.InvG.step (g := σ) HPW.out.1 rfl HPW.out.2)
  ·refine AnyO.StepI.mk rfl [10, 5] (by kernel_rfl) ?_; rintro D vs u ⟨σ, hP, hW⟩ h0 hC hp ac hb K hK
   have s15 := AnyO.slot 15 hb (by kernel_rfl) (hP 10 (hp 10 (by decide)))
   have s10 := AnyO.slot 10 hb (by kernel_rfl) (hP 5 (hp 5 (by decide)))
   rw [if_pos (AnyO.wanted_some (g := 5) (t := 10) (want := true) rfl rfl s10)]
   clear hb hp
   clear hC h0; have HPW := Lib.hid (And.intro hP hW); clear hP hW; go_simp; exact hK _ _ (AnyO.InvG.step (g := σ) HPW.out.1 rfl HPW.out.2)
  ·refine AnyO.StepI.mk rfl [11, 5] (by kernel_rfl) ?_; rintro D vs u ⟨σ, hP, hW⟩ h0 hC hp ac hb K hK
   have s16 := AnyO.slot 16 hb (by kernel_rfl) (hP 11 (hp 11 (by decide)))
   have s10 := AnyO.slot 10 hb (by kernel_rfl) (hP 5 (hp 5 (by decide)))
   rw [if_pos (AnyO.wanted_some (g := 5) (t := 10) (want := true) rfl rfl s10)]
   clear hb hp
   clear hC h0; have HPW := Lib.hid (And.intro hP hW); clear hP hW; go_simp; exact hK _ _ (AnyO.InvG.step (g := σ) HPW.out.1 rfl HPW.out.2)
  ·refine AnyO.StepI.mk rfl [12, 5] (by kernel_rfl) ?_; rintro D vs u ⟨σ, hP, hW⟩ h0 hC hp ac hb K hK
   have s17 := AnyO.slot 17 hb (by kernel_rfl) (hP 12 (hp 12 (by decide)))
   have s10 := AnyO.slot 10 hb (by kernel_rfl) (hP 5 (hp 5 (by decide)))
   rw [if_pos (AnyO.wanted_some (g := 5) (t := 10) (want := true) rfl rfl s10)]
   clear hb hp
   have rr1 : u.cell? ⟨b, 0, none⟩ = some (.string s) := (Row.keep H.out hW).cell 0
   clear hC h0; have HPW := Lib.hid (And.intro hP hW); clear hP hW; go_simp; exact hK _ _ (AnyO.InvG.step (g := σ) HPW.out.1 rfl HPW.out.2)
  ·refine AnyO.StepI.mk rfl [13, 5] (by kernel_rfl) ?_; rintro D vs u ⟨σ, hP, hW⟩ h0 hC hp ac hb K hK
   have s18 := AnyO.slot 18 hb (by kernel_rfl) (hP 13 (hp 13 (by decide)))
   have s10 := AnyO.slot 10 hb (by kernel_rfl) (hP 5 (hp 5 (by decide)))
   rw [if_pos (AnyO.wanted_some (g := 5) (t := 10) (want := true) rfl rfl s10)]
   clear hb hp
   clear hC h0; have HPW := Lib.hid (And.intro hP hW); clear hP hW; go_simp; exact hK _ _ (AnyO.InvG.step (g := σ) HPW.out.1 rfl HPW.out.2)
  ·refine AnyO.StepI.mk rfl [9, 14, 5] (by kernel_rfl) ?_; rintro D vs u ⟨σ, hP, hW⟩ h0 hC hp ac hb K hK
   have s14 := AnyO.slot 14 hb (by kernel_rfl) (hP 9 (hp 9 (by decide)))
   have s19 := AnyO.slot 19 hb (by kernel_rfl) (hP 14 (hp 14 (by decide)))
   have s10 := AnyO.slot 10 hb (by kernel_rfl) (hP 5 (hp 5 (by decide)))
   rw [if_pos (AnyO.wanted_some (g := 5) (t := 10) (want := true) rfl rfl s10)]
   clear hb hp
   clear hC h0; have HPW := Lib.hid (And.intro hP hW); clear hP hW; go_simp; exact hK _ _ (AnyO.InvG.step (g := σ) HPW.out.1 rfl HPW.out.2)
  ·refine AnyO.StepI.mk rfl [17] (by kernel_rfl) ?_; rintro D vs u ⟨σ, hP, hW⟩ h0 hC hp ac hb K hK
   have s1 : ac.tmps[1]?.getD undef = .func (.func 183) #[] #[.pointer (some ⟨g, 0, none⟩)] := by rw [hb]; kernel_rfl
   have s22 := AnyO.slot 22 hb (by kernel_rfl) (hP 17 (hp 17 (by decide)))
   rw [if_pos (AnyO.wanted_some (g := 17) (t := 22) (want := true) rfl rfl s22)]
   clear hb hp
   clear hC h0; have HPW := Lib.hid (And.intro hP hW); clear hP hW; go_simp; exact hK _ _ (AnyO.InvG.step (g := σ) HPW.out.1 rfl HPW.out.2)
  ·refine AnyO.StepI.mk rfl [17] (by kernel_rfl) ?_; rintro D vs u ⟨σ, hP, hW⟩ h0 hC hp ac hb K hK
   have s0 : ac.tmps[0]?.getD undef = .pointer (some ⟨b, 0, none⟩) := by rw [hb]; kernel_rfl
   have s22 := AnyO.slot 22 hb (by kernel_rfl) (hP 17 (hp 17 (by decide)))
   rw [if_pos (AnyO.wanted_some (g := 17) (t := 22) (want := true) rfl rfl s22)]
   clear hb hp
   clear hC h0; have HPW := Lib.hid (And.intro hP hW); clear hP hW; go_simp; exact hK _ _ (AnyO.InvG.step (g := σ) HPW.out.1 rfl HPW.out.2)
  ·refine AnyO.StepI.mk rfl [19, 17] (by kernel_rfl) ?_; rintro D vs u ⟨σ, hP, hW⟩ h0 hC hp ac hb K hK
   have s24 := AnyO.slot 24 hb (by kernel_rfl) (hP 19 (hp 19 (by decide)))
   have s22 := AnyO.slot 22 hb (by kernel_rfl) (hP 17 (hp 17 (by decide)))
   rw [if_pos (AnyO.wanted_some (g := 17) (t := 22) (want := true) rfl rfl s22)]
   clear hb hp
   clear hC h0; have HPW := Lib.hid (And.intro hP hW); clear hP hW; go_simp; exact hK _ _ (AnyO.InvG.step (g := σ) HPW.out.1 rfl HPW.out.2)
  ·refine AnyO.StepI.mk rfl [20, 17] (by kernel_rfl) ?_; rintro D vs u ⟨σ, hP, hW⟩ h0 hC hp ac hb K hK
   have s25 := AnyO.slot 25 hb (by kernel_rfl) (hP 20 (hp 20 (by decide)))
   have s22 := AnyO.slot 22 hb (by kernel_rfl) (hP 17 (hp 17 (by decide)))
   rw [if_pos (AnyO.wanted_some (g := 17) (t := 22) (want := true) rfl rfl s22)]
   clear hb hp
   clear hC h0; have HPW := Lib.hid (And.intro hP hW); clear hP hW; go_simp; exact hK _ _ (AnyO.InvG.step (g := σ) HPW.out.1 rfl HPW.out.2)
  ·refine AnyO.StepI.mk rfl [21, 17] (by kernel_rfl) ?_; rintro D vs u ⟨σ, hP, hW⟩ h0 hC hp ac hb K hK
   have s26 := AnyO.slot 26 hb (by kernel_rfl) (hP 21 (hp 21 (by decide)))
   have s22 := AnyO.slot 22 hb (by kernel_rfl) (hP 17 (hp 17 (by decide)))
   rw [if_pos (AnyO.wanted_some (g := 17) (t := 22) (want := true) rfl rfl s22)]
   clear hb hp
   have rr1 : u.cell? ⟨b, 0, none⟩ = some (.string s) := (Row.keep H.out hW).cell 0
   clear hC h0; have HPW := Lib.hid (And.intro hP hW); clear hP hW; go_simp; exact hK _ _ (AnyO.InvG.step (g := σ) HPW.out.1 rfl HPW.out.2)
  ·refine AnyO.StepI.mk rfl [17] (by kernel_rfl) ?_; rintro D vs u ⟨σ, hP, hW⟩ h0 hC hp ac hb K hK
   have s0 : ac.tmps[0]?.getD undef = .pointer (some ⟨b, 0, none⟩) := by rw [hb]; kernel_rfl
   have s22 := AnyO.slot 22 hb (by kernel_rfl) (hP 17 (hp 17 (by decide)))
   rw [if_pos (AnyO.wanted_some (g := 17) (t := 22) (want := true) rfl rfl s22)]
   clear hb hp
   clear hC h0; have HPW := Lib.hid (And.intro hP hW); clear hP hW; go_simp; exact hK _ _ (AnyO.InvG.step (g := σ) HPW.out.1 rfl HPW.out.2)
  ·refine AnyO.StepI.mk rfl [23, 17] (by kernel_rfl) ?_; rintro D vs u ⟨σ, hP, hW⟩ h0 hC hp ac hb K hK
   have s28 := AnyO.slot 28 hb (by kernel_rfl) (hP 23 (hp 23 (by decide)))
   have s22 := AnyO.slot 22 hb (by kernel_rfl) (hP 17 (hp 17 (by decide)))
   rw [if_pos (AnyO.wanted_some (g := 17) (t := 22) (want := true) rfl rfl s22)]
   clear hb hp
   clear hC h0; have HPW := Lib.hid (And.intro hP hW); clear hP hW; go_simp; exact hK _ _ (AnyO.InvG.step (g := σ) HPW.out.1 rfl HPW.out.2)
  ·refine AnyO.StepI.mk rfl [24, 17] (by kernel_rfl) ?_; rintro D vs u ⟨σ, hP, hW⟩ h0 hC hp ac hb K hK
   have s29 := AnyO.slot 29 hb (by kernel_rfl) (hP 24 (hp 24 (by decide)))
   have s22 := AnyO.slot 22 hb (by kernel_rfl) (hP 17 (hp 17 (by decide)))
   rw [if_pos (AnyO.wanted_some (g := 17) (t := 22) (want := true) rfl rfl s22)]
   clear hb hp
   clear hC h0; have HPW := Lib.hid (And.intro hP hW); clear hP hW; go_simp; exact hK _ _ (AnyO.InvG.step (g := σ) HPW.out.1 rfl HPW.out.2)
  ·refine AnyO.StepI.mk rfl [25, 17] (by kernel_rfl) ?_; rintro D vs u ⟨σ, hP, hW⟩ h0 hC hp ac hb K hK
   have s30 := AnyO.slot 30 hb (by kernel_rfl) (hP 25 (hp 25 (by decide)))
   have s22 := AnyO.slot 22 hb (by kernel_rfl) (hP 17 (hp 17 (by decide)))
   rw [if_pos (AnyO.wanted_some (g := 17) (t := 22) (want := true) rfl rfl s22)]
   clear hb hp
   have rr1 : u.cell? ⟨b, 1, none⟩ = some (.int .i64 (i : Int)) := (Row.keep H.out hW).cell 1
   clear hC h0; have HPW := Lib.hid (And.intro hP hW); clear hP hW; go_simp; exact hK _ _ (AnyO.InvG.step (g := σ) HPW.out.1 rfl HPW.out.2)
  ·refine AnyO.StepI.mk rfl [22, 26, 17] (by kernel_rfl) ?_; rintro D vs u ⟨σ, hP, hW⟩ h0 hC hp ac hb K hK
   have s27 := AnyO.slot 27 hb (by kernel_rfl) (hP 22 (hp 22 (by decide)))
   have s31 := AnyO.slot 31 hb (by kernel_rfl) (hP 26 (hp 26 (by decide)))
   have s22 := AnyO.slot 22 hb (by kernel_rfl) (hP 17 (hp 17 (by decide)))
   rw [if_pos (AnyO.wanted_some (g := 17) (t := 22) (want := true) rfl rfl s22)]
   clear hb hp
   have rr1 := HC.out
   clear hC h0; have HPW := Lib.hid (And.intro hP hW); clear hP hW; go_simp; exact hK _ _ (AnyO.InvG.step (g := σ) HPW.out.1 rfl HPW.out.2)
  ·refine AnyO.StepI.mk rfl [18, 27, 17, 17] (by kernel_rfl) ?_; rintro D vs u ⟨σ, hP, hW⟩ h0 hC hp ac hb K hK
   have s23 := AnyO.slot 23 hb (by kernel_rfl) (hP 18 (hp 18 (by decide)))
   have s32 := AnyO.slot 32 hb (by kernel_rfl) (hP 27 (hp 27 (by decide)))
   have s22 := AnyO.slot 22 hb (by kernel_rfl) (hP 17 (hp 17 (by decide)))
   rw [if_pos (AnyO.wanted_some (g := 17) (t := 22) (want := true) rfl rfl s22)]
   clear hb hp
   clear hC h0; have HPW := Lib.hid (And.intro hP hW); clear hP hW; go_simp; obtain ⟨hP, hW⟩ := HPW.out
   go_at_call 183
   refine (dIs183 c d g u (cell_below HR.out.2 hW)).mono ?_
   rintro e w2 ⟨rfl, rfl⟩
   rw [HR.out.1]
   exact hK _ _ (AnyO.InvG.step (g := σ) hP rfl hW)
  all_goals
   refine AnyO.J rfl ?_; rintro D vs u σ Q h0 hC hp ac hb K hK
   try have s0 : ac.tmps[0]?.getD undef = .pointer (some ⟨b, 0, none⟩) := by rw [hb.out]; kernel_rfl
   try have s5 : _ = _ := AnyO.sv 5 0 hb hp Q
   try have s6 : _ = _ := AnyO.sv 6 1 hb hp Q
   try have s7 : _ = _ := AnyO.sv 7 2 hb hp Q
   try have s8 : _ = _ := AnyO.sv 8 3 hb hp Q
   try have s9 : _ = _ := AnyO.sv 9 4 hb hp Q
   try have s10 : _ = _ := AnyO.sv 10 5 hb hp Q
   try have s20 : _ = _ := AnyO.sv 20 15 hb hp Q
   try have s21 : _ = _ := AnyO.sv 21 16 hb hp Q
   try have s22 : _ = _ := AnyO.sv 22 17 hb hp Q
   try have s33 : _ = _ := AnyO.sv 33 28 hb hp Q
   try have s34 : _ = _ := AnyO.sv 34 29 hb hp Q
   have rr1 : u.cell? ⟨b, 2, none⟩ = some (.int .i64 0) := (Row.keep H.out Q.out.2).cell 2
   go_simp
   exact hK _ _ (AnyO.InvG.step (g := σ) Q.out.1 rfl Q.out.2)
 ·intro D vs u hI hD
  obtain ⟨σ, hP, hW⟩ := hI
  have e0 : _ = _ := hP 0 (hD 0 (by decide))
  have e1 : _ = _ := hP 1 (hD 1 (by decide))
  have e2 : _ = _ := hP 2 (hD 2 (by decide))
  have e3 : _ = _ := hP 3 (hD 3 (by decide))
  have e4 : _ = _ := hP 4 (hD 4 (by decide))
  have e5 : _ = _ := hP 5 (hD 5 (by decide))
  have e6 : _ = _ := hP 6 (hD 6 (by decide))
  have e7 : _ = _ := hP 7 (hD 7 (by decide))
  have e8 : _ = _ := hP 8 (hD 8 (by decide))
  have e9 : _ = _ := hP 9 (hD 9 (by decide))
  have e10 : _ = _ := hP 10 (hD 10 (by decide))
  have e11 : _ = _ := hP 11 (hD 11 (by decide))
  have e12 : _ = _ := hP 12 (hD 12 (by decide))
  have e13 : _ = _ := hP 13 (hD 13 (by decide))
  have e14 : _ = _ := hP 14 (hD 14 (by decide))
  have e15 : _ = _ := hP 15 (hD 15 (by decide))
  have e16 : _ = _ := hP 16 (hD 16 (by decide))
  have e17 : _ = _ := hP 17 (hD 17 (by decide))
  have e18 : _ = _ := hP 18 (hD 18 (by decide))
  have e19 : _ = _ := hP 19 (hD 19 (by decide))
  have e20 : _ = _ := hP 20 (hD 20 (by decide))
  have e21 : _ = _ := hP 21 (hD 21 (by decide))
  have e22 : _ = _ := hP 22 (hD 22 (by decide))
  have e23 : _ = _ := hP 23 (hD 23 (by decide))
  have e24 : _ = _ := hP 24 (hD 24 (by decide))
  have e25 : _ = _ := hP 25 (hD 25 (by decide))
  have e26 : _ = _ := hP 26 (hD 26 (by decide))
  have e27 : _ = _ := hP 27 (hD 27 (by decide))
  have e28 : _ = _ := hP 28 (hD 28 (by decide))
  have e29 : _ = _ := hP 29 (hD 29 (by decide))
  have e30 : _ = _ := hP 30 (hD 30 (by decide))
  have HW := Lib.hid hW
  clear hW hP hD
  rw [puts_range [some 5, some 6, some 7, some 8, some 9, some 10, some 11, some 12, some 13, some 14, some 15, some 16, some 17, some 18, some 19, some 20, some 21, some 22, some 23, some 24, some 25, some 26, some 27, some 28, some 29, some 30, some 31, some 32, some 33, some 34, some 4] (by kernel_rfl)]
  simp only [putL, Nat.reduceAdd, e0, e1, e2, e3, e4, e5, e6, e7, e8, e9, e10, e11, e12, e13, e14, e15, e16, e17, e18, e19, e20, e21, e22, e23, e24, e25, e26, e27, e28, e29, e30]
  clear e0 e1 e2 e3 e4 e5 e6 e7 e8 e9 e10 e11 e12 e13 e14 e15 e16 e17 e18 e19 e20 e21 e22 e23 e24 e25 e26 e27 e28 e29 e30
  go_simp
  go_wp2
  go_ret
  exact ⟨rfl, HW.out⟩
theorem sees_letter (w : World) (b : Nat) (s : ByteArray) (i : Nat) (c : UInt8) (h : ScR w b s i) (hi : i < s.size) (hc : s[i] = c) (r : Bool) (hr : r = true ∧ 65 ≤ c.toNat ∧ c.toNat ≤ 90) : Calls Tryz.prog 148 #[.pointer (some ⟨b, 0, none⟩), .func (.func 149) #[] #[]] w fun e w' => e = .returned (.bool r) ∧ Below w.heap.size w w' := by
 have hii : (i : Int) < (s.size : Int) := by omega
 have H := Lib.hid h
 have HC := Lib.hid hc
 have HR := Lib.hid hr
 clear h hc hr
 go_enter Tryz.func148, Tryz.ntmps148
 go_wp2
 refine AnyO.wp_anyI (by kernel_rfl) (by kernel_rfl) (AnyO.InvG (σ := Unit) (fun σ => AnyO.pvL [some (.pointer (some ⟨b, 0, none⟩)), some (.pointer (some ⟨b, 0, none⟩)), some (.pointer (some ⟨b, 2, none⟩)), some (.int .i64 0), some (.bool true), some (.bool true), some (.pointer (some ⟨b, 0, none⟩)), some (.pointer (some ⟨b, 0, none⟩)), some (.pointer (some ⟨b, 1, none⟩)), some (.int .i64 (i : Int)), some (.pointer (some ⟨b, 0, none⟩)), some (.pointer (some ⟨b, 0, none⟩)), some (.pointer (some ⟨b, 0, none⟩)), some (.string s), some (.int .i64 (s.size : Int)), some (.bool true), some (.bool true), some (.bool true), some (.func (.func 149) #[] #[]), some (.pointer (some ⟨b, 0, none⟩)), some (.pointer (some ⟨b, 0, none⟩)), some (.pointer (some ⟨b, 0, none⟩)), some (.string s), some (.pointer (some ⟨b, 0, none⟩)), some (.pointer (some ⟨b, 0, none⟩)), some (.pointer (some ⟨b, 1, none⟩)), some (.int .i64 (i : Int)), some (.int .u8 (c.toNat : Int)), some (.bool r), some (.bool r), some (.bool r)]) (fun _ _ u => Below w.heap.size w u)) (AnyO.InvG.start (g := ()) (below_drew w)) ?_ ?_
 ·intro i hi
  have hi2 : i = 6 ∨ i = 7 ∨ i = 8 ∨ i = 9 ∨ i = 10 ∨ i = 11 ∨ i = 12 ∨ i = 13 ∨ i = 14 ∨ i = 15 ∨ i = 18 ∨ i = 19 ∨ i = 20 ∨ i = 21 ∨ i = 22 ∨ i = 23 ∨ i = 24 ∨ i = 25 ∨ i = 26 ∨ i = 27 ∨ i = 28 ∨ i = 0 ∨ i = 1 ∨ i = 2 ∨ i = 3 ∨ i = 4 ∨ i = 5 ∨ i = 16 ∨ i = 17 ∨ i = 29 ∨ i = 30 := by simp only [List.size_toArray, List.length_cons, List.length_nil] at hi; omega
  clear hi
  rcases hi2 with rfl | rfl | rfl | rfl | rfl | rfl | rfl | rfl | rfl | rfl | rfl | rfl | rfl | rfl | rfl | rfl | rfl | rfl | rfl | rfl | rfl | rfl | rfl | rfl | rfl | rfl | rfl | rfl | rfl | rfl | rfl
  ·refine AnyO.StepI.mk rfl [5] (by kernel_rfl) ?_; rintro D vs u ⟨σ, hP, hW⟩ h0 hC hp ac hb K hK
   have s0 : ac.tmps[0]?.getD undef = .pointer (some ⟨b, 0, none⟩) := by rw [hb]; kernel_rfl
   have s10 := AnyO.slot 10 hb (by kernel_rfl) (hP 5 (hp 5 (by decide)))
   rw [if_pos (AnyO.wanted_some (g := 5) (t := 10) (want := true) rfl rfl s10)]
   clear hb hp
   clear hC h0; have HPW := Lib.hid (And.intro hP hW); clear hP hW; go_simp; exact hK _ _ (AnyO.InvG.step (g := σ) HPW.out.1 rfl HPW.out.2)
  ·refine AnyO.StepI.mk rfl [6, 5] (by kernel_rfl) ?_; rintro D vs u ⟨σ, hP, hW⟩ h0 hC hp ac hb K hK
   have s11 := AnyO.slot 11 hb (by kernel_rfl) (hP 6 (hp 6 (by decide)))
   have s10 := AnyO.slot 10 hb (by kernel_rfl) (hP 5 (hp 5 (by decide)))
   rw [if_pos (AnyO.wanted_some (g := 5) (t := 10) (want := true) rfl rfl s10)]
   clear hb hp
   clear hC h0; have HPW := Lib.hid (And.intro hP hW); clear hP hW; go_simp; exact hK _ _ (AnyO.InvG.step (g := σ) HPW.out.1 rfl HPW.out.2)
  ·refine AnyO.StepI.mk rfl [7, 5] (by kernel_rfl) ?_; rintro D vs u ⟨σ, hP, hW⟩ h0 hC hp ac hb K hK
   have s12 := AnyO.slot 12 hb (by kernel_rfl) (hP 7 (hp 7 (by decide)))
   have s10 := AnyO.slot 10 hb (by kernel_rfl) (hP 5 (hp 5 (by decide)))
   rw [if_pos (AnyO.wanted_some (g := 5) (t := 10) (want := true) rfl rfl s10)]
   clear hb hp
   clear hC h0; have HPW := Lib.hid (And.intro hP hW); clear hP hW; go_simp; exact hK _ _ (AnyO.InvG.step (g := σ) HPW.out.1 rfl HPW.out.2)
  ·refine AnyO.StepI.mk rfl [8, 5] (by kernel_rfl) ?_; rintro D vs u ⟨σ, hP, hW⟩ h0 hC hp ac hb K hK
   have s13 := AnyO.slot 13 hb (by kernel_rfl) (hP 8 (hp 8 (by decide)))
   have s10 := AnyO.slot 10 hb (by kernel_rfl) (hP 5 (hp 5 (by decide)))
   rw [if_pos (AnyO.wanted_some (g := 5) (t := 10) (want := true) rfl rfl s10)]
   clear hb hp
   have rr1 : u.cell? ⟨b, 1, none⟩ = some (.int .i64 (i : Int)) := (Row.keep H.out hW).cell 1
   clear hC h0; have HPW := Lib.hid (And.intro hP hW); clear hP hW; go_simp; exact hK _ _ (AnyO.InvG.step (g := σ) HPW.out.1 rfl HPW.out.2)
  ·refine AnyO.StepI.mk rfl [5] (by kernel_rfl) ?_; rintro D vs u ⟨σ, hP, hW⟩ h0 hC hp ac hb K hK
   have s0 : ac.tmps[0]?.getD undef = .pointer (some ⟨b, 0, none⟩) := by rw [hb]; kernel_rfl
   have s10 := AnyO.slot 10 hb (by kernel_rfl) (hP 5 (hp 5 (by decide)))
   rw [if_pos (AnyO.wanted_some (g := 5) (t := 10) (want := true) rfl rfl s10)]
   clear hb hp
   clear hC h0; have HPW := Lib.hid (And.intro hP hW); clear hP hW; go_simp; exact hK _ _ (AnyO.InvG.step (g := σ) HPW.out.1 rfl HPW.out.2)
  ·refine AnyO.StepI.mk rfl [10, 5] (by kernel_rfl) ?_; rintro D vs u ⟨σ, hP, hW⟩ h0 hC hp ac hb K hK
   have s15 := AnyO.slot 15 hb (by kernel_rfl) (hP 10 (hp 10 (by decide)))
   have s10 := AnyO.slot 10 hb (by kernel_rfl) (hP 5 (hp 5 (by decide)))
   rw [if_pos (AnyO.wanted_some (g := 5) (t := 10) (want := true) rfl rfl s10)]
   clear hb hp
   clear hC h0; have HPW := Lib.hid (And.intro hP hW); clear hP hW; go_simp; exact hK _ _ (AnyO.InvG.step (g := σ) HPW.out.1 rfl HPW.out.2)
  ·refine AnyO.StepI.mk rfl [11, 5] (by kernel_rfl) ?_; rintro D vs u ⟨σ, hP, hW⟩ h0 hC hp ac hb K hK
   have s16 := AnyO.slot 16 hb (by kernel_rfl) (hP 11 (hp 11 (by decide)))
   have s10 := AnyO.slot 10 hb (by kernel_rfl) (hP 5 (hp 5 (by decide)))
   rw [if_pos (AnyO.wanted_some (g := 5) (t := 10) (want := true) rfl rfl s10)]
   clear hb hp
   clear hC h0; have HPW := Lib.hid (And.intro hP hW); clear hP hW; go_simp; exact hK _ _ (AnyO.InvG.step (g := σ) HPW.out.1 rfl HPW.out.2)
  ·refine AnyO.StepI.mk rfl [12, 5] (by kernel_rfl) ?_; rintro D vs u ⟨σ, hP, hW⟩ h0 hC hp ac hb K hK
   have s17 := AnyO.slot 17 hb (by kernel_rfl) (hP 12 (hp 12 (by decide)))
   have s10 := AnyO.slot 10 hb (by kernel_rfl) (hP 5 (hp 5 (by decide)))
   rw [if_pos (AnyO.wanted_some (g := 5) (t := 10) (want := true) rfl rfl s10)]
   clear hb hp
   have rr1 : u.cell? ⟨b, 0, none⟩ = some (.string s) := (Row.keep H.out hW).cell 0
   clear hC h0; have HPW := Lib.hid (And.intro hP hW); clear hP hW; go_simp; exact hK _ _ (AnyO.InvG.step (g := σ) HPW.out.1 rfl HPW.out.2)
  ·refine AnyO.StepI.mk rfl [13, 5] (by kernel_rfl) ?_; rintro D vs u ⟨σ, hP, hW⟩ h0 hC hp ac hb K hK
   have s18 := AnyO.slot 18 hb (by kernel_rfl) (hP 13 (hp 13 (by decide)))
   have s10 := AnyO.slot 10 hb (by kernel_rfl) (hP 5 (hp 5 (by decide)))
   rw [if_pos (AnyO.wanted_some (g := 5) (t := 10) (want := true) rfl rfl s10)]
   clear hb hp
   clear hC h0; have HPW := Lib.hid (And.intro hP hW); clear hP hW; go_simp; exact hK _ _ (AnyO.InvG.step (g := σ) HPW.out.1 rfl HPW.out.2)
  ·refine AnyO.StepI.mk rfl [9, 14, 5] (by kernel_rfl) ?_; rintro D vs u ⟨σ, hP, hW⟩ h0 hC hp ac hb K hK
   have s14 := AnyO.slot 14 hb (by kernel_rfl) (hP 9 (hp 9 (by decide)))
   have s19 := AnyO.slot 19 hb (by kernel_rfl) (hP 14 (hp 14 (by decide)))
   have s10 := AnyO.slot 10 hb (by kernel_rfl) (hP 5 (hp 5 (by decide)))
   rw [if_pos (AnyO.wanted_some (g := 5) (t := 10) (want := true) rfl rfl s10)]
   clear hb hp
   clear hC h0; have HPW := Lib.hid (And.intro hP hW); clear hP hW; go_simp; exact hK _ _ (AnyO.InvG.step (g := σ) HPW.out.1 rfl HPW.out.2)
  ·refine AnyO.StepI.mk rfl [17] (by kernel_rfl) ?_; rintro D vs u ⟨σ, hP, hW⟩ h0 hC hp ac hb K hK
   have s1 : ac.tmps[1]?.getD undef = .func (.func 149) #[] #[] := by rw [hb]; kernel_rfl
   have s22 := AnyO.slot 22 hb (by kernel_rfl) (hP 17 (hp 17 (by decide)))
   rw [if_pos (AnyO.wanted_some (g := 17) (t := 22) (want := true) rfl rfl s22)]
   clear hb hp
   clear hC h0; have HPW := Lib.hid (And.intro hP hW); clear hP hW; go_simp; exact hK _ _ (AnyO.InvG.step (g := σ) HPW.out.1 rfl HPW.out.2)
  ·refine AnyO.StepI.mk rfl [17] (by kernel_rfl) ?_; rintro D vs u ⟨σ, hP, hW⟩ h0 hC hp ac hb K hK
   have s0 : ac.tmps[0]?.getD undef = .pointer (some ⟨b, 0, none⟩) := by rw [hb]; kernel_rfl
   have s22 := AnyO.slot 22 hb (by kernel_rfl) (hP 17 (hp 17 (by decide)))
   rw [if_pos (AnyO.wanted_some (g := 17) (t := 22) (want := true) rfl rfl s22)]
   clear hb hp
   clear hC h0; have HPW := Lib.hid (And.intro hP hW); clear hP hW; go_simp; exact hK _ _ (AnyO.InvG.step (g := σ) HPW.out.1 rfl HPW.out.2)
  ·refine AnyO.StepI.mk rfl [19, 17] (by kernel_rfl) ?_; rintro D vs u ⟨σ, hP, hW⟩ h0 hC hp ac hb K hK
   have s24 := AnyO.slot 24 hb (by kernel_rfl) (hP 19 (hp 19 (by decide)))
   have s22 := AnyO.slot 22 hb (by kernel_rfl) (hP 17 (hp 17 (by decide)))
   rw [if_pos (AnyO.wanted_some (g := 17) (t := 22) (want := true) rfl rfl s22)]
   clear hb hp
   clear hC h0; have HPW := Lib.hid (And.intro hP hW); clear hP hW; go_simp; exact hK _ _ (AnyO.InvG.step (g := σ) HPW.out.1 rfl HPW.out.2)
  ·refine AnyO.StepI.mk rfl [20, 17] (by kernel_rfl) ?_; rintro D vs u ⟨σ, hP, hW⟩ h0 hC hp ac hb K hK
   have s25 := AnyO.slot 25 hb (by kernel_rfl) (hP 20 (hp 20 (by decide)))
   have s22 := AnyO.slot 22 hb (by kernel_rfl) (hP 17 (hp 17 (by decide)))
   rw [if_pos (AnyO.wanted_some (g := 17) (t := 22) (want := true) rfl rfl s22)]
   clear hb hp
   clear hC h0; have HPW := Lib.hid (And.intro hP hW); clear hP hW; go_simp; exact hK _ _ (AnyO.InvG.step (g := σ) HPW.out.1 rfl HPW.out.2)
  ·refine AnyO.StepI.mk rfl [21, 17] (by kernel_rfl) ?_; rintro D vs u ⟨σ, hP, hW⟩ h0 hC hp ac hb K hK
   have s26 := AnyO.slot 26 hb (by kernel_rfl) (hP 21 (hp 21 (by decide)))
   have s22 := AnyO.slot 22 hb (by kernel_rfl) (hP 17 (hp 17 (by decide)))
   rw [if_pos (AnyO.wanted_some (g := 17) (t := 22) (want := true) rfl rfl s22)]
   clear hb hp
   have rr1 : u.cell? ⟨b, 0, none⟩ = some (.string s) := (Row.keep H.out hW).cell 0
   clear hC h0; have HPW := Lib.hid (And.intro hP hW); clear hP hW; go_simp; exact hK _ _ (AnyO.InvG.step (g := σ) HPW.out.1 rfl HPW.out.2)
  ·refine AnyO.StepI.mk rfl [17] (by kernel_rfl) ?_; rintro D vs u ⟨σ, hP, hW⟩ h0 hC hp ac hb K hK
   have s0 : ac.tmps[0]?.getD undef = .pointer (some ⟨b, 0, none⟩) := by rw [hb]; kernel_rfl
   have s22 := AnyO.slot 22 hb (by kernel_rfl) (hP 17 (hp 17 (by decide)))
   rw [if_pos (AnyO.wanted_some (g := 17) (t := 22) (want := true) rfl rfl s22)]
   clear hb hp
   clear hC h0; have HPW := Lib.hid (And.intro hP hW); clear hP hW; go_simp; exact hK _ _ (AnyO.InvG.step (g := σ) HPW.out.1 rfl HPW.out.2)
  ·refine AnyO.StepI.mk rfl [23, 17] (by kernel_rfl) ?_; rintro D vs u ⟨σ, hP, hW⟩ h0 hC hp ac hb K hK
   have s28 := AnyO.slot 28 hb (by kernel_rfl) (hP 23 (hp 23 (by decide)))
   have s22 := AnyO.slot 22 hb (by kernel_rfl) (hP 17 (hp 17 (by decide)))
   rw [if_pos (AnyO.wanted_some (g := 17) (t := 22) (want := true) rfl rfl s22)]
   clear hb hp
   clear hC h0; have HPW := Lib.hid (And.intro hP hW); clear hP hW; go_simp; exact hK _ _ (AnyO.InvG.step (g := σ) HPW.out.1 rfl HPW.out.2)
  ·refine AnyO.StepI.mk rfl [24, 17] (by kernel_rfl) ?_; rintro D vs u ⟨σ, hP, hW⟩ h0 hC hp ac hb K hK
   have s29 := AnyO.slot 29 hb (by kernel_rfl) (hP 24 (hp 24 (by decide)))
   have s22 := AnyO.slot 22 hb (by kernel_rfl) (hP 17 (hp 17 (by decide)))
   rw [if_pos (AnyO.wanted_some (g := 17) (t := 22) (want := true) rfl rfl s22)]
   clear hb hp
   clear hC h0; have HPW := Lib.hid (And.intro hP hW); clear hP hW; go_simp; exact hK _ _ (AnyO.InvG.step (g := σ) HPW.out.1 rfl HPW.out.2)
  ·refine AnyO.StepI.mk rfl [25, 17] (by kernel_rfl) ?_; rintro D vs u ⟨σ, hP, hW⟩ h0 hC hp ac hb K hK
   have s30 := AnyO.slot 30 hb (by kernel_rfl) (hP 25 (hp 25 (by decide)))
   have s22 := AnyO.slot 22 hb (by kernel_rfl) (hP 17 (hp 17 (by decide)))
   rw [if_pos (AnyO.wanted_some (g := 17) (t := 22) (want := true) rfl rfl s22)]
   clear hb hp
   have rr1 : u.cell? ⟨b, 1, none⟩ = some (.int .i64 (i : Int)) := (Row.keep H.out hW).cell 1
   clear hC h0; have HPW := Lib.hid (And.intro hP hW); clear hP hW; go_simp; exact hK _ _ (AnyO.InvG.step (g := σ) HPW.out.1 rfl HPW.out.2)
  ·refine AnyO.StepI.mk rfl [22, 26, 17] (by kernel_rfl) ?_; rintro D vs u ⟨σ, hP, hW⟩ h0 hC hp ac hb K hK
   have s27 := AnyO.slot 27 hb (by kernel_rfl) (hP 22 (hp 22 (by decide)))
   have s31 := AnyO.slot 31 hb (by kernel_rfl) (hP 26 (hp 26 (by decide)))
   have s22 := AnyO.slot 22 hb (by kernel_rfl) (hP 17 (hp 17 (by decide)))
   rw [if_pos (AnyO.wanted_some (g := 17) (t := 22) (want := true) rfl rfl s22)]
   clear hb hp
   have rr1 := HC.out
   clear hC h0; have HPW := Lib.hid (And.intro hP hW); clear hP hW; go_simp; exact hK _ _ (AnyO.InvG.step (g := σ) HPW.out.1 rfl HPW.out.2)
  ·refine AnyO.StepI.mk rfl [18, 27, 17, 17] (by kernel_rfl) ?_; rintro D vs u ⟨σ, hP, hW⟩ h0 hC hp ac hb K hK
   have s23 := AnyO.slot 23 hb (by kernel_rfl) (hP 18 (hp 18 (by decide)))
   have s32 := AnyO.slot 32 hb (by kernel_rfl) (hP 27 (hp 27 (by decide)))
   have s22 := AnyO.slot 22 hb (by kernel_rfl) (hP 17 (hp 17 (by decide)))
   rw [if_pos (AnyO.wanted_some (g := 17) (t := 22) (want := true) rfl rfl s22)]
   clear hb hp
   clear hC h0; have HPW := Lib.hid (And.intro hP hW); clear hP hW; go_simp; obtain ⟨hP, hW⟩ := HPW.out
   go_at_call 149
   refine (dLetter149b c HR.out.2.1 HR.out.2.2 _).mono ?_
   rintro e w2 ⟨rfl, rfl⟩
   rw [← HR.out.1]
   exact hK _ _ (AnyO.InvG.step (g := σ) hP rfl hW)
  all_goals
   refine AnyO.J rfl ?_; rintro D vs u σ Q h0 hC hp ac hb K hK
   try have s0 : ac.tmps[0]?.getD undef = .pointer (some ⟨b, 0, none⟩) := by rw [hb.out]; kernel_rfl
   try have s5 : _ = _ := AnyO.sv 5 0 hb hp Q
   try have s6 : _ = _ := AnyO.sv 6 1 hb hp Q
   try have s7 : _ = _ := AnyO.sv 7 2 hb hp Q
   try have s8 : _ = _ := AnyO.sv 8 3 hb hp Q
   try have s9 : _ = _ := AnyO.sv 9 4 hb hp Q
   try have s10 : _ = _ := AnyO.sv 10 5 hb hp Q
   try have s20 : _ = _ := AnyO.sv 20 15 hb hp Q
   try have s21 : _ = _ := AnyO.sv 21 16 hb hp Q
   try have s22 : _ = _ := AnyO.sv 22 17 hb hp Q
   try have s33 : _ = _ := AnyO.sv 33 28 hb hp Q
   try have s34 : _ = _ := AnyO.sv 34 29 hb hp Q
   have rr1 : u.cell? ⟨b, 2, none⟩ = some (.int .i64 0) := (Row.keep H.out Q.out.2).cell 2
   go_simp
   exact hK _ _ (AnyO.InvG.step (g := σ) Q.out.1 rfl Q.out.2)
 ·intro D vs u hI hD
  obtain ⟨σ, hP, hW⟩ := hI
  have e0 : _ = _ := hP 0 (hD 0 (by decide))
  have e1 : _ = _ := hP 1 (hD 1 (by decide))
  have e2 : _ = _ := hP 2 (hD 2 (by decide))
  have e3 : _ = _ := hP 3 (hD 3 (by decide))
  have e4 : _ = _ := hP 4 (hD 4 (by decide))
  have e5 : _ = _ := hP 5 (hD 5 (by decide))
  have e6 : _ = _ := hP 6 (hD 6 (by decide))
  have e7 : _ = _ := hP 7 (hD 7 (by decide))
  have e8 : _ = _ := hP 8 (hD 8 (by decide))
  have e9 : _ = _ := hP 9 (hD 9 (by decide))
  have e10 : _ = _ := hP 10 (hD 10 (by decide))
  have e11 : _ = _ := hP 11 (hD 11 (by decide))
  have e12 : _ = _ := hP 12 (hD 12 (by decide))
  have e13 : _ = _ := hP 13 (hD 13 (by decide))
  have e14 : _ = _ := hP 14 (hD 14 (by decide))
  have e15 : _ = _ := hP 15 (hD 15 (by decide))
  have e16 : _ = _ := hP 16 (hD 16 (by decide))
  have e17 : _ = _ := hP 17 (hD 17 (by decide))
  have e18 : _ = _ := hP 18 (hD 18 (by decide))
  have e19 : _ = _ := hP 19 (hD 19 (by decide))
  have e20 : _ = _ := hP 20 (hD 20 (by decide))
  have e21 : _ = _ := hP 21 (hD 21 (by decide))
  have e22 : _ = _ := hP 22 (hD 22 (by decide))
  have e23 : _ = _ := hP 23 (hD 23 (by decide))
  have e24 : _ = _ := hP 24 (hD 24 (by decide))
  have e25 : _ = _ := hP 25 (hD 25 (by decide))
  have e26 : _ = _ := hP 26 (hD 26 (by decide))
  have e27 : _ = _ := hP 27 (hD 27 (by decide))
  have e28 : _ = _ := hP 28 (hD 28 (by decide))
  have e29 : _ = _ := hP 29 (hD 29 (by decide))
  have e30 : _ = _ := hP 30 (hD 30 (by decide))
  have HW := Lib.hid hW
  clear hW hP hD
  rw [puts_range [some 5, some 6, some 7, some 8, some 9, some 10, some 11, some 12, some 13, some 14, some 15, some 16, some 17, some 18, some 19, some 20, some 21, some 22, some 23, some 24, some 25, some 26, some 27, some 28, some 29, some 30, some 31, some 32, some 33, some 34, some 4] (by kernel_rfl)]
  simp only [putL, Nat.reduceAdd, e0, e1, e2, e3, e4, e5, e6, e7, e8, e9, e10, e11, e12, e13, e14, e15, e16, e17, e18, e19, e20, e21, e22, e23, e24, e25, e26, e27, e28, e29, e30]
  clear e0 e1 e2 e3 e4 e5 e6 e7 e8 e9 e10 e11 e12 e13 e14 e15 e16 e17 e18 e19 e20 e21 e22 e23 e24 e25 e26 e27 e28 e29 e30
  go_simp
  go_wp2
  go_ret
  exact ⟨rfl, HW.out⟩
theorem need_digit (w : World) (b : Nat) (s : ByteArray) (i : Nat) (c : UInt8) (h : ScR w b s i) (hi : i < s.size) (hc : s[i] = c) (hs : s.size ≤ 1000) (hd : dgC c = true) : Calls Tryz.prog 151 #[.pointer (some ⟨b, 0, none⟩), .func (.func 184) #[] #[]] w fun e w' => e = .returned (.int .u8 (c.toNat : Int)) ∧ ScR w' b s (i + 1) ∧ One b w w' := by
 have hib : (i : Int) ≤ 1000 := by omega
 have H := Lib.hid h
 have HC := Lib.hid hc
 have HX := Lib.hid hd
 clear h
 go_enter Tryz.func151, Tryz.ntmps151
 go_wp2_with (go_at_call 148; refine (sees_digit w b s i c H.out hi HC.out true HX.out).mono ?_; rintro e w2 ⟨rfl, hb2⟩; have r2 := Row.keep H.out hb2; have c1 : w2.cell? ⟨b, 1, none⟩ = some (.int .i64 (i : Int)) := r2.cell 1; have f1 := r2.fz 1; have R2 := Lib.hid (And.intro r2 hb2); clear r2 hb2)
 generalize hW3 : World.setCell _ _ _ = W3
 have r3 : ScR W3 b s (i + 1) := by
  rw [← hW3]
  exact R2.out.1.set 1 _
 have ho : One b w W3 := by
  rw [← hW3]
  exact (One.of_below R2.out.2).trans (One.set 1 _)
 have c0 : ∀ m, (W3.drewN m).cell? ⟨b, 0, none⟩ = some (.string s) := fun m => (Row.keep r3 (below_drewN W3 m)).cell 0
 have c1' : ∀ m, (W3.drewN m).cell? ⟨b, 1, none⟩ = some (.int .i64 ((i : Int) + 1)) := fun m => (Row.keep r3 (below_drewN W3 m)).cell 1
 have hsi : s[i] = c := HC.out
 have HF := Lib.hid (And.intro r3 ho)
 clear r3 ho c1 f1 hW3
 go_wp2
 go_quiet (fail)
 go_wp2
 go_ret
 exact ⟨by first | rfl | (congr 3), Row.keep HF.out.1 (below_drewN _ _), HF.out.2.trans (One.of_below (below_drewN _ _))⟩
theorem need_blank (w : World) (b : Nat) (s : ByteArray) (i : Nat) (c : UInt8) (h : ScR w b s i) (hi : i < s.size) (hc : s[i] = c) (hs : s.size ≤ 1000) (hd : blC c = true) : Calls Tryz.prog 151 #[.pointer (some ⟨b, 0, none⟩), .func (.func 154) #[] #[]] w fun e w' => e = .returned (.int .u8 (c.toNat : Int)) ∧ ScR w' b s (i + 1) ∧ One b w w' := by
 have hib : (i : Int) ≤ 1000 := by omega
 have H := Lib.hid h
 have HC := Lib.hid hc
 have HX := Lib.hid hd
 clear h
 go_enter Tryz.func151, Tryz.ntmps151
 go_wp2_with (go_at_call 148; refine (sees_blank w b s i c H.out hi HC.out true HX.out).mono ?_; rintro e w2 ⟨rfl, hb2⟩; have r2 := Row.keep H.out hb2; have c1 : w2.cell? ⟨b, 1, none⟩ = some (.int .i64 (i : Int)) := r2.cell 1; have f1 := r2.fz 1; have R2 := Lib.hid (And.intro r2 hb2); clear r2 hb2)
 generalize hW3 : World.setCell _ _ _ = W3
 have r3 : ScR W3 b s (i + 1) := by
  rw [← hW3]
  exact R2.out.1.set 1 _
 have ho : One b w W3 := by
  rw [← hW3]
  exact (One.of_below R2.out.2).trans (One.set 1 _)
 have c0 : ∀ m, (W3.drewN m).cell? ⟨b, 0, none⟩ = some (.string s) := fun m => (Row.keep r3 (below_drewN W3 m)).cell 0
 have c1' : ∀ m, (W3.drewN m).cell? ⟨b, 1, none⟩ = some (.int .i64 ((i : Int) + 1)) := fun m => (Row.keep r3 (below_drewN W3 m)).cell 1
 have hsi : s[i] = c := HC.out
 have HF := Lib.hid (And.intro r3 ho)
 clear r3 ho c1 f1 hW3
 go_wp2
 go_quiet (fail)
 go_wp2
 go_ret
 exact ⟨by first | rfl | (congr 3), Row.keep HF.out.1 (below_drewN _ _), HF.out.2.trans (One.of_below (below_drewN _ _))⟩
theorem need_is (w : World) (b : Nat) (s : ByteArray) (i : Nat) (c : UInt8) (h : ScR w b s i) (hi : i < s.size) (hc : s[i] = c) (hs : s.size ≤ 1000) (g : Nat) (hd : w.cell? ⟨g, 0, none⟩ = some (.int .u8 (c.toNat : Int))) : Calls Tryz.prog 151 #[.pointer (some ⟨b, 0, none⟩), .func (.func 183) #[] #[.pointer (some ⟨g, 0, none⟩)]] w fun e w' => e = .returned (.int .u8 (c.toNat : Int)) ∧ ScR w' b s (i + 1) ∧ One b w w' := by
 have hib : (i : Int) ≤ 1000 := by omega
 have H := Lib.hid h
 have HC := Lib.hid hc
 have HX := Lib.hid hd
 clear h
 go_enter Tryz.func151, Tryz.ntmps151
 go_wp2_with (go_at_call 148; refine (sees_is w b s i c H.out hi HC.out true g c ⟨decide_eq_true rfl, HX.out⟩).mono ?_; rintro e w2 ⟨rfl, hb2⟩; have r2 := Row.keep H.out hb2; have c1 : w2.cell? ⟨b, 1, none⟩ = some (.int .i64 (i : Int)) := r2.cell 1; have f1 := r2.fz 1; have R2 := Lib.hid (And.intro r2 hb2); clear r2 hb2)
 generalize hW3 : World.setCell _ _ _ = W3
 have r3 : ScR W3 b s (i + 1) := by
  rw [← hW3]
  exact R2.out.1.set 1 _
 have ho : One b w W3 := by
  rw [← hW3]
  exact (One.of_below R2.out.2).trans (One.set 1 _)
 have c0 : ∀ m, (W3.drewN m).cell? ⟨b, 0, none⟩ = some (.string s) := fun m => (Row.keep r3 (below_drewN W3 m)).cell 0
 have c1' : ∀ m, (W3.drewN m).cell? ⟨b, 1, none⟩ = some (.int .i64 ((i : Int) + 1)) := fun m => (Row.keep r3 (below_drewN W3 m)).cell 1
 have hsi : s[i] = c := HC.out
 have HF := Lib.hid (And.intro r3 ho)
 clear r3 ho c1 f1 hW3
 go_wp2
 go_quiet (fail)
 go_wp2
 go_ret
 exact ⟨by first | rfl | (congr 3), Row.keep HF.out.1 (below_drewN _ _), HF.out.2.trans (One.of_below (below_drewN _ _))⟩
end
end Go.Proofs.YtibelollgdnidaaGreatDoor
