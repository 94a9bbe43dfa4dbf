/- date: the minute of a time on the first day. -/
import Derived.Test.YtibelollgdnidaaGreatDoorMDt4
namespace Go.Proofs.YtibelollgdnidaaGreatDoor
open Go.RowKit
set_option maxRecDepth 100000 in
set_option maxHeartbeats 800000 in
theorem fromCivil118 (h m : Nat) (hh : h < 24) (hm : m < 60) (w : World) : Calls Tryz.prog 118 #[vCv 2000 1 1 (h : Int) (m : Int)] w fun e w' => e = .returned (.tuple #[.int .i64 ((h * 60 + m : Nat) : Int), .int .i64 0]) ∧ Below w.heap.size w w' := by
 obtain ⟨g1, hg1⟩ : ∃ g, w.heap.size = g := ⟨_, rfl⟩
 obtain ⟨W1, hW1⟩ : ∃ W1, w.alloc (Obj.cells #[.int .i64 2000, .int .i64 1, .int .i64 1, .int .i64 (h : Int), .int .i64 (m : Int)] 145) = W1 := ⟨_, rfl⟩
 have r1 : Row W1 g1 [.int .i64 2000, .int .i64 1, .int .i64 1, .int .i64 (h : Int), .int .i64 (m : Int)] 145 := by rw [← hW1, ← hg1]; exact Row.new w _ _
 have hb1 : Below w.heap.size w W1 := by rw [← hW1]; exact below_alloc _ _
 have R1 := Lib.hid r1
 have HB1 := Lib.hid hb1
 have c0 : W1.cell? ⟨g1, 0, none⟩ = some (.int .i64 2000) := r1.cell 0
 have c1 : W1.cell? ⟨g1, 1, none⟩ = some (.int .i64 1) := r1.cell 1
 have hhi : (h : Int) < 24 := by omega
 have hmi : (m : Int) < 60 := by omega
 have h23 : ¬ (23 : Int) < (h : Int) := by omega
 have m59 : ¬ (59 : Int) < (m : Int) := by omega
 clear r1 hb1
 unfold vCv
 go_enter Tryz.func118, Tryz.ntmps118
 go_wp2
 refine AnyO.wp_anyI (by kernel_rfl) (by kernel_rfl) (AnyO.InvG (σ := Unit) (fun σ => AnyO.pvL [some (.pointer (some ⟨g1, 2, none⟩)), some (.int .i64 1), some (.bool false), some (.bool false), some (.pointer (some ⟨g1, 2, none⟩)), some (.int .i64 1), some (.pointer (some ⟨g1, 0, none⟩)), some (.int .i64 2000), some (.pointer (some ⟨g1, 1, none⟩)), some (.int .i64 1), some (.int .i64 31), some (.bool false), some (.bool false), some (.bool false), some (.pointer (some ⟨g1, 3, none⟩)), some (.int .i64 (h : Int)), some (.bool false), some (.bool false), some (.bool false), some (.pointer (some ⟨g1, 3, none⟩)), some (.int .i64 (h : Int)), some (.bool false), some (.bool false), some (.bool false), some (.pointer (some ⟨g1, 4, none⟩)), some (.int .i64 (m : Int)), some (.bool false), some (.bool false), some (.bool false), some (.pointer (some ⟨g1, 4, none⟩)), some (.int .i64 (m : Int)), some (.bool false), some (.bool false)]) (fun _ _ u => Below W1.heap.size W1 u)) (AnyO.InvG.start (g := ()) (below_drew W1)) ?_ ?_
 ·intro i hi
  have hi2 : i = 4 ∨ i = 5 ∨ i = 6 ∨ i = 7 ∨ i = 8 ∨ i = 9 ∨ i = 10 ∨ i = 11 ∨ i = 14 ∨ i = 15 ∨ i = 16 ∨ i = 19 ∨ i = 20 ∨ i = 21 ∨ i = 24 ∨ i = 25 ∨ i = 26 ∨ i = 29 ∨ i = 30 ∨ i = 31 ∨ i = 0 ∨ i = 1 ∨ i = 2 ∨ i = 3 ∨ i = 12 ∨ i = 13 ∨ i = 17 ∨ i = 18 ∨ i = 22 ∨ i = 23 ∨ i = 27 ∨ i = 28 ∨ i = 32 := by simp only [List.size_toArray, List.length_cons, List.length_nil] at hi; omega
  clear hi
  rcases hi2 with rfl | rfl | rfl | rfl | rfl | rfl | rfl | rfl | rfl | rfl | rfl | rfl | rfl | rfl | rfl | rfl | rfl | rfl | rfl | rfl | rfl | rfl | rfl | rfl | rfl | rfl | rfl | rfl | rfl | rfl | rfl | rfl | rfl
  ·refine AnyO.StepI.mk rfl [3] (by kernel_rfl) ?_; rintro D vs u ⟨σ, hP, hW⟩ h0 hC hp ac hb K hK
   have s1 : ac.tmps[1]?.getD undef = .pointer (some ⟨g1, 0, none⟩) := by rw [hb]; kernel_rfl
   have s28 := AnyO.slot 28 hb (by kernel_rfl) (hP 3 (hp 3 (by decide)))
   rw [if_pos (AnyO.wanted_some (g := 3) (t := 28) (want := false) rfl rfl s28)]
   clear hb hp
   clear hC h0; have HPW := Lib.hid (And.intro hP hW); clear hP hW; go_simp; exact hK _ _ (AnyO.InvG.step (g := σ) HPW.out.1 rfl HPW.out.2)
  ·refine AnyO.StepI.mk rfl [4, 3] (by kernel_rfl) ?_; rintro D vs u ⟨σ, hP, hW⟩ h0 hC hp ac hb K hK
   have s29 := AnyO.slot 29 hb (by kernel_rfl) (hP 4 (hp 4 (by decide)))
   have s28 := AnyO.slot 28 hb (by kernel_rfl) (hP 3 (hp 3 (by decide)))
   rw [if_pos (AnyO.wanted_some (g := 3) (t := 28) (want := false) rfl rfl s28)]
   clear hb hp
   have rr1 : u.cell? ⟨g1, 2, none⟩ = some (.int .i64 1) := (R1.out.keep hW).cell 2
   clear hC h0; have HPW := Lib.hid (And.intro hP hW); clear hP hW; go_simp; exact hK _ _ (AnyO.InvG.step (g := σ) HPW.out.1 rfl HPW.out.2)
  ·refine AnyO.StepI.mk rfl [3] (by kernel_rfl) ?_; rintro D vs u ⟨σ, hP, hW⟩ h0 hC hp ac hb K hK
   have s1 : ac.tmps[1]?.getD undef = .pointer (some ⟨g1, 0, none⟩) := by rw [hb]; kernel_rfl
   have s28 := AnyO.slot 28 hb (by kernel_rfl) (hP 3 (hp 3 (by decide)))
   rw [if_pos (AnyO.wanted_some (g := 3) (t := 28) (want := false) rfl rfl s28)]
   clear hb hp
   clear hC h0; have HPW := Lib.hid (And.intro hP hW); clear hP hW; go_simp; exact hK _ _ (AnyO.InvG.step (g := σ) HPW.out.1 rfl HPW.out.2)
  ·refine AnyO.StepI.mk rfl [6, 3] (by kernel_rfl) ?_; rintro D vs u ⟨σ, hP, hW⟩ h0 hC hp ac hb K hK
   have s31 := AnyO.slot 31 hb (by kernel_rfl) (hP 6 (hp 6 (by decide)))
   have s28 := AnyO.slot 28 hb (by kernel_rfl) (hP 3 (hp 3 (by decide)))
   rw [if_pos (AnyO.wanted_some (g := 3) (t := 28) (want := false) rfl rfl s28)]
   clear hb hp
   have rr1 : u.cell? ⟨g1, 0, none⟩ = some (.int .i64 2000) := (R1.out.keep hW).cell 0
   clear hC h0; have HPW := Lib.hid (And.intro hP hW); clear hP hW; go_simp; exact hK _ _ (AnyO.InvG.step (g := σ) HPW.out.1 rfl HPW.out.2)
  ·refine AnyO.StepI.mk rfl [3] (by kernel_rfl) ?_; rintro D vs u ⟨σ, hP, hW⟩ h0 hC hp ac hb K hK
   have s1 : ac.tmps[1]?.getD undef = .pointer (some ⟨g1, 0, none⟩) := by rw [hb]; kernel_rfl
   have s28 := AnyO.slot 28 hb (by kernel_rfl) (hP 3 (hp 3 (by decide)))
   rw [if_pos (AnyO.wanted_some (g := 3) (t := 28) (want := false) rfl rfl s28)]
   clear hb hp
   clear hC h0; have HPW := Lib.hid (And.intro hP hW); clear hP hW; go_simp; exact hK _ _ (AnyO.InvG.step (g := σ) HPW.out.1 rfl HPW.out.2)
  ·refine AnyO.StepI.mk rfl [8, 3] (by kernel_rfl) ?_; rintro D vs u ⟨σ, hP, hW⟩ h0 hC hp ac hb K hK
   have s33 := AnyO.slot 33 hb (by kernel_rfl) (hP 8 (hp 8 (by decide)))
   have s28 := AnyO.slot 28 hb (by kernel_rfl) (hP 3 (hp 3 (by decide)))
   rw [if_pos (AnyO.wanted_some (g := 3) (t := 28) (want := false) rfl rfl s28)]
   clear hb hp
   have rr1 : u.cell? ⟨g1, 1, none⟩ = some (.int .i64 1) := (R1.out.keep hW).cell 1
   clear hC h0; have HPW := Lib.hid (And.intro hP hW); clear hP hW; go_simp; exact hK _ _ (AnyO.InvG.step (g := σ) HPW.out.1 rfl HPW.out.2)
  ·refine AnyO.StepI.mk rfl [7, 9, 3, 3] (by kernel_rfl) ?_; rintro D vs u ⟨σ, hP, hW⟩ h0 hC hp ac hb K hK
   have s32 := AnyO.slot 32 hb (by kernel_rfl) (hP 7 (hp 7 (by decide)))
   have s34 := AnyO.slot 34 hb (by kernel_rfl) (hP 9 (hp 9 (by decide)))
   have s28 := AnyO.slot 28 hb (by kernel_rfl) (hP 3 (hp 3 (by decide)))
   rw [if_pos (AnyO.wanted_some (g := 3) (t := 28) (want := false) rfl rfl s28)]
   clear hb hp
   clear hC h0; have HPW := Lib.hid (And.intro hP hW); clear hP hW; go_simp; obtain ⟨hP, hW⟩ := HPW.out
   go_at_call 117
   refine (monthDays117 _).mono ?_
   rintro e w2 ⟨rfl, rfl⟩
   exact hK _ _ (AnyO.InvG.step (g := σ) hP rfl hW)
  ·refine AnyO.StepI.mk rfl [5, 10, 3] (by kernel_rfl) ?_; rintro D vs u ⟨σ, hP, hW⟩ h0 hC hp ac hb K hK
   have s30 := AnyO.slot 30 hb (by kernel_rfl) (hP 5 (hp 5 (by decide)))
   have s35 := AnyO.slot 35 hb (by kernel_rfl) (hP 10 (hp 10 (by decide)))
   have s28 := AnyO.slot 28 hb (by kernel_rfl) (hP 3 (hp 3 (by decide)))
   rw [if_pos (AnyO.wanted_some (g := 3) (t := 28) (want := false) rfl rfl s28)]
   clear hb hp
   clear hC h0; have HPW := Lib.hid (And.intro hP hW); clear hP hW; go_simp; exact hK _ _ (AnyO.InvG.step (g := σ) HPW.out.1 rfl HPW.out.2)
  ·refine AnyO.StepI.mk rfl [13] (by kernel_rfl) ?_; rintro D vs u ⟨σ, hP, hW⟩ h0 hC hp ac hb K hK
   have s1 : ac.tmps[1]?.getD undef = .pointer (some ⟨g1, 0, none⟩) := by rw [hb]; kernel_rfl
   have s38 := AnyO.slot 38 hb (by kernel_rfl) (hP 13 (hp 13 (by decide)))
   rw [if_pos (AnyO.wanted_some (g := 13) (t := 38) (want := false) rfl rfl s38)]
   clear hb hp
   clear hC h0; have HPW := Lib.hid (And.intro hP hW); clear hP hW; go_simp; exact hK _ _ (AnyO.InvG.step (g := σ) HPW.out.1 rfl HPW.out.2)
  ·refine AnyO.StepI.mk rfl [14, 13] (by kernel_rfl) ?_; rintro D vs u ⟨σ, hP, hW⟩ h0 hC hp ac hb K hK
   have s39 := AnyO.slot 39 hb (by kernel_rfl) (hP 14 (hp 14 (by decide)))
   have s38 := AnyO.slot 38 hb (by kernel_rfl) (hP 13 (hp 13 (by decide)))
   rw [if_pos (AnyO.wanted_some (g := 13) (t := 38) (want := false) rfl rfl s38)]
   clear hb hp
   have rr1 : u.cell? ⟨g1, 3, none⟩ = some (.int .i64 (h : Int)) := (R1.out.keep hW).cell 3
   clear hC h0; have HPW := Lib.hid (And.intro hP hW); clear hP hW; go_simp; exact hK _ _ (AnyO.InvG.step (g := σ) HPW.out.1 rfl HPW.out.2)
  ·refine AnyO.StepI.mk rfl [15, 13] (by kernel_rfl) ?_; rintro D vs u ⟨σ, hP, hW⟩ h0 hC hp ac hb K hK
   have s40 := AnyO.slot 40 hb (by kernel_rfl) (hP 15 (hp 15 (by decide)))
   have s38 := AnyO.slot 38 hb (by kernel_rfl) (hP 13 (hp 13 (by decide)))
   rw [if_pos (AnyO.wanted_some (g := 13) (t := 38) (want := false) rfl rfl s38)]
   clear hb hp
   clear hC h0; have HPW := Lib.hid (And.intro hP hW); clear hP hW; go_simp; exact hK _ _ (AnyO.InvG.step (g := σ) HPW.out.1 rfl HPW.out.2)
  ·refine AnyO.StepI.mk rfl [18] (by kernel_rfl) ?_; rintro D vs u ⟨σ, hP, hW⟩ h0 hC hp ac hb K hK
   have s1 : ac.tmps[1]?.getD undef = .pointer (some ⟨g1, 0, none⟩) := by rw [hb]; kernel_rfl
   have s43 := AnyO.slot 43 hb (by kernel_rfl) (hP 18 (hp 18 (by decide)))
   rw [if_pos (AnyO.wanted_some (g := 18) (t := 43) (want := false) rfl rfl s43)]
   clear hb hp
   clear hC h0; have HPW := Lib.hid (And.intro hP hW); clear hP hW; go_simp; exact hK _ _ (AnyO.InvG.step (g := σ) HPW.out.1 rfl HPW.out.2)
  ·refine AnyO.StepI.mk rfl [19, 18] (by kernel_rfl) ?_; rintro D vs u ⟨σ, hP, hW⟩ h0 hC hp ac hb K hK
   have s44 := AnyO.slot 44 hb (by kernel_rfl) (hP 19 (hp 19 (by decide)))
   have s43 := AnyO.slot 43 hb (by kernel_rfl) (hP 18 (hp 18 (by decide)))
   rw [if_pos (AnyO.wanted_some (g := 18) (t := 43) (want := false) rfl rfl s43)]
   clear hb hp
   have rr1 : u.cell? ⟨g1, 3, none⟩ = some (.int .i64 (h : Int)) := (R1.out.keep hW).cell 3
   clear hC h0; have HPW := Lib.hid (And.intro hP hW); clear hP hW; go_simp; exact hK _ _ (AnyO.InvG.step (g := σ) HPW.out.1 rfl HPW.out.2)
  ·refine AnyO.StepI.mk rfl [20, 18] (by kernel_rfl) ?_; rintro D vs u ⟨σ, hP, hW⟩ h0 hC hp ac hb K hK
   have s45 := AnyO.slot 45 hb (by kernel_rfl) (hP 20 (hp 20 (by decide)))
   have s43 := AnyO.slot 43 hb (by kernel_rfl) (hP 18 (hp 18 (by decide)))
   rw [if_pos (AnyO.wanted_some (g := 18) (t := 43) (want := false) rfl rfl s43)]
   clear hb hp
   have rr1 : decide ((23 : Int) < (h : Int)) = false := decide_eq_false (by omega)
   clear hC h0; have HPW := Lib.hid (And.intro hP hW); clear hP hW; go_simp; exact hK _ _ (AnyO.InvG.step (g := σ) HPW.out.1 rfl HPW.out.2)
  ·refine AnyO.StepI.mk rfl [23] (by kernel_rfl) ?_; rintro D vs u ⟨σ, hP, hW⟩ h0 hC hp ac hb K hK
   have s1 : ac.tmps[1]?.getD undef = .pointer (some ⟨g1, 0, none⟩) := by rw [hb]; kernel_rfl
   have s48 := AnyO.slot 48 hb (by kernel_rfl) (hP 23 (hp 23 (by decide)))
   rw [if_pos (AnyO.wanted_some (g := 23) (t := 48) (want := false) rfl rfl s48)]
   clear hb hp
   clear hC h0; have HPW := Lib.hid (And.intro hP hW); clear hP hW; go_simp; exact hK _ _ (AnyO.InvG.step (g := σ) HPW.out.1 rfl HPW.out.2)
  ·refine AnyO.StepI.mk rfl [24, 23] (by kernel_rfl) ?_; rintro D vs u ⟨σ, hP, hW⟩ h0 hC hp ac hb K hK
   have s49 := AnyO.slot 49 hb (by kernel_rfl) (hP 24 (hp 24 (by decide)))
   have s48 := AnyO.slot 48 hb (by kernel_rfl) (hP 23 (hp 23 (by decide)))
   rw [if_pos (AnyO.wanted_some (g := 23) (t := 48) (want := false) rfl rfl s48)]
   clear hb hp
   have rr1 : u.cell? ⟨g1, 4, none⟩ = some (.int .i64 (m : Int)) := (R1.out.keep hW).cell 4
   clear hC h0; have HPW := Lib.hid (And.intro hP hW); clear hP hW; go_simp; exact hK _ _ (AnyO.InvG.step (g := σ) HPW.out.1 rfl HPW.out.2)
  ·refine AnyO.StepI.mk rfl [25, 23] (by kernel_rfl) ?_; rintro D vs u ⟨σ, hP, hW⟩ h0 hC hp ac hb K hK
   have s50 := AnyO.slot 50 hb (by kernel_rfl) (hP 25 (hp 25 (by decide)))
   have s48 := AnyO.slot 48 hb (by kernel_rfl) (hP 23 (hp 23 (by decide)))
   rw [if_pos (AnyO.wanted_some (g := 23) (t := 48) (want := false) rfl rfl s48)]
   clear hb hp
   clear hC h0; have HPW := Lib.hid (And.intro hP hW); clear hP hW; go_simp; exact hK _ _ (AnyO.InvG.step (g := σ) HPW.out.1 rfl HPW.out.2)
  ·refine AnyO.StepI.mk rfl [28] (by kernel_rfl) ?_; rintro D vs u ⟨σ, hP, hW⟩ h0 hC hp ac hb K hK
   have s1 : ac.tmps[1]?.getD undef = .pointer (some ⟨g1, 0, none⟩) := by rw [hb]; kernel_rfl
   have s53 := AnyO.slot 53 hb (by kernel_rfl) (hP 28 (hp 28 (by decide)))
   rw [if_pos (AnyO.wanted_some (g := 28) (t := 53) (want := false) rfl rfl s53)]
   clear hb hp
   clear hC h0; have HPW := Lib.hid (And.intro hP hW); clear hP hW; go_simp; exact hK _ _ (AnyO.InvG.step (g := σ) HPW.out.1 rfl HPW.out.2)
  ·refine AnyO.StepI.mk rfl [29, 28] (by kernel_rfl) ?_; rintro D vs u ⟨σ, hP, hW⟩ h0 hC hp ac hb K hK
   have s54 := AnyO.slot 54 hb (by kernel_rfl) (hP 29 (hp 29 (by decide)))
   have s53 := AnyO.slot 53 hb (by kernel_rfl) (hP 28 (hp 28 (by decide)))
   rw [if_pos (AnyO.wanted_some (g := 28) (t := 53) (want := false) rfl rfl s53)]
   clear hb hp
   have rr1 : u.cell? ⟨g1, 4, none⟩ = some (.int .i64 (m : Int)) := (R1.out.keep hW).cell 4
   clear hC h0; have HPW := Lib.hid (And.intro hP hW); clear hP hW; go_simp; exact hK _ _ (AnyO.InvG.step (g := σ) HPW.out.1 rfl HPW.out.2)
  ·refine AnyO.StepI.mk rfl [30, 28] (by kernel_rfl) ?_; rintro D vs u ⟨σ, hP, hW⟩ h0 hC hp ac hb K hK
   have s55 := AnyO.slot 55 hb (by kernel_rfl) (hP 30 (hp 30 (by decide)))
   have s53 := AnyO.slot 53 hb (by kernel_rfl) (hP 28 (hp 28 (by decide)))
   rw [if_pos (AnyO.wanted_some (g := 28) (t := 53) (want := false) rfl rfl s53)]
   clear hb hp
   have rr1 : decide ((59 : Int) < (m : Int)) = false := decide_eq_false (by omega)
   clear hC h0; have HPW := Lib.hid (And.intro hP hW); clear hP hW; go_simp; exact hK _ _ (AnyO.InvG.step (g := σ) HPW.out.1 rfl HPW.out.2)
  all_goals
   refine AnyO.J rfl ?_; rintro D vs u σ Q h0 hC hp ac hb K hK
   try have s1 : ac.tmps[1]?.getD undef = .pointer (some ⟨g1, 0, none⟩) := by rw [hb.out]; kernel_rfl
   try have s25 : _ = _ := AnyO.sv 25 0 hb hp Q
   try have s26 : _ = _ := AnyO.sv 26 1 hb hp Q
   try have s27 : _ = _ := AnyO.sv 27 2 hb hp Q
   try have s28 : _ = _ := AnyO.sv 28 3 hb hp Q
   try have s36 : _ = _ := AnyO.sv 36 11 hb hp Q
   try have s37 : _ = _ := AnyO.sv 37 12 hb hp Q
   try have s38 : _ = _ := AnyO.sv 38 13 hb hp Q
   try have s41 : _ = _ := AnyO.sv 41 16 hb hp Q
   try have s42 : _ = _ := AnyO.sv 42 17 hb hp Q
   try have s43 : _ = _ := AnyO.sv 43 18 hb hp Q
   try have s46 : _ = _ := AnyO.sv 46 21 hb hp Q
   try have s47 : _ = _ := AnyO.sv 47 22 hb hp Q
   try have s48 : _ = _ := AnyO.sv 48 23 hb hp Q
   try have s51 : _ = _ := AnyO.sv 51 26 hb hp Q
   try have s52 : _ = _ := AnyO.sv 52 27 hb hp Q
   try have s53 : _ = _ := AnyO.sv 53 28 hb hp Q
   try have s56 : _ = _ := AnyO.sv 56 31 hb hp Q
   have rr1 : u.cell? ⟨g1, 2, none⟩ = some (.int .i64 1) := (R1.out.keep Q.out.2).cell 2
   go_simp
   exact hK _ _ (AnyO.InvG.step (g := σ) Q.out.1 rfl Q.out.2)
 ·intro D vs u hI hD
  obtain ⟨σ, hP, hW⟩ := hI
  have e0 : _ = _ := hP 0 (hD 0 (by decide))
  have e1 : _ = _ := hP 1 (hD 1 (by decide))
  have e2 : _ = _ := hP 2 (hD 2 (by decide))
  have e3 : _ = _ := hP 3 (hD 3 (by decide))
  have e4 : _ = _ := hP 4 (hD 4 (by decide))
  have e5 : _ = _ := hP 5 (hD 5 (by decide))
  have e6 : _ = _ := hP 6 (hD 6 (by decide))
  have e7 : _ = _ := hP 7 (hD 7 (by decide))
  have e8 : _ = _ := hP 8 (hD 8 (by decide))
  have e9 : _ = _ := hP 9 (hD 9 (by decide))
  have e10 : _ = _ := hP 10 (hD 10 (by decide))
  have e11 : _ = _ := hP 11 (hD 11 (by decide))
  have e12 : _ = _ := hP 12 (hD 12 (by decide))
  have e13 : _ = _ := hP 13 (hD 13 (by decide))
  have e14 : _ = _ := hP 14 (hD 14 (by decide))
  have e15 : _ = _ := hP 15 (hD 15 (by decide))
  have e16 : _ = _ := hP 16 (hD 16 (by decide))
  have e17 : _ = _ := hP 17 (hD 17 (by decide))
  have e18 : _ = _ := hP 18 (hD 18 (by decide))
  have e19 : _ = _ := hP 19 (hD 19 (by decide))
  have e20 : _ = _ := hP 20 (hD 20 (by decide))
  have e21 : _ = _ := hP 21 (hD 21 (by decide))
  have e22 : _ = _ := hP 22 (hD 22 (by decide))
  have e23 : _ = _ := hP 23 (hD 23 (by decide))
  have e24 : _ = _ := hP 24 (hD 24 (by decide))
  have e25 : _ = _ := hP 25 (hD 25 (by decide))
  have e26 : _ = _ := hP 26 (hD 26 (by decide))
  have e27 : _ = _ := hP 27 (hD 27 (by decide))
  have e28 : _ = _ := hP 28 (hD 28 (by decide))
  have e29 : _ = _ := hP 29 (hD 29 (by decide))
  have e30 : _ = _ := hP 30 (hD 30 (by decide))
  have e31 : _ = _ := hP 31 (hD 31 (by decide))
  have e32 : _ = _ := hP 32 (hD 32 (by decide))
  have HW := Lib.hid hW
  clear hW hP hD
  rw [puts_range [some 25, some 26, some 27, some 28, some 29, some 30, some 31, some 32, some 33, some 34, some 35, some 36, some 37, some 38, some 39, some 40, some 41, some 42, some 43, some 44, some 45, some 46, some 47, some 48, some 49, some 50, some 51, some 52, some 53, some 54, some 55, some 56, some 57] (by kernel_rfl)]
  simp only [putL, Nat.reduceAdd, e0, e1, e2, e3, e4, e5, e6, e7, e8, e9, e10, e11, e12, e13, e14, e15, e16, e17, e18, e19, e20, e21, e22, e23, e24, e25, e26, e27, e28, e29, e30, e31, e32]
  clear e0 e1 e2 e3 e4 e5 e6 e7 e8 e9 e10 e11 e12 e13 e14 e15 e16 e17 e18 e19 e20 e21 e22 e23 e24 e25 e26 e27 e28 e29 e30 e31 e32
  clear c0 c1
  obtain ⟨W2, hW2⟩ : ∃ W2, W2 = u := ⟨_, rfl⟩
  rw [← hW2] at HW ⊢
  clear hW2
  have c0 : W2.cell? ⟨g1, 0, none⟩ = some (.int .i64 2000) := (R1.out.keep HW.out).cell 0
  have c1 : W2.cell? ⟨g1, 1, none⟩ = some (.int .i64 1) := (R1.out.keep HW.out).cell 1
  have c2 : W2.cell? ⟨g1, 2, none⟩ = some (.int .i64 1) := (R1.out.keep HW.out).cell 2
  have c3 : W2.cell? ⟨g1, 3, none⟩ = some (.int .i64 (h : Int)) := (R1.out.keep HW.out).cell 3
  have c4 : W2.cell? ⟨g1, 4, none⟩ = some (.int .i64 (m : Int)) := (R1.out.keep HW.out).cell 4
  go_simp
  go_wp2
  go_loopw [4, 5] (fun d y wr => d = .int .i64 0 ∧ y = .int .i64 2000 ∧ wr = W2) (fun _ _ _ => 0)
  case atStart => exact ⟨rfl, rfl, rfl⟩
  case round =>
   obtain ⟨rfl, rfl, hwr⟩ := hrel
   subst hwr
   go_wp2
   go_loopw [4, 6] (fun d y wr2 => d = .int .i64 0 ∧ y = .int .i64 1 ∧ wr2 = wr) (fun _ _ _ => 0)
   case atStart => exact ⟨rfl, rfl, rfl⟩
   case round =>
    obtain ⟨rfl, rfl, hwr⟩ := hrel
    subst hwr
    go_wp2
    go_ret2
    exact ⟨by congr 3, Below.step HB1.out HW.out⟩
end Go.Proofs.YtibelollgdnidaaGreatDoor
