/- date: Parse. -/
import Derived.Test.YtibelollgdnidaaGreatDoorMRea
import Derived.Test.YtibelollgdnidaaGreatDoorMTxB
namespace Go.Proofs.YtibelollgdnidaaGreatDoor
open Go.RowKit
theorem dg_nat {d : Nat} (h : d < 10) : (dg d).toNat = 48 + d := by
 unfold dg
 rw [UInt8.toNat_ofNat']
 omega
theorem dayT_len (n : Nat) : (dayT n).length = 28 := rfl
theorem dayT_ok {n : Nat} (hn : n ≤ 1439) : DtOk ⟨(dayT n).toArray⟩ (n / 60) (n % 60) := by
 have e1 := dg_nat (d := n / 60 / 10) (by omega)
 have e2 := dg_nat (d := n / 60 % 10) (by omega)
 have e3 := dg_nat (d := n % 60 / 10) (by omega)
 have e4 := dg_nat (d := n % 60 % 10) (by omega)
 unfold dayT
 revert e1 e2 e3 e4
 generalize dg (n / 60 / 10) = c1
 generalize dg (n / 60 % 10) = c2
 generalize dg (n % 60 / 10) = c3
 generalize dg (n % 60 % 10) = c4
 intro e1 e2 e3 e4
 have g1 : dgC c1 = true := decide_eq_true ⟨by omega, by omega⟩
 have g2 : dgC c2 = true := decide_eq_true ⟨by omega, by omega⟩
 have g3 : dgC c3 = true := decide_eq_true ⟨by omega, by omega⟩
 have g4 : dgC c4 = true := decide_eq_true ⟨by omega, by omega⟩
 refine ⟨rfl, ⟨83, rfl, by decide, by decide⟩, (by unfold bl; rw [Lib.extract_data]; rfl), rfl, rfl, rfl, ⟨Nat.le_of_ble_eq_true rfl, ?_⟩, rfl, rfl, rfl, (by unfold bl; rw [Lib.extract_data]; rfl), rfl, rfl, ⟨Nat.le_of_ble_eq_true rfl, ?_⟩, rfl, rfl, ?_, ⟨Nat.le_of_ble_eq_true rfl, ?_⟩, ?_, rfl, ⟨Nat.le_of_ble_eq_true rfl, ?_⟩, ?_, rfl, rfl, (by apply bl_inj; unfold bl; rw [Lib.extract_data]; rfl)⟩
 ·intro j hj h1 h2
  rcases (show j = 5 ∨ j = 6 by omega) with rfl | rfl <;> rfl
 ·intro j hj h1 h2
  rcases (show j = 12 ∨ j = 13 ∨ j = 14 ∨ j = 15 by omega) with rfl | rfl | rfl | rfl <;> rfl
 ·show decide (c1.toNat = 32 ∨ c1.toNat = 9) = false
  rw [decide_eq_false_iff_not]
  omega
 ·intro j hj h1 h2
  rcases (show j = 17 ∨ j = 18 by omega) with rfl | rfl
  ·exact g1
  ·exact g2
 ·show 10 * (10 * 0 + c1.toNat - 48) + c2.toNat - 48 = n / 60
  omega
 ·intro j hj h1 h2
  rcases (show j = 20 ∨ j = 21 by omega) with rfl | rfl
  ·exact g3
  ·exact g4
 ·show 10 * (10 * 0 + c3.toNat - 48) + c4.toNat - 48 = n % 60
  omega
set_option maxRecDepth 100000 in
set_option maxHeartbeats 1600000 in
theorem parse77 (n : Nat) (hn : n ≤ 1439) (w : World) : Calls Tryz.prog 77 #[.string ⟨(dayT n).toArray⟩] w fun e w' => e = .returned (.tuple #[.int .i64 (n : Int), .int .i64 0, .int .i64 0]) ∧ Below w.heap.size w w' := by
 have hx := dayT_ok hn
 obtain ⟨x, hxe⟩ : ∃ x : ByteArray, ⟨(dayT n).toArray⟩ = x := ⟨_, rfl⟩
 rw [hxe] at hx ⊢
 obtain ⟨h, he⟩ : ∃ h, n / 60 = h := ⟨_, rfl⟩
 obtain ⟨m, me⟩ : ∃ m, n % 60 = m := ⟨_, rfl⟩
 have hnm : h * 60 + m = n := by omega
 have hh : (h : Int) ≤ 23 := by omega
 have hm : (m : Int) ≤ 59 := by omega
 have dh : decide (23 < (h : Int)) = false := by rw [decide_eq_false_iff_not]; omega
 have dm : decide (59 < (m : Int)) = false := by rw [decide_eq_false_iff_not]; omega
 have hn2 : (n : Int) ≤ 1439 := by omega
 rw [he, me] at hx
 have HN := Lib.hid hnm
 clear he me hnm
 have hx2 : (x.size : Int) = 28 := by rw [hx.len]; rfl
 have HX := Lib.hid hx
 have hb0 : Below w.heap.size w (w.alloc (Obj.cells #[.string x, .int .i64 0, .int .i64 0] 143)) := below_alloc _ _
 have hs0 : ScR (w.alloc (Obj.cells #[.string x, .int .i64 0, .int .i64 0] 143)) w.heap.size x 0 := Row.new w _ _
 have H0 := Lib.hid (And.intro hb0 hs0)
 clear hx hxe hb0 hs0
 go_enter Tryz.func77, Tryz.ntmps77
 go_wp2_with (go_at_call 116; refine (read116 _ w.heap.size x h m H0.out.2 HX.out).mono ?_; rintro e w5 ⟨rfl, hs5, ho5⟩; have H5 := Lib.hid (And.intro hs5 (And.intro (ho5.below (B := w.heap.size) (Nat.le_refl _) (by rw [World.size_alloc]; omega)) (fun W (hW : Below w5.heap.size w5 W) => Below.trans H0.out.1 (Below.trans (ho5.below (B := w.heap.size) (Nat.le_refl _) (by rw [World.size_alloc]; omega)) (hW.mono (by have := ho5.size; rw [World.size_alloc] at this; omega)))))); have k2 : ∀ v, (w5.alloc v).cell? ⟨w.heap.size, 2, none⟩ = some (.int .i64 0) := fun v => (Row.keep hs5 (below_alloc w5 v)).cell 2; clear hs5 ho5)
 have r6 : Row (w5.alloc (Obj.cells #[.int .i64 2000, .int .i64 1, .int .i64 1, .int .i64 (h : Int), .int .i64 (m : Int), .int .i64 5, .int .i64 0, .int .i64 0, .int .i64 5, .int .i64 12, .int .i64 17, .int .i64 20, .int .i64 0] 147)) w5.heap.size [.int .i64 2000, .int .i64 1, .int .i64 1, .int .i64 (h : Int), .int .i64 (m : Int), .int .i64 5, .int .i64 0, .int .i64 0, .int .i64 5, .int .i64 12, .int .i64 17, .int .i64 20, .int .i64 0] 147 := Row.new w5 _ _
 have hb6 := H5.out.2.2 _ (below_alloc w5 (Obj.cells #[.int .i64 2000, .int .i64 1, .int .i64 1, .int .i64 (h : Int), .int .i64 (m : Int), .int .i64 5, .int .i64 0, .int .i64 0, .int .i64 5, .int .i64 12, .int .i64 17, .int .i64 20, .int .i64 0] 147))
 have H6 := Lib.hid hb6
 have R6 := Lib.hid r6
 clear r6 hb6 k2
 obtain ⟨g, hg⟩ : ∃ g, w5.heap.size = g := ⟨_, rfl⟩
 rw [hg] at R6 ⊢
 clear hg
 revert H6 R6
 generalize World.alloc w5 _ = W6
 intro H6 R6
 refine AnyO.wp_anyI (by kernel_rfl) (by kernel_rfl) (AnyO.InvG (σ := Unit) (fun σ => AnyO.pvL [some (.pointer (some ⟨g, 0, none⟩)), some (.pointer (some ⟨g, 2, none⟩)), some (.int .i64 1), some (.bool false), some (.bool false), some (.pointer (some ⟨g, 0, none⟩)), some (.pointer (some ⟨g, 2, none⟩)), some (.int .i64 1), some (.pointer (some ⟨g, 0, none⟩)), some (.pointer (some ⟨g, 0, none⟩)), some (.int .i64 2000), some (.pointer (some ⟨g, 0, none⟩)), some (.pointer (some ⟨g, 1, none⟩)), some (.int .i64 1), some (.int .i64 31), some (.bool false), some (.bool false), some (.bool false)]) (fun _ _ u => Below W6.heap.size W6 u)) (AnyO.InvG.start (g := ()) (below_drew W6)) ?_ ?_
 ·intro i hi
  have hi2 : i = 5 ∨ i = 6 ∨ i = 7 ∨ i = 8 ∨ i = 9 ∨ i = 10 ∨ i = 11 ∨ i = 12 ∨ i = 13 ∨ i = 14 ∨ i = 15 ∨ i = 0 ∨ i = 1 ∨ i = 2 ∨ i = 3 ∨ i = 4 ∨ i = 16 ∨ i = 17 := by simp only [List.size_toArray, List.length_cons, List.length_nil] at hi; omega
  clear hi
  rcases hi2 with rfl | rfl | rfl | rfl | rfl | rfl | rfl | rfl | rfl | rfl | rfl | rfl | rfl | rfl | rfl | rfl | rfl | rfl
  ·refine AnyO.StepI.mk rfl [4] (by kernel_rfl) ?_; rintro D vs u ⟨σ, hP, hW⟩ h0 hC hp ac hb K hK
   have s6 : ac.tmps[6]?.getD undef = .pointer (some ⟨g, 0, none⟩) := by rw [hb]; kernel_rfl
   have s51 := AnyO.slot 51 hb (by kernel_rfl) (hP 4 (hp 4 (by decide)))
   rw [if_pos (AnyO.wanted_some (g := 4) (t := 51) (want := false) rfl rfl s51)]
   clear hb hp
   clear hC h0; have HPW := Lib.hid (And.intro hP hW); clear hP hW; go_simp; exact hK _ _ (AnyO.InvG.step (g := σ) HPW.out.1 rfl HPW.out.2)
  ·refine AnyO.StepI.mk rfl [5, 4] (by kernel_rfl) ?_; rintro D vs u ⟨σ, hP, hW⟩ h0 hC hp ac hb K hK
   have s52 := AnyO.slot 52 hb (by kernel_rfl) (hP 5 (hp 5 (by decide)))
   have s51 := AnyO.slot 51 hb (by kernel_rfl) (hP 4 (hp 4 (by decide)))
   rw [if_pos (AnyO.wanted_some (g := 4) (t := 51) (want := false) rfl rfl s51)]
   clear hb hp
   clear hC h0; have HPW := Lib.hid (And.intro hP hW); clear hP hW; go_simp; exact hK _ _ (AnyO.InvG.step (g := σ) HPW.out.1 rfl HPW.out.2)
  ·refine AnyO.StepI.mk rfl [6, 4] (by kernel_rfl) ?_; rintro D vs u ⟨σ, hP, hW⟩ h0 hC hp ac hb K hK
   have s53 := AnyO.slot 53 hb (by kernel_rfl) (hP 6 (hp 6 (by decide)))
   have s51 := AnyO.slot 51 hb (by kernel_rfl) (hP 4 (hp 4 (by decide)))
   rw [if_pos (AnyO.wanted_some (g := 4) (t := 51) (want := false) rfl rfl s51)]
   clear hb hp
   have rr1 : u.cell? ⟨g, 2, none⟩ = some (.int .i64 1) := (Row.keep R6.out hW).cell 2
   clear hC h0; have HPW := Lib.hid (And.intro hP hW); clear hP hW; go_simp; exact hK _ _ (AnyO.InvG.step (g := σ) HPW.out.1 rfl HPW.out.2)
  ·refine AnyO.StepI.mk rfl [4] (by kernel_rfl) ?_; rintro D vs u ⟨σ, hP, hW⟩ h0 hC hp ac hb K hK
   have s6 : ac.tmps[6]?.getD undef = .pointer (some ⟨g, 0, none⟩) := by rw [hb]; kernel_rfl
   have s51 := AnyO.slot 51 hb (by kernel_rfl) (hP 4 (hp 4 (by decide)))
   rw [if_pos (AnyO.wanted_some (g := 4) (t := 51) (want := false) rfl rfl s51)]
   clear hb hp
   clear hC h0; have HPW := Lib.hid (And.intro hP hW); clear hP hW; go_simp; exact hK _ _ (AnyO.InvG.step (g := σ) HPW.out.1 rfl HPW.out.2)
  ·refine AnyO.StepI.mk rfl [8, 4] (by kernel_rfl) ?_; rintro D vs u ⟨σ, hP, hW⟩ h0 hC hp ac hb K hK
   have s55 := AnyO.slot 55 hb (by kernel_rfl) (hP 8 (hp 8 (by decide)))
   have s51 := AnyO.slot 51 hb (by kernel_rfl) (hP 4 (hp 4 (by decide)))
   rw [if_pos (AnyO.wanted_some (g := 4) (t := 51) (want := false) rfl rfl s51)]
   clear hb hp
   clear hC h0; have HPW := Lib.hid (And.intro hP hW); clear hP hW; go_simp; exact hK _ _ (AnyO.InvG.step (g := σ) HPW.out.1 rfl HPW.out.2)
  ·refine AnyO.StepI.mk rfl [9, 4] (by kernel_rfl) ?_; rintro D vs u ⟨σ, hP, hW⟩ h0 hC hp ac hb K hK
   have s56 := AnyO.slot 56 hb (by kernel_rfl) (hP 9 (hp 9 (by decide)))
   have s51 := AnyO.slot 51 hb (by kernel_rfl) (hP 4 (hp 4 (by decide)))
   rw [if_pos (AnyO.wanted_some (g := 4) (t := 51) (want := false) rfl rfl s51)]
   clear hb hp
   have rr1 : u.cell? ⟨g, 0, none⟩ = some (.int .i64 2000) := (Row.keep R6.out hW).cell 0
   clear hC h0; have HPW := Lib.hid (And.intro hP hW); clear hP hW; go_simp; exact hK _ _ (AnyO.InvG.step (g := σ) HPW.out.1 rfl HPW.out.2)
  ·refine AnyO.StepI.mk rfl [4] (by kernel_rfl) ?_; rintro D vs u ⟨σ, hP, hW⟩ h0 hC hp ac hb K hK
   have s6 : ac.tmps[6]?.getD undef = .pointer (some ⟨g, 0, none⟩) := by rw [hb]; kernel_rfl
   have s51 := AnyO.slot 51 hb (by kernel_rfl) (hP 4 (hp 4 (by decide)))
   rw [if_pos (AnyO.wanted_some (g := 4) (t := 51) (want := false) rfl rfl s51)]
   clear hb hp
   clear hC h0; have HPW := Lib.hid (And.intro hP hW); clear hP hW; go_simp; exact hK _ _ (AnyO.InvG.step (g := σ) HPW.out.1 rfl HPW.out.2)
  ·refine AnyO.StepI.mk rfl [11, 4] (by kernel_rfl) ?_; rintro D vs u ⟨σ, hP, hW⟩ h0 hC hp ac hb K hK
   have s58 := AnyO.slot 58 hb (by kernel_rfl) (hP 11 (hp 11 (by decide)))
   have s51 := AnyO.slot 51 hb (by kernel_rfl) (hP 4 (hp 4 (by decide)))
   rw [if_pos (AnyO.wanted_some (g := 4) (t := 51) (want := false) rfl rfl s51)]
   clear hb hp
   clear hC h0; have HPW := Lib.hid (And.intro hP hW); clear hP hW; go_simp; exact hK _ _ (AnyO.InvG.step (g := σ) HPW.out.1 rfl HPW.out.2)
  ·refine AnyO.StepI.mk rfl [12, 4] (by kernel_rfl) ?_; rintro D vs u ⟨σ, hP, hW⟩ h0 hC hp ac hb K hK
   have s59 := AnyO.slot 59 hb (by kernel_rfl) (hP 12 (hp 12 (by decide)))
   have s51 := AnyO.slot 51 hb (by kernel_rfl) (hP 4 (hp 4 (by decide)))
   rw [if_pos (AnyO.wanted_some (g := 4) (t := 51) (want := false) rfl rfl s51)]
   clear hb hp
   have rr1 : u.cell? ⟨g, 1, none⟩ = some (.int .i64 1) := (Row.keep R6.out hW).cell 1
   clear hC h0; have HPW := Lib.hid (And.intro hP hW); clear hP hW; go_simp; exact hK _ _ (AnyO.InvG.step (g := σ) HPW.out.1 rfl HPW.out.2)
  ·refine AnyO.StepI.mk rfl [10, 13, 4, 4] (by kernel_rfl) ?_; rintro D vs u ⟨σ, hP, hW⟩ h0 hC hp ac hb K hK
   have s57 := AnyO.slot 57 hb (by kernel_rfl) (hP 10 (hp 10 (by decide)))
   have s60 := AnyO.slot 60 hb (by kernel_rfl) (hP 13 (hp 13 (by decide)))
   have s51 := AnyO.slot 51 hb (by kernel_rfl) (hP 4 (hp 4 (by decide)))
   rw [if_pos (AnyO.wanted_some (g := 4) (t := 51) (want := false) rfl rfl s51)]
   clear hb hp
   clear hC h0; have HPW := Lib.hid (And.intro hP hW); clear hP hW; go_simp; obtain ⟨hP, hW⟩ := HPW.out
   go_at_call 117
   refine (monthDays117 u).mono ?_
   rintro e w2 ⟨rfl, rfl⟩
   exact hK _ _ (AnyO.InvG.step (g := σ) hP rfl hW)
  ·refine AnyO.StepI.mk rfl [7, 14, 4] (by kernel_rfl) ?_; rintro D vs u ⟨σ, hP, hW⟩ h0 hC hp ac hb K hK
   have s54 := AnyO.slot 54 hb (by kernel_rfl) (hP 7 (hp 7 (by decide)))
   have s61 := AnyO.slot 61 hb (by kernel_rfl) (hP 14 (hp 14 (by decide)))
   have s51 := AnyO.slot 51 hb (by kernel_rfl) (hP 4 (hp 4 (by decide)))
   rw [if_pos (AnyO.wanted_some (g := 4) (t := 51) (want := false) rfl rfl s51)]
   clear hb hp
   clear hC h0; have HPW := Lib.hid (And.intro hP hW); clear hP hW; go_simp; exact hK _ _ (AnyO.InvG.step (g := σ) HPW.out.1 rfl HPW.out.2)
  all_goals
   refine AnyO.J rfl ?_; rintro D vs u σ Q h0 hC hp ac hb K hK
   try have s6 : ac.tmps[6]?.getD undef = .pointer (some ⟨g, 0, none⟩) := by rw [hb.out]; kernel_rfl
   try have s47 : _ = _ := AnyO.sv 47 0 hb hp Q
   try have s48 : _ = _ := AnyO.sv 48 1 hb hp Q
   try have s49 : _ = _ := AnyO.sv 49 2 hb hp Q
   try have s50 : _ = _ := AnyO.sv 50 3 hb hp Q
   try have s51 : _ = _ := AnyO.sv 51 4 hb hp Q
   try have s62 : _ = _ := AnyO.sv 62 15 hb hp Q
   try have s63 : _ = _ := AnyO.sv 63 16 hb hp Q
   have rr1 : u.cell? ⟨g, 2, none⟩ = some (.int .i64 1) := (Row.keep R6.out Q.out.2).cell 2
   go_simp
   exact hK _ _ (AnyO.InvG.step (g := σ) Q.out.1 rfl Q.out.2)
 ·intro D vs u hI hD
  obtain ⟨σ, hP, hW⟩ := hI
  have e0 : _ = _ := hP 0 (hD 0 (by decide))
  have e1 : _ = _ := hP 1 (hD 1 (by decide))
  have e2 : _ = _ := hP 2 (hD 2 (by decide))
  have e3 : _ = _ := hP 3 (hD 3 (by decide))
  have e4 : _ = _ := hP 4 (hD 4 (by decide))
  have e5 : _ = _ := hP 5 (hD 5 (by decide))
  have e6 : _ = _ := hP 6 (hD 6 (by decide))
  have e7 : _ = _ := hP 7 (hD 7 (by decide))
  have e8 : _ = _ := hP 8 (hD 8 (by decide))
  have e9 : _ = _ := hP 9 (hD 9 (by decide))
  have e10 : _ = _ := hP 10 (hD 10 (by decide))
  have e11 : _ = _ := hP 11 (hD 11 (by decide))
  have e12 : _ = _ := hP 12 (hD 12 (by decide))
  have e13 : _ = _ := hP 13 (hD 13 (by decide))
  have e14 : _ = _ := hP 14 (hD 14 (by decide))
  have e15 : _ = _ := hP 15 (hD 15 (by decide))
  have e16 : _ = _ := hP 16 (hD 16 (by decide))
  have e17 : _ = _ := hP 17 (hD 17 (by decide))
  have HW := Lib.hid hW
  clear hW hP hD
  rw [puts_range [some 47, some 48, some 49, some 50, some 51, some 52, some 53, some 54, some 55, some 56, some 57, some 58, some 59, some 60, some 61, some 62, some 63, some 46] (by kernel_rfl)]
  simp only [putL, Nat.reduceAdd, e0, e1, e2, e3, e4, e5, e6, e7, e8, e9, e10, e11, e12, e13, e14, e15, e16, e17]
  clear e0 e1 e2 e3 e4 e5 e6 e7 e8 e9 e10 e11 e12 e13 e14 e15 e16 e17
  have r7 := Row.keep R6.out HW.out
  have q0 := r7.cell 0; rw [show ([.int .i64 2000, .int .i64 1, .int .i64 1, .int .i64 (h : Int), .int .i64 (m : Int), .int .i64 5, .int .i64 0, .int .i64 0, .int .i64 5, .int .i64 12, .int .i64 17, .int .i64 20, .int .i64 0] : List Value)[0]? = some (.int .i64 2000) from rfl] at q0
  have q1 := r7.cell 1; rw [show ([.int .i64 2000, .int .i64 1, .int .i64 1, .int .i64 (h : Int), .int .i64 (m : Int), .int .i64 5, .int .i64 0, .int .i64 0, .int .i64 5, .int .i64 12, .int .i64 17, .int .i64 20, .int .i64 0] : List Value)[1]? = some (.int .i64 1) from rfl] at q1
  have q2 := r7.cell 2; rw [show ([.int .i64 2000, .int .i64 1, .int .i64 1, .int .i64 (h : Int), .int .i64 (m : Int), .int .i64 5, .int .i64 0, .int .i64 0, .int .i64 5, .int .i64 12, .int .i64 17, .int .i64 20, .int .i64 0] : List Value)[2]? = some (.int .i64 1) from rfl] at q2
  have q3 := r7.cell 3; rw [show ([.int .i64 2000, .int .i64 1, .int .i64 1, .int .i64 (h : Int), .int .i64 (m : Int), .int .i64 5, .int .i64 0, .int .i64 0, .int .i64 5, .int .i64 12, .int .i64 17, .int .i64 20, .int .i64 0] : List Value)[3]? = some (.int .i64 (h : Int)) from rfl] at q3
  have q4 := r7.cell 4; rw [show ([.int .i64 2000, .int .i64 1, .int .i64 1, .int .i64 (h : Int), .int .i64 (m : Int), .int .i64 5, .int .i64 0, .int .i64 0, .int .i64 5, .int .i64 12, .int .i64 17, .int .i64 20, .int .i64 0] : List Value)[4]? = some (.int .i64 (m : Int)) from rfl] at q4
  have q5 := r7.cell 5; rw [show ([.int .i64 2000, .int .i64 1, .int .i64 1, .int .i64 (h : Int), .int .i64 (m : Int), .int .i64 5, .int .i64 0, .int .i64 0, .int .i64 5, .int .i64 12, .int .i64 17, .int .i64 20, .int .i64 0] : List Value)[5]? = some (.int .i64 5) from rfl] at q5
  have q6 := r7.cell 6; rw [show ([.int .i64 2000, .int .i64 1, .int .i64 1, .int .i64 (h : Int), .int .i64 (m : Int), .int .i64 5, .int .i64 0, .int .i64 0, .int .i64 5, .int .i64 12, .int .i64 17, .int .i64 20, .int .i64 0] : List Value)[6]? = some (.int .i64 0) from rfl] at q6
  have q7 := r7.cell 7; rw [show ([.int .i64 2000, .int .i64 1, .int .i64 1, .int .i64 (h : Int), .int .i64 (m : Int), .int .i64 5, .int .i64 0, .int .i64 0, .int .i64 5, .int .i64 12, .int .i64 17, .int .i64 20, .int .i64 0] : List Value)[7]? = some (.int .i64 0) from rfl] at q7
  have q8 := r7.cell 8; rw [show ([.int .i64 2000, .int .i64 1, .int .i64 1, .int .i64 (h : Int), .int .i64 (m : Int), .int .i64 5, .int .i64 0, .int .i64 0, .int .i64 5, .int .i64 12, .int .i64 17, .int .i64 20, .int .i64 0] : List Value)[8]? = some (.int .i64 5) from rfl] at q8
  have q9 := r7.cell 9; rw [show ([.int .i64 2000, .int .i64 1, .int .i64 1, .int .i64 (h : Int), .int .i64 (m : Int), .int .i64 5, .int .i64 0, .int .i64 0, .int .i64 5, .int .i64 12, .int .i64 17, .int .i64 20, .int .i64 0] : List Value)[9]? = some (.int .i64 12) from rfl] at q9
  have q10 := r7.cell 10; rw [show ([.int .i64 2000, .int .i64 1, .int .i64 1, .int .i64 (h : Int), .int .i64 (m : Int), .int .i64 5, .int .i64 0, .int .i64 0, .int .i64 5, .int .i64 12, .int .i64 17, .int .i64 20, .int .i64 0] : List Value)[10]? = some (.int .i64 17) from rfl] at q10
  have q11 := r7.cell 11; rw [show ([.int .i64 2000, .int .i64 1, .int .i64 1, .int .i64 (h : Int), .int .i64 (m : Int), .int .i64 5, .int .i64 0, .int .i64 0, .int .i64 5, .int .i64 12, .int .i64 17, .int .i64 20, .int .i64 0] : List Value)[11]? = some (.int .i64 20) from rfl] at q11
  have q12 := r7.cell 12; rw [show ([.int .i64 2000, .int .i64 1, .int .i64 1, .int .i64 (h : Int), .int .i64 (m : Int), .int .i64 5, .int .i64 0, .int .i64 0, .int .i64 5, .int .i64 12, .int .i64 17, .int .i64 20, .int .i64 0] : List Value)[12]? = some (.int .i64 0) from rfl] at q12
  clear r7
  go_simp
  go_wp2_with (first
   | (go_at_call 118; refine (fromCivil118 h m (by omega) (by omega) _).mono ?_; rw [HN.out]; rintro e w8 ⟨rfl, hb8⟩; have H8 := Lib.hid (And.intro (Below.step HW.out hb8) (Row.keep (Row.keep R6.out HW.out) hb8)); have j5 : w8.cell? ⟨g, 5, none⟩ = some (.int .i64 5) := H8.out.2.cell 5; have j7 : w8.cell? ⟨g, 7, none⟩ = some (.int .i64 0) := H8.out.2.cell 7; clear hb8)
   | (go_at_call 119; refine (weekday119 n (by omega) _).mono ?_; rintro e w9 ⟨rfl, rfl⟩)
   | (go_at_call 120; refine (dValid120 n (by omega) _).mono ?_; rintro e w9 ⟨rfl, rfl⟩))
  go_ret3
  exact ⟨rfl, Below.step H6.out H8.out.1⟩
set_option maxRecDepth 100000 in
theorem isCanonical76 (n : Nat) (hn : n ≤ 1439) (w : World) (htab : Lib.TabIs Tryz.prog w "internal/strconv.uint64pow10" .u64 Lib.pow10Tab) : Calls Tryz.prog 76 #[.string ⟨(dayT n).toArray⟩] w fun e w' => e = .returned (.bool true) ∧ Below w.heap.size w w' := by
 obtain ⟨x, hx⟩ : ∃ x : ByteArray, ⟨(dayT n).toArray⟩ = x := ⟨_, rfl⟩
 have HT := Lib.hid htab
 have HN := Lib.hid hn
 have HP := fun u => Lib.hid (parse77 n hn u)
 have HF := fun u (hb : Below w.heap.size w u) => Lib.hid (format87 n hn u (tab_below htab hb))
 rw [hx] at HP HF ⊢
 clear htab hn hx
 go_enter Tryz.func76, Tryz.ntmps76
 go_wp2_with (first
  | (go_at_call 77; refine (HP _).out.mono ?_; rintro e w1 ⟨rfl, hb1⟩; have H1 := Lib.hid hb1; clear hb1)
  | (go_at_call 87; refine (HF _ H1.out).out.mono ?_; rintro e w2 ⟨rfl, hb2⟩; have H2 := Lib.hid hb2; clear hb2))
 go_ret
 exact ⟨rfl, Below.step H1.out H2.out⟩
end Go.Proofs.YtibelollgdnidaaGreatDoor
