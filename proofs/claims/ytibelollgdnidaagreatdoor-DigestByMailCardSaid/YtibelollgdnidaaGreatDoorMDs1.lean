/- date: the scanner: classes of bytes, whether the next byte is in one. -/
import Derived.Test.YtibelollgdnidaaGreatDoorMDt4
namespace Go.Proofs.YtibelollgdnidaaGreatDoor
open Go.RowKit
def ScR (w : World) (b : Nat) (s : ByteArray) (at_ : Nat) : Prop := Row w b [.string s, .int .i64 (at_ : Int), .int .i64 0] 143
def dgC (c : UInt8) : Bool := decide (48 ≤ c.toNat ∧ c.toNat ≤ 57)
def blC (c : UInt8) : Bool := decide (c.toNat = 32 ∨ c.toNat = 9)
theorem dDigit184 (c : UInt8) (w : World) : Calls Tryz.prog 184 #[.int .u8 (c.toNat : Int)] w fun e w' => e = .returned (.bool (dgC c)) ∧ w' = w := by
 by_cases h1 : 48 ≤ c.toNat
 ·by_cases h2 : c.toNat ≤ 57
  ·have h1i : 48 ≤ (c.toNat : Int) := by omega
   have h2i : (c.toNat : Int) ≤ 57 := by omega
   rw [show dgC c = true from decide_eq_true ⟨h1, h2⟩]
   clear h1 h2
   go_enter Tryz.func184, Tryz.ntmps184
   go_wp2
   go_ret
   exact ⟨rfl, rfl⟩
  ·have h1i : 48 ≤ (c.toNat : Int) := by omega
   have h2i : ¬ (c.toNat : Int) ≤ 57 := by omega
   rw [show dgC c = false from decide_eq_false (fun h => h2 h.2)]
   clear h1 h2
   go_enter Tryz.func184, Tryz.ntmps184
   go_wp2
   go_ret
   exact ⟨rfl, rfl⟩
 ·have h1i : ¬ 48 ≤ (c.toNat : Int) := by omega
  rw [show dgC c = false from decide_eq_false (fun h => h1 h.1)]
  clear h1
  go_enter Tryz.func184, Tryz.ntmps184
  go_wp2
  go_ret
  exact ⟨rfl, rfl⟩
theorem dBlank154 (c : UInt8) (w : World) : Calls Tryz.prog 154 #[.int .u8 (c.toNat : Int)] w fun e w' => e = .returned (.bool (blC c)) ∧ w' = w := by
 by_cases h1 : c.toNat = 32
 ·rw [show blC c = true from decide_eq_true (Or.inl h1), h1]
  go_enter Tryz.func154, Tryz.ntmps154
  go_wp2
  go_ret
  exact ⟨rfl, rfl⟩
 ·have h1i : ((c.toNat : Int) == 32) = false := by rw [beq_eq_false_iff_ne]; omega
  by_cases h2 : c.toNat = 9
  ·have h2i : ((c.toNat : Int) == 9) = true := by rw [h2]; rfl
   rw [show blC c = true from decide_eq_true (Or.inr h2)]
   clear h1 h2
   go_enter Tryz.func154, Tryz.ntmps154
   go_wp2
   go_ret
   exact ⟨rfl, rfl⟩
  ·have h2i : ((c.toNat : Int) == 9) = false := by rw [beq_eq_false_iff_ne]; omega
   rw [show blC c = false from decide_eq_false (fun h => h.elim h1 h2)]
   clear h1 h2
   go_enter Tryz.func154, Tryz.ntmps154
   go_wp2
   go_ret
   exact ⟨rfl, rfl⟩
theorem dIs183 (c d : UInt8) (g : Nat) (w : World) (h : w.cell? ⟨g, 0, none⟩ = some (.int .u8 (d.toNat : Int))) : Calls Tryz.prog 183 #[.int .u8 (c.toNat : Int), .pointer (some ⟨g, 0, none⟩)] w fun e w' => e = .returned (.bool (decide (c = d))) ∧ w' = w := by
 by_cases hcd : c = d
 ·have hb : ((c.toNat : Int) == (d.toNat : Int)) = true := by rw [hcd]; simp
  rw [decide_eq_true hcd]
  clear hcd
  go_enter Tryz.func183, Tryz.ntmps183
  go_wp2
  go_ret
  exact ⟨rfl, rfl⟩
 ·have hb : ((c.toNat : Int) == (d.toNat : Int)) = false := by
   rw [beq_eq_false_iff_ne]
   intro e
   exact hcd (UInt8.toNat_inj.1 (by omega))
  rw [decide_eq_false hcd]
  clear hcd
  go_enter Tryz.func183, Tryz.ntmps183
  go_wp2
  go_ret
  exact ⟨rfl, rfl⟩
section
set_option maxRecDepth 100000
theorem sees_digit (w : World) (b : Nat) (s : ByteArray) (i : Nat) (c : UInt8) (h : ScR w b s i) (hi : i < s.size) (hc : s[i] = c) (r : Bool) (hr : dgC c = r) : Calls Tryz.prog 148 #[.pointer (some ⟨b, 0, none⟩), .func (.func 184) #[] #[]] w fun e w' => e = .returned (.bool r) ∧ Below w.heap.size w w' := by
 have hii : (i : Int) < (s.size : Int) := by omega
 have H := Lib.hid h
 have HC := Lib.hid hc
 have HR := Lib.hid hr
 clear h hc hr
 go_enter Tryz.func148, Tryz.ntmps148
 go_wp2
 refine AnyO.wp_anyI (by kernel_rfl) (by kernel_rfl) (AnyO.InvG (σ := Unit) (fun σ => AnyO.pvL [some (.pointer (some ⟨b, 0, none⟩)), some (.pointer (some ⟨b, 0, none⟩)), some (.pointer (some ⟨b, 2, none⟩)), some (.int .i64 0), some (.bool true), some (.bool true), some (.pointer (some ⟨b, 0, none⟩)), some (.pointer (some ⟨b, 0, none⟩)), some (.pointer (some ⟨b, 1, none⟩)), some (.int .i64 (i : Int)), some (.pointer (some ⟨b, 0, none⟩)), some (.pointer (some ⟨b, 0, none⟩)), some (.pointer (some ⟨b, 0, none⟩)), some (.string s), some (.int .i64 (s.size : Int)), some (.bool true), some (.bool true), some (.bool true), some (.func (.func 184) #[] #[]), some (.pointer (some ⟨b, 0, none⟩)), some (.pointer (some ⟨b, 0, none⟩)), some (.pointer (some ⟨b, 0, none⟩)), some (.string s), some (.pointer (some ⟨b, 0, none⟩)), some (.pointer (some ⟨b, 0, none⟩)), some (.pointer (some ⟨b, 1, none⟩)), some (.int .i64 (i : Int)), some (.int .u8 (c.toNat : Int)), some (.bool r), some (.bool r), some (.bool r)]) (fun _ _ u => Below w.heap.size w u)) (AnyO.InvG.start (g := ()) (below_drew w)) ?_ ?_
 ·intro i hi
  have hi2 : i = 6 ∨ i = 7 ∨ i = 8 ∨ i = 9 ∨ i = 10 ∨ i = 11 ∨ i = 12 ∨ i = 13 ∨ i = 14 ∨ i = 15 ∨ i = 18 ∨ i = 19 ∨ i = 20 ∨ i = 21 ∨ i = 22 ∨ i = 23 ∨ i = 24 ∨ i = 25 ∨ i = 26 ∨ i = 27 ∨ i = 28 ∨ i = 0 ∨ i = 1 ∨ i = 2 ∨ i = 3 ∨ i = 4 ∨ i = 5 ∨ i = 16 ∨ i = 17 ∨ i = 29 ∨ i = 30 := by simp only [List.size_toArray, List.length_cons, List.length_nil] at hi; omega
  clear hi
  rcases hi2 with rfl | rfl | rfl | rfl | rfl | rfl | rfl | rfl | rfl | rfl | rfl | rfl | rfl | rfl | rfl | rfl | rfl | rfl | rfl | rfl | rfl | rfl | rfl | rfl | rfl | rfl | rfl | rfl | rfl | rfl | rfl
  ·refine AnyO.StepI.mk rfl [5] (by kernel_rfl) ?_; rintro D vs u ⟨σ, hP, hW⟩ h0 hC hp ac hb K hK
   have s0 : ac.tmps[0]?.getD undef = .pointer (some ⟨b, 0, none⟩) := by rw [hb]; kernel_rfl
   have s10 := AnyO.slot 10 hb (by kernel_rfl) (hP 5 (hp 5 (by decide)))
   rw [if_pos (AnyO.wanted_some (g := 5) (t := 10) (want := true) rfl rfl s10)]
   clear hb hp
   clear hC h0; have HPW := Lib.hid (And.intro hP hW); clear hP hW; go_simp; exact hK _ _ (AnyO.InvG.step (g := σ) HPW.out.1 rfl HPW.out.2)
  ·refine AnyO.StepI.mk rfl [6, 5] (by kernel_rfl) ?_; rintro D vs u ⟨σ, hP, hW⟩ h0 hC hp ac hb K hK
   have s11 := AnyO.slot 11 hb (by kernel_rfl) (hP 6 (hp 6 (by decide)))
   have s10 := AnyO.slot 10 hb (by kernel_rfl) (hP 5 (hp 5 (by decide)))
   rw [if_pos (AnyO.wanted_some (g := 5) (t := 10) (want := true) rfl rfl s10)]
   clear hb hp
   clear hC h0; have HPW := Lib.hid (And.intro hP hW); clear hP hW; go_simp; exact hK _ _ (AnyO.InvG.step (g := σ) HPW.out.1 rfl HPW.out.2)
  ·refine AnyO.StepI.mk rfl [7, 5] (by kernel_rfl) ?_; rintro D vs u ⟨σ, hP, hW⟩ h0 hC hp ac hb K hK
   have s12 := AnyO.slot 12 hb (by kernel_rfl) (hP 7 (hp 7 (by decide)))
   have s10 := AnyO.slot 10 hb (by kernel_rfl) (hP 5 (hp 5 (by decide)))
   rw [if_pos (AnyO.wanted_some (g := 5) (t := 10) (want := true) rfl rfl s10)]
   clear hb hp
   clear hC h0; have HPW := Lib.hid (And.intro hP hW); clear hP hW; go_simp; exact hK _ _ (AnyO.InvG.step (g := σ) HPW.out.1 rfl HPW.out.2)
  ·refine AnyO.StepI.mk rfl [8, 5] (by kernel_rfl) ?_; rintro D vs u ⟨σ, hP, hW⟩ h0 hC hp ac hb K hK
   have s13 := AnyO.slot 13 hb (by kernel_rfl) (hP 8 (hp 8 (by decide)))
   have s10 := AnyO.slot 10 hb (by kernel_rfl) (hP 5 (hp 5 (by decide)))
   rw [if_pos (AnyO.wanted_some (g := 5) (t := 10) (want := true) rfl rfl s10)]
   clear hb hp
   have rr1 : u.cell? ⟨b, 1, none⟩ = some (.int .i64 (i : Int)) := (Row.keep H.out hW).cell 1
   clear hC h0; have HPW := Lib.hid (And.intro hP hW); clear hP hW; go_simp; exact hK _ _ (AnyO.InvG.step (g := σ) HPW.out.1 rfl HPW.out.2)
  ·refine AnyO.StepI.mk rfl [5] (by kernel_rfl) ?_; rintro D vs u ⟨σ, hP, hW⟩ h0 hC hp ac hb K hK
   have s0 : ac.tmps[0]?.getD undef = .pointer (some ⟨b, 0, none⟩) := by rw [hb]; kernel_rfl
   have s10 := AnyO.slot 10 hb (by kernel_rfl) (hP 5 (hp 5 (by decide)))
   rw [if_pos (AnyO.wanted_some (g := 5) (t := 10) (want := true) rfl rfl s10)]
   clear hb hp
   clear hC h0; have HPW := Lib.hid (And.intro hP hW); clear hP hW; go_simp; exact hK _ _ (AnyO.InvG.step (g := σ) HPW.out.1 rfl HPW.out.2)
  ·refine AnyO.StepI.mk rfl [10, 5] (by kernel_rfl) ?_; rintro D vs u ⟨σ, hP, hW⟩ h0 hC hp ac hb K hK
   have s15 := AnyO.slot 15 hb (by kernel_rfl) (hP 10 (hp 10 (by decide)))
   have s10 := AnyO.slot 10 hb (by kernel_rfl) (hP 5 (hp 5 (by decide)))
   rw [if_pos (AnyO.wanted_some (g := 5) (t := 10) (want := true) rfl rfl s10)]
   clear hb hp
   clear hC h0; have HPW := Lib.hid (And.intro hP hW); clear hP hW; go_simp; exact hK _ _ (AnyO.InvG.step (g := σ) HPW.out.1 rfl HPW.out.2)
  ·refine AnyO.StepI.mk rfl [11, 5] (by kernel_rfl) ?_; rintro D vs u ⟨σ, hP, hW⟩ h0 hC hp ac hb K hK
   have s16 := AnyO.slot 16 hb (by kernel_rfl) (hP 11 (hp 11 (by decide)))
   have s10 := AnyO.slot 10 hb (by kernel_rfl) (hP 5 (hp 5 (by decide)))
   rw [if_pos (AnyO.wanted_some (g := 5) (t := 10) (want := true) rfl rfl s10)]
   clear hb hp
   clear hC h0; have HPW := Lib.hid (And.intro hP hW); clear hP hW; go_simp; exact hK _ _ (AnyO.InvG.step (g := σ) HPW.out.1 rfl HPW.out.2)
  ·refine AnyO.StepI.mk rfl [12, 5] (by kernel_rfl) ?_; rintro D vs u ⟨σ, hP, hW⟩ h0 hC hp ac hb K hK
   have s17 := AnyO.slot 17 hb (by kernel_rfl) (hP 12 (hp 12 (by decide)))
   have s10 := AnyO.slot 10 hb (by kernel_rfl) (hP 5 (hp 5 (by decide)))
   rw [if_pos (AnyO.wanted_some (g := 5) (t := 10) (want := true) rfl rfl s10)]
   clear hb hp
   have rr1 : u.cell? ⟨b, 0, none⟩ = some (.string s) := (Row.keep H.out hW).cell 0
   clear hC h0; have HPW := Lib.hid (And.intro hP hW); clear hP hW; go_simp; exact hK _ _ (AnyO.InvG.step (g := σ) HPW.out.1 rfl HPW.out.2)
  ·refine AnyO.StepI.mk rfl [13, 5] (by kernel_rfl) ?_; rintro D vs u ⟨σ, hP, hW⟩ h0 hC hp ac hb K hK
   have s18 := AnyO.slot 18 hb (by kernel_rfl) (hP 13 (hp 13 (by decide)))
   have s10 := AnyO.slot 10 hb (by kernel_rfl) (hP 5 (hp 5 (by decide)))
   rw [if_pos (AnyO.wanted_some (g := 5) (t := 10) (want := true) rfl rfl s10)]
   clear hb hp
   clear hC h0; have HPW := Lib.hid (And.intro hP hW); clear hP hW; go_simp; exact hK _ _ (AnyO.InvG.step (g := σ) HPW.out.1 rfl HPW.out.2)
  ·refine AnyO.StepI.mk rfl [9, 14, 5] (by kernel_rfl) ?_; rintro D vs u ⟨σ, hP, hW⟩ h0 hC hp ac hb K hK
   have s14 := AnyO.slot 14 hb (by kernel_rfl) (hP 9 (hp 9 (by decide)))
   have s19 := AnyO.slot 19 hb (by kernel_rfl) (hP 14 (hp 14 (by decide)))
   have s10 := AnyO.slot 10 hb (by kernel_rfl) (hP 5 (hp 5 (by decide)))
   rw [if_pos (AnyO.wanted_some (g := 5) (t := 10) (want := true) rfl rfl s10)]
   clear hb hp
   clear hC h0; have HPW := Lib.hid (And.intro hP hW); clear hP hW; go_simp; exact hK _ _ (AnyO.InvG.step (g := σ) HPW.out.1 rfl HPW.out.2)
  ·refine AnyO.StepI.mk rfl [17] (by kernel_rfl) ?_; rintro D vs u ⟨σ, hP, hW⟩ h0 hC hp ac hb K hK
   have s1 : ac.tmps[1]?.getD undef = .func (.func 184) #[] #[] := by rw [hb]; kernel_rfl
   have s22 := AnyO.slot 22 hb (by kernel_rfl) (hP 17 (hp 17 (by decide)))
   rw [if_pos (AnyO.wanted_some (g := 17) (t := 22) (want := true) rfl rfl s22)]
   clear hb hp
   clear hC h0; have HPW := Lib.hid (And.intro hP hW); clear hP hW; go_simp; exact hK _ _ (AnyO.InvG.step (g := σ) HPW.out.1 rfl HPW.out.2)
  ·refine AnyO.StepI.mk rfl [17] (by kernel_rfl) ?_; rintro D vs u ⟨σ, hP, hW⟩ h0 hC hp ac hb K hK
   have s0 : ac.tmps[0]?.getD undef = .pointer (some ⟨b, 0, none⟩) := by rw [hb]; kernel_rfl
   have s22 := AnyO.slot 22 hb (by kernel_rfl) (hP 17 (hp 17 (by decide)))
   rw [if_pos (AnyO.wanted_some (g := 17) (t := 22) (want := true) rfl rfl s22)]
   clear hb hp
   clear hC h0; have HPW := Lib.hid (And.intro hP hW); clear hP hW; go_simp; exact hK _ _ (AnyO.InvG.step (g := σ) HPW.out.1 rfl HPW.out.2)
  ·refine AnyO.StepI.mk rfl [19, 17] (by kernel_rfl) ?_; rintro D vs u ⟨σ, hP, hW⟩ h0 hC hp ac hb K hK
   have s24 := AnyO.slot 24 hb (by kernel_rfl) (hP 19 (hp 19 (by decide)))
   have s22 := AnyO.slot 22 hb (by kernel_rfl) (hP 17 (hp 17 (by decide)))
   rw [if_pos (AnyO.wanted_some (g := 17) (t := 22) (want := true) rfl rfl s22)]
   clear hb hp
   clear hC h0; have HPW := Lib.hid (And.intro hP hW); clear hP hW; go_simp; exact hK _ _ (AnyO.InvG.step (g := σ) HPW.out.1 rfl HPW.out.2)
  ·refine AnyO.StepI.mk rfl [20, 17] (by kernel_rfl) ?_; rintro D vs u ⟨σ, hP, hW⟩ h0 hC hp ac hb K hK
   have s25 := AnyO.slot 25 hb (by kernel_rfl) (hP 20 (hp 20 (by decide)))
   have s22 := AnyO.slot 22 hb (by kernel_rfl) (hP 17 (hp 17 (by decide)))
   rw [if_pos (AnyO.wanted_some (g := 17) (t := 22) (want := true) rfl rfl s22)]
   clear hb hp
   clear hC h0; have HPW := Lib.hid (And.intro hP hW); clear hP hW; go_simp; exact hK _ _ (AnyO.InvG.step (g := σ) HPW.out.1 rfl HPW.out.2)
  ·refine AnyO.StepI.mk rfl [21, 17] (by kernel_rfl) ?_; rintro D vs u ⟨σ, hP, hW⟩ h0 hC hp ac hb K hK
   have s26 := AnyO.slot 26 hb (by kernel_rfl) (hP 21 (hp 21 (by decide)))
   have s22 := AnyO.slot 22 hb (by kernel_rfl) (hP 17 (hp 17 (by decide)))
   rw [if_pos (AnyO.wanted_some (g := 17) (t := 22) (want := true) rfl rfl s22)]
   clear hb hp
   have rr1 : u.cell? ⟨b, 0, none⟩ = some (.string s) := (Row.keep H.out hW).cell 0
   clear hC h0; have HPW := Lib.hid (And.intro hP hW); clear hP hW; go_simp; exact hK _ _ (AnyO.InvG.step (g := σ) HPW.out.1 rfl HPW.out.2)
  ·refine AnyO.StepI.mk rfl [17] (by kernel_rfl) ?_; rintro D vs u ⟨σ, hP, hW⟩ h0 hC hp ac hb K hK
   have s0 : ac.tmps[0]?.getD undef = .pointer (some ⟨b, 0, none⟩) := by rw [hb]; kernel_rfl
   have s22 := AnyO.slot 22 hb (by kernel_rfl) (hP 17 (hp 17 (by decide)))
   rw [if_pos (AnyO.wanted_some (g := 17) (t := 22) (want := true) rfl rfl s22)]
   clear hb hp
   clear hC h0; have HPW := Lib.hid (And.intro hP hW); clear hP hW; go_simp; exact hK _ _ (AnyO.InvG.step (g := σ) HPW.out.1 rfl HPW.out.2)
  ·refine AnyO.StepI.mk rfl [23, 17] (by kernel_rfl) ?_; rintro D vs u ⟨σ, hP, hW⟩ h0 hC hp ac hb K hK
   have s28 := AnyO.slot 28 hb (by kernel_rfl) (hP 23 (hp 23 (by decide)))
   have s22 := AnyO.slot 22 hb (by kernel_rfl) (hP 17 (hp 17 (by decide)))
   rw [if_pos (AnyO.wanted_some (g := 17) (t := 22) (want := true) rfl rfl s22)]
   clear hb hp
   clear hC h0; have HPW := Lib.hid (And.intro hP hW); clear hP hW; go_simp; exact hK _ _ (AnyO.InvG.step (g := σ) HPW.out.1 rfl HPW.out.2)
  ·refine AnyO.StepI.mk rfl [24, 17] (by kernel_rfl) ?_; rintro D vs u ⟨σ, hP, hW⟩ h0 hC hp ac hb K hK
   have s29 := AnyO.slot 29 hb (by kernel_rfl) (hP 24 (hp 24 (by decide)))
   have s22 := AnyO.slot 22 hb (by kernel_rfl) (hP 17 (hp 17 (by decide)))
   rw [if_pos (AnyO.wanted_some (g := 17) (t := 22) (want := true) rfl rfl s22)]
   clear hb hp
   clear hC h0; have HPW := Lib.hid (And.intro hP hW); clear hP hW; go_simp; exact hK _ _ (AnyO.InvG.step (g := σ) HPW.out.1 rfl HPW.out.2)
  ·refine AnyO.StepI.mk rfl [25, 17] (by kernel_rfl) ?_; rintro D vs u ⟨σ, hP, hW⟩ h0 hC hp ac hb K hK
   have s30 := AnyO.slot 30 hb (by kernel_rfl) (hP 25 (hp 25 (by decide)))
   have s22 := AnyO.slot 22 hb (by kernel_rfl) (hP 17 (hp 17 (by decide)))
   rw [if_pos (AnyO.wanted_some (g := 17) (t := 22) (want := true) rfl rfl s22)]
   clear hb hp
   have rr1 : u.cell? ⟨b, 1, none⟩ = some (.int .i64 (i : Int)) := (Row.keep H.out hW).cell 1
   clear hC h0; have HPW := Lib.hid (And.intro hP hW); clear hP hW; go_simp; exact hK _ _ (AnyO.InvG.step (g := σ) HPW.out.1 rfl HPW.out.2)
  ·refine AnyO.StepI.mk rfl [22, 26, 17] (by kernel_rfl) ?_; rintro D vs u ⟨σ, hP, hW⟩ h0 hC hp ac hb K hK
   have s27 := AnyO.slot 27 hb (by kernel_rfl) (hP 22 (hp 22 (by decide)))
   have s31 := AnyO.slot 31 hb (by kernel_rfl) (hP 26 (hp 26 (by decide)))
   have s22 := AnyO.slot 22 hb (by kernel_rfl) (hP 17 (hp 17 (by decide)))
   rw [if_pos (AnyO.wanted_some (g := 17) (t := 22) (want := true) rfl rfl s22)]
   clear hb hp
   have rr1 := HC.out
   clear hC h0; have HPW := Lib.hid (And.intro hP hW); clear hP hW; go_simp; exact hK _ _ (AnyO.InvG.step (g := σ) HPW.out.1 rfl HPW.out.2)
  ·refine AnyO.StepI.mk rfl [18, 27, 17, 17] (by kernel_rfl) ?_; rintro D vs u ⟨σ, hP, hW⟩ h0 hC hp ac hb K hK
   have s23 := AnyO.slot 23 hb (by kernel_rfl) (hP 18 (hp 18 (by decide)))
   have s32 := AnyO.slot 32 hb (by kernel_rfl) (hP 27 (hp 27 (by decide)))
   have s22 := AnyO.slot 22 hb (by kernel_rfl) (hP 17 (hp 17 (by decide)))
   rw [if_pos (AnyO.wanted_some (g := 17) (t := 22) (want := true) rfl rfl s22)]
   clear hb hp
   clear hC h0; have HPW := Lib.hid (And.intro hP hW); clear hP hW; go_simp; obtain ⟨hP, hW⟩ := HPW.out
   go_at_call 184
   refine (dDigit184 c _).mono ?_
   rintro e w2 ⟨rfl, rfl⟩
   rw [HR.out]
   exact hK _ _ (AnyO.InvG.step (g := σ) hP rfl hW)
  all_goals
   refine AnyO.J rfl ?_; rintro D vs u σ Q h0 hC hp ac hb K hK
   try have s0 : ac.tmps[0]?.getD undef = .pointer (some ⟨b, 0, none⟩) := by rw [hb.out]; kernel_rfl
   try have s5 : _ = _ := AnyO.sv 5 0 hb hp Q
   try have s6 : _ = _ := AnyO.sv 6 1 hb hp Q
   try have s7 : _ = _ := AnyO.sv 7 2 hb hp Q
   try have s8 : _ = _ := AnyO.sv 8 3 hb hp Q
   try have s9 : _ = _ := AnyO.sv 9 4 hb hp Q
   try have s10 : _ = _ := AnyO.sv 10 5 hb hp Q
   try have s20 : _ = _ := AnyO.sv 20 15 hb hp Q
   try have s21 : _ = _ := AnyO.sv 21 16 hb hp Q
   try have s22 : _ = _ := AnyO.sv 22 17 hb hp Q
   try have s33 : _ = _ := AnyO.sv 33 28 hb hp Q
   try have s34 : _ = _ := AnyO.sv 34 29 hb hp Q
   have rr1 : u.cell? ⟨b, 2, none⟩ = some (.int .i64 0) := (Row.keep H.out Q.out.2).cell 2
   go_simp
   exact hK _ _ (AnyO.InvG.step (g := σ) Q.out.1 rfl Q.out.2)
 ·intro D vs u hI hD
  obtain ⟨σ, hP, hW⟩ := hI
  have e0 : _ = _ := hP 0 (hD 0 (by decide))
  have e1 : _ = _ := hP 1 (hD 1 (by decide))
  have e2 : _ = _ := hP 2 (hD 2 (by decide))
  have e3 : _ = _ := hP 3 (hD 3 (by decide))
  have e4 : _ = _ := hP 4 (hD 4 (by decide))
  have e5 : _ = _ := hP 5 (hD 5 (by decide))
  have e6 : _ = _ := hP 6 (hD 6 (by decide))
  have e7 : _ = _ := hP 7 (hD 7 (by decide))
  have e8 : _ = _ := hP 8 (hD 8 (by decide))
  have e9 : _ = _ := hP 9 (hD 9 (by decide))
  have e10 : _ = _ := hP 10 (hD 10 (by decide))
  have e11 : _ = _ := hP 11 (hD 11 (by decide))
  have e12 : _ = _ := hP 12 (hD 12 (by decide))
  have e13 : _ = _ := hP 13 (hD 13 (by decide))
  have e14 : _ = _ := hP 14 (hD 14 (by decide))
  have e15 : _ = _ := hP 15 (hD 15 (by decide))
  have e16 : _ = _ := hP 16 (hD 16 (by decide))
  have e17 : _ = _ := hP 17 (hD 17 (by decide))
  have e18 : _ = _ := hP 18 (hD 18 (by decide))
  have e19 : _ = _ := hP 19 (hD 19 (by decide))
  have e20 : _ = _ := hP 20 (hD 20 (by decide))
  have e21 : _ = _ := hP 21 (hD 21 (by decide))
  have e22 : _ = _ := hP 22 (hD 22 (by decide))
  have e23 : _ = _ := hP 23 (hD 23 (by decide))
  have e24 : _ = _ := hP 24 (hD 24 (by decide))
  have e25 : _ = _ := hP 25 (hD 25 (by decide))
  have e26 : _ = _ := hP 26 (hD 26 (by decide))
  have e27 : _ = _ := hP 27 (hD 27 (by decide))
  have e28 : _ = _ := hP 28 (hD 28 (by decide))
  have e29 : _ = _ := hP 29 (hD 29 (by decide))
  have e30 : _ = _ := hP 30 (hD 30 (by decide))
  have HW := Lib.hid hW
  clear hW hP hD
  rw [puts_range [some 5, some 6, some 7, some 8, some 9, some 10, some 11, some 12, some 13, some 14, some 15, some 16, some 17, some 18, some 19, some 20, some 21, some 22, some 23, some 24, some 25, some 26, some 27, some 28, some 29, some 30, some 31, some 32, some 33, some 34, some 4] (by kernel_rfl)]
  simp only [putL, Nat.reduceAdd, e0, e1, e2, e3, e4, e5, e6, e7, e8, e9, e10, e11, e12, e13, e14, e15, e16, e17, e18, e19, e20, e21, e22, e23, e24, e25, e26, e27, e28, e29, e30]
  clear e0 e1 e2 e3 e4 e5 e6 e7 e8 e9 e10 e11 e12 e13 e14 e15 e16 e17 e18 e19 e20 e21 e22 e23 e24 e25 e26 e27 e28 e29 e30
  go_simp
  go_wp2
  go_ret
  exact ⟨rfl, HW.out⟩
theorem sees_blank (w : World) (b : Nat) (s : ByteArray) (i : Nat) (c : UInt8) (h : ScR w b s i) (hi : i < s.size) (hc : s[i] = c) (r : Bool) (hr : blC c = r) : Calls Tryz.prog 148 #[.pointer (some ⟨b, 0, none⟩), .func (.func 154) #[] #[]] w fun e w' => e = .returned (.bool r) ∧ Below w.heap.size w w' := by
 have hii : (i : Int) < (s.size : Int) := by omega
 have H := Lib.hid h
 have HC := Lib.hid hc
 have HR := Lib.hid hr
 clear h hc hr
 go_enter Tryz.func148, Tryz.ntmps148
 go_wp2
 refine AnyO.wp_anyI (by kernel_rfl) (by kernel_rfl) (AnyO.InvG (σ := Unit) (fun σ => AnyO.pvL [some (.pointer (some ⟨b, 0, none⟩)), some (.pointer (some ⟨b, 0, none⟩)), some (.pointer (some ⟨b, 2, none⟩)), some (.int .i64 0), some (.bool true), some (.bool true), some (.pointer (some ⟨b, 0, none⟩)), some (.pointer (some ⟨b, 0, none⟩)), some (.pointer (some ⟨b, 1, none⟩)), some (.int .i64 (i : Int)), some (.pointer (some ⟨b, 0, none⟩)), some (.pointer (some ⟨b, 0, none⟩)), some (.pointer (some ⟨b, 0, none⟩)), some (.string s), some (.int .i64 (s.size : Int)), some (.bool true), some (.bool true), some (.bool true), some (.func (.func 154) #[] #[]), some (.pointer (some ⟨b, 0, none⟩)), some (.pointer (some ⟨b, 0, none⟩)), some (.pointer (some ⟨b, 0, none⟩)), some (.string s), some (.pointer (some ⟨b, 0, none⟩)), some (.pointer (some ⟨b, 0, none⟩)), some (.pointer (some ⟨b, 1, none⟩)), some (.int .i64 (i : Int)), some (.int .u8 (c.toNat : Int)), some (.bool r), some (.bool r), some (.bool r)]) (fun _ _ u => Below w.heap.size w u)) (AnyO.InvG.start (g := ()) (below_drew w)) ?_ ?_
 ·intro i hi
  have hi2 : i = 6 ∨ i = 7 ∨ i = 8 ∨ i = 9 ∨ i = 10 ∨ i = 11 ∨ i = 12 ∨ i = 13 ∨ i = 14 ∨ i = 15 ∨ i = 18 ∨ i = 19 ∨ i = 20 ∨ i = 21 ∨ i = 22 ∨ i = 23 ∨ i = 24 ∨ i = 25 ∨ i = 26 ∨ i = 27 ∨ i = 28 ∨ i = 0 ∨ i = 1 ∨ i = 2 ∨ i = 3 ∨ i = 4 ∨ i = 5 ∨ i = 16 ∨ i = 17 ∨ i = 29 ∨ i = 30 := by simp only [List.size_toArray, List.length_cons, List.length_nil] at hi; omega
  clear hi
  rcases hi2 with rfl | rfl | rfl | rfl | rfl | rfl | rfl | rfl | rfl | rfl | rfl | rfl | rfl | rfl | rfl | rfl | rfl | rfl | rfl | rfl | rfl | rfl | rfl | rfl | rfl | rfl | rfl | rfl | rfl | rfl | rfl
  ·refine AnyO.StepI.mk rfl [5] (by kernel_rfl) ?_; rintro D vs u ⟨σ, hP, hW⟩ h0 hC hp ac hb K hK
   have s0 : ac.tmps[0]?.getD undef = .pointer (some ⟨b, 0, none⟩) := by rw [hb]; kernel_rfl
   have s10 := AnyO.slot 10 hb (by kernel_rfl) (hP 5 (hp 5 (by decide)))
   rw [if_pos (AnyO.wanted_some (g := 5) (t := 10) (want := true) rfl rfl s10)]
   clear hb hp
   clear hC h0; have HPW := Lib.hid (And.intro hP hW); clear hP hW; go_simp; exact hK _ _ (AnyO.InvG.step (g := σ) HPW.out.1 rfl HPW.out.2)
  ·refine AnyO.StepI.mk rfl [6, 5] (by kernel_rfl) ?_; rintro D vs u ⟨σ, hP, hW⟩ h0 hC hp ac hb K hK
   have s11 := AnyO.slot 11 hb (by kernel_rfl) (hP 6 (hp 6 (by decide)))
   have s10 := AnyO.slot 10 hb (by kernel_rfl) (hP 5 (hp 5 (by decide)))
   rw [if_pos (AnyO.wanted_some (g := 5) (t := 10) (want := true) rfl rfl s10)]
   clear hb hp
   clear hC h0; have HPW := Lib.hid (And.intro hP hW); clear hP hW; go_simp; exact hK _ _ (AnyO.InvG.step (g := σ) HPW.out.1 rfl HPW.out.2)
  ·refine AnyO.StepI.mk rfl [7, 5] (by kernel_rfl) ?_; rintro D vs u ⟨σ, hP, hW⟩ h0 hC hp ac hb K hK
   have s12 := AnyO.slot 12 hb (by kernel_rfl) (hP 7 (hp 7 (by decide)))
   have s10 := AnyO.slot 10 hb (by kernel_rfl) (hP 5 (hp 5 (by decide)))
   rw [if_pos (AnyO.wanted_some (g := 5) (t := 10) (want := true) rfl rfl s10)]
   clear hb hp
   clear hC h0; have HPW := Lib.hid (And.intro hP hW); clear hP hW; go_simp; exact hK _ _ (AnyO.InvG.step (g := σ) HPW.out.1 rfl HPW.out.2)
  ·refine AnyO.StepI.mk rfl [8, 5] (by kernel_rfl) ?_; rintro D vs u ⟨σ, hP, hW⟩ h0 hC hp ac hb K hK
   have s13 := AnyO.slot 13 hb (by kernel_rfl) (hP 8 (hp 8 (by decide)))
   have s10 := AnyO.slot 10 hb (by kernel_rfl) (hP 5 (hp 5 (by decide)))
   rw [if_pos (AnyO.wanted_some (g := 5) (t := 10) (want := true) rfl rfl s10)]
   clear hb hp
   have rr1 : u.cell? ⟨b, 1, none⟩ = some (.int .i64 (i : Int)) := (Row.keep H.out hW).cell 1
   clear hC h0; have HPW := Lib.hid (And.intro hP hW); clear hP hW; go_simp; exact hK _ _ (AnyO.InvG.step (g := σ) HPW.out.1 rfl HPW.out.2)
  ·refine AnyO.StepI.mk rfl [5] (by kernel_rfl) ?_; rintro D vs u ⟨σ, hP, hW⟩ h0 hC hp ac hb K hK
   have s0 : ac.tmps[0]?.getD undef = .pointer (some ⟨b, 0, none⟩) := by rw [hb]; kernel_rfl
   have s10 := AnyO.slot 10 hb (by kernel_rfl) (hP 5 (hp 5 (by decide)))
   rw [if_pos (AnyO.wanted_some (g := 5) (t := 10) (want := true) rfl rfl s10)]
   clear hb hp
   clear hC h0; have HPW := Lib.hid (And.intro hP hW); clear hP hW; go_simp; exact hK _ _ (AnyO.InvG.step (g := σ) HPW.out.1 rfl HPW.out.2)
  ·refine AnyO.StepI.mk rfl [10, 5] (by kernel_rfl) ?_; rintro D vs u ⟨σ, hP, hW⟩ h0 hC hp ac hb K hK
   have s15 := AnyO.slot 15 hb (by kernel_rfl) (hP 10 (hp 10 (by decide)))
   have s10 := AnyO.slot 10 hb (by kernel_rfl) (hP 5 (hp 5 (by decide)))
   rw [if_pos (AnyO.wanted_some (g := 5) (t := 10) (want := true) rfl rfl s10)]
   clear hb hp
   clear hC h0; have HPW := Lib.hid (And.intro hP hW); clear hP hW; go_simp; exact hK _ _ (AnyO.InvG.step (g := σ) HPW.out.1 rfl HPW.out.2)
  ·refine AnyO.StepI.mk rfl [11, 5] (by kernel_rfl) ?_; rintro D vs u ⟨σ, hP, hW⟩ h0 hC hp ac hb K hK
   have s16 := AnyO.slot 16 hb (by kernel_rfl) (hP 11 (hp 11 (by decide)))
   have s10 := AnyO.slot 10 hb (by kernel_rfl) (hP 5 (hp 5 (by decide)))
   rw [if_pos (AnyO.wanted_some (g := 5) (t := 10) (want := true) rfl rfl s10)]
   clear hb hp
   clear hC h0; have HPW := Lib.hid (And.intro hP hW); clear hP hW; go_simp; exact hK _ _ (AnyO.InvG.step (g := σ) HPW.out.1 rfl HPW.out.2)
  ·refine AnyO.StepI.mk rfl [12, 5] (by kernel_rfl) ?_; rintro D vs u ⟨σ, hP, hW⟩ h0 hC hp ac hb K hK
   have s17 := AnyO.slot 17 hb (by kernel_rfl) (hP 12 (hp 12 (by decide)))
   have s10 := AnyO.slot 10 hb (by kernel_rfl) (hP 5 (hp 5 (by decide)))
   rw [if_pos (AnyO.wanted_some (g := 5) (t := 10) (want := true) rfl rfl s10)]
   clear hb hp
   have rr1 : u.cell? ⟨b, 0, none⟩ = some (.string s) := (Row.keep H.out hW).cell 0
   clear hC h0; have HPW := Lib.hid (And.intro hP hW); clear hP hW; go_simp; exact hK _ _ (AnyO.InvG.step (g := σ) HPW.out.1 rfl HPW.out.2)
  ·refine AnyO.StepI.mk rfl [13, 5] (by kernel_rfl) ?_; rintro D vs u ⟨σ, hP, hW⟩ h0 hC hp ac hb K hK
   have s18 := AnyO.slot 18 hb (by kernel_rfl) (hP 13 (hp 13 (by decide)))
   have s10 := AnyO.slot 10 hb (by kernel_rfl) (hP 5 (hp 5 (by decide)))
   rw [if_pos (AnyO.wanted_some (g := 5) (t := 10) (want := true) rfl rfl s10)]
   clear hb hp
   clear hC h0; have HPW := Lib.hid (And.intro hP hW); clear hP hW; go_simp; exact hK _ _ (AnyO.InvG.step (g := σ) HPW.out.1 rfl HPW.out.2)
  ·refine AnyO.StepI.mk rfl [9, 14, 5] (by kernel_rfl) ?_; rintro D vs u ⟨σ, hP, hW⟩ h0 hC hp ac hb K hK
   have s14 := AnyO.slot 14 hb (by kernel_rfl) (hP 9 (hp 9 (by decide)))
   have s19 := AnyO.slot 19 hb (by kernel_rfl) (hP 14 (hp 14 (by decide)))
   have s10 := AnyO.slot 10 hb (by kernel_rfl) (hP 5 (hp 5 (by decide)))
   rw [if_pos (AnyO.wanted_some (g := 5) (t := 10) (want := true) rfl rfl s10)]
   clear hb hp
   clear hC h0; have HPW := Lib.hid (And.intro hP hW); clear hP hW; go_simp; exact hK _ _ (AnyO.InvG.step (g := σ) HPW.out.1 rfl HPW.out.2)
  ·refine AnyO.StepI.mk rfl [17] (by kernel_rfl) ?_; rintro D vs u ⟨σ, hP, hW⟩ h0 hC hp ac hb K hK
   have s1 : ac.tmps[1]?.getD undef = .func (.func 154) #[] #[] := by rw [hb]; kernel_rfl
   have s22 := AnyO.slot 22 hb (by kernel_rfl) (hP 17 (hp 17 (by decide)))
   rw [if_pos (AnyO.wanted_some (g := 17) (t := 22) (want := true) rfl rfl s22)]
   clear hb hp
   clear hC h0; have HPW := Lib.hid (And.intro hP hW); clear hP hW; go_simp; exact hK _ _ (AnyO.InvG.step (g := σ) HPW.out.1 rfl HPW.out.2)
  ·refine AnyO.StepI.mk rfl [17] (by kernel_rfl) ?_; rintro D vs u ⟨σ, hP, hW⟩ h0 hC hp ac hb K hK
   have s0 : ac.tmps[0]?.getD undef = .pointer (some ⟨b, 0, none⟩) := by rw [hb]; kernel_rfl
   have s22 := AnyO.slot 22 hb (by kernel_rfl) (hP 17 (hp 17 (by decide)))
   rw [if_pos (AnyO.wanted_some (g := 17) (t := 22) (want := true) rfl rfl s22)]
   clear hb hp
   clear hC h0; have HPW := Lib.hid (And.intro hP hW); clear hP hW; go_simp; exact hK _ _ (AnyO.InvG.step (g := σ) HPW.out.1 rfl HPW.out.2)
  ·refine AnyO.StepI.mk rfl [19, 17] (by kernel_rfl) ?_; rintro D vs u ⟨σ, hP, hW⟩ h0 hC hp ac hb K hK
   have s24 := AnyO.slot 24 hb (by kernel_rfl) (hP 19 (hp 19 (by decide)))
   have s22 := AnyO.slot 22 hb (by kernel_rfl) (hP 17 (hp 17 (by decide)))
   rw [if_pos (AnyO.wanted_some (g := 17) (t := 22) (want := true) rfl rfl s22)]
   clear hb hp
   clear hC h0; have HPW := Lib.hid (And.intro hP hW); clear hP hW; go_simp; exact hK _ _ (AnyO.InvG.step (g := σ) HPW.out.1 rfl HPW.out.2)
  ·refine AnyO.StepI.mk rfl [20, 17] (by kernel_rfl) ?_; rintro D vs u ⟨σ, hP, hW⟩ h0 hC hp ac hb K hK
   have s25 := AnyO.slot 25 hb (by kernel_rfl) (hP 20 (hp 20 (by decide)))
   have s22 := AnyO.slot 22 hb (by kernel_rfl) (hP 17 (hp 17 (by decide)))
   rw [if_pos (AnyO.wanted_some (g := 17) (t := 22) (want := true) rfl rfl s22)]
   clear hb hp
   clear hC h0; have HPW := Lib.hid (And.intro hP hW); clear hP hW; go_simp; exact hK _ _ (AnyO.InvG.step (g := σ) HPW.out.1 rfl HPW.out.2)
  ·refine AnyO.StepI.mk rfl [21, 17] (by kernel_rfl) ?_; rintro D vs u ⟨σ, hP, hW⟩ h0 hC hp ac hb K hK
   have s26 := AnyO.slot 26 hb (by kernel_rfl) (hP 21 (hp 21 (by decide)))
   have s22 := AnyO.slot 22 hb (by kernel_rfl) (hP 17 (hp 17 (by decide)))
   rw [if_pos (AnyO.wanted_some (g := 17) (t := 22) (want := true) rfl rfl s22)]
   clear hb hp
   have rr1 : u.cell? ⟨b, 0, none⟩ = some (.string s) := (Row.keep H.out hW).cell 0
   clear hC h0; have HPW := Lib.hid (And.intro hP hW); clear hP hW; go_simp; exact hK _ _ (AnyO.InvG.step (g := σ) HPW.out.1 rfl HPW.out.2)
  ·refine AnyO.StepI.mk rfl [17] (by kernel_rfl) ?_; rintro D vs u ⟨σ, hP, hW⟩ h0 hC hp ac hb K hK
   have s0 : ac.tmps[0]?.getD undef = .pointer (some ⟨b, 0, none⟩) := by rw [hb]; kernel_rfl
   have s22 := AnyO.slot 22 hb (by kernel_rfl) (hP 17 (hp 17 (by decide)))
   rw [if_pos (AnyO.wanted_some (g := 17) (t := 22) (want := true) rfl rfl s22)]
   clear hb hp
   clear hC h0; have HPW := Lib.hid (And.intro hP hW); clear hP hW; go_simp; exact hK _ _ (AnyO.InvG.step (g := σ) HPW.out.1 rfl HPW.out.2)
  ·refine AnyO.StepI.mk rfl [23, 17] (by kernel_rfl) ?_; rintro D vs u ⟨σ, hP, hW⟩ h0 hC hp ac hb K hK
   have s28 := AnyO.slot 28 hb (by kernel_rfl) (hP 23 (hp 23 (by decide)))
   have s22 := AnyO.slot 22 hb (by kernel_rfl) (hP 17 (hp 17 (by decide)))
   rw [if_pos (AnyO.wanted_some (g := 17) (t := 22) (want := true) rfl rfl s22)]
   clear hb hp
   clear hC h0; have HPW := Lib.hid (And.intro hP hW); clear hP hW; go_simp; exact hK _ _ (AnyO.InvG.step (g := σ) HPW.out.1 rfl HPW.out.2)
  ·refine AnyO.StepI.mk rfl [24, 17] (by kernel_rfl) ?_; rintro D vs u ⟨σ, hP, hW⟩ h0 hC hp ac hb K hK
   have s29 := AnyO.slot 29 hb (by kernel_rfl) (hP 24 (hp 24 (by decide)))
   have s22 := AnyO.slot 22 hb (by kernel_rfl) (hP 17 (hp 17 (by decide)))
   rw [if_pos (AnyO.wanted_some (g := 17) (t := 22) (want := true) rfl rfl s22)]
   clear hb hp
   clear hC h0; have HPW := Lib.hid (And.intro hP hW); clear hP hW; go_simp; exact hK _ _ (AnyO.InvG.step (g := σ) HPW.out.1 rfl HPW.out.2)
  ·refine AnyO.StepI.mk rfl [25, 17] (by kernel_rfl) ?_; rintro D vs u ⟨σ, hP, hW⟩ h0 hC hp ac hb K hK
   have s30 := AnyO.slot 30 hb (by kernel_rfl) (hP 25 (hp 25 (by decide)))
   have s22 := AnyO.slot 22 hb (by kernel_rfl) (hP 17 (hp 17 (by decide)))
   rw [if_pos (AnyO.wanted_some (g := 17) (t := 22) (want := true) rfl rfl s22)]
   clear hb hp
   have rr1 : u.cell? ⟨b, 1, none⟩ = some (.int .i64 (i : Int)) := (Row.keep H.out hW).cell 1
   clear hC h0; have HPW := Lib.hid (And.intro hP hW); clear hP hW; go_simp; exact hK _ _ (AnyO.InvG.step (g := σ) HPW.out.1 rfl HPW.out.2)
  ·refine AnyO.StepI.mk rfl [22, 26, 17] (by kernel_rfl) ?_; rintro D vs u ⟨σ, hP, hW⟩ h0 hC hp ac hb K hK
   have s27 := AnyO.slot 27 hb (by kernel_rfl) (hP 22 (hp 22 (by decide)))
   have s31 := AnyO.slot 31 hb (by kernel_rfl) (hP 26 (hp 26 (by decide)))
   have s22 := AnyO.slot 22 hb (by kernel_rfl) (hP 17 (hp 17 (by decide)))
   rw [if_pos (AnyO.wanted_some (g := 17) (t := 22) (want := true) rfl rfl s22)]
   clear hb hp
   have rr1 := HC.out
   clear hC h0; have HPW := Lib.hid (And.intro hP hW); clear hP hW; go_simp; exact hK _ _ (AnyO.InvG.step (g := σ) HPW.out.1 rfl HPW.out.2)
  ·refine AnyO.StepI.mk rfl [18, 27, 17, 17] (by kernel_rfl) ?_; rintro D vs u ⟨σ, hP, hW⟩ h0 hC hp ac hb K hK
   have s23 := AnyO.slot 23 hb (by kernel_rfl) (hP 18 (hp 18 (by decide)))
   have s32 := AnyO.slot 32 hb (by kernel_rfl) (hP 27 (hp 27 (by decide)))
   have s22 := AnyO.slot 22 hb (by kernel_rfl) (hP 17 (hp 17 (by decide)))
   rw [if_pos (AnyO.wanted_some (g := 17) (t := 22) (want := true) rfl rfl s22)]
   clear hb hp
   clear hC h0; have HPW := Lib.hid (And.intro hP hW); clear hP hW; go_simp; obtain ⟨hP, hW⟩ := HPW.out
   go_at_call 154
   refine (dBlank154 c _).mono ?_
   rintro e w2 ⟨rfl, rfl⟩
   rw [HR.out]
   exact hK _ _ (AnyO.InvG.step (g := σ) hP rfl hW)
  all_goals
   refine AnyO.J rfl ?_; rintro D vs u σ Q h0 hC hp ac hb K hK
   try have s0 : ac.tmps[0]?.getD undef = .pointer (some ⟨b, 0, none⟩) := by rw [hb.out]; kernel_rfl
   try have s5 : _ = _ := AnyO.sv 5 0 hb hp Q
   try have s6 : _ = _ := AnyO.sv 6 1 hb hp Q
   try have s7 : _ = _ := AnyO.sv 7 2 hb hp Q
   try have s8 : _ = _ := AnyO.sv 8 3 hb hp Q
   try have s9 : _ = _ := AnyO.sv 9 4 hb hp Q
   try have s10 : _ = _ := AnyO.sv 10 5 hb hp Q
   try have s20 : _ = _ := AnyO.sv 20 15 hb hp Q
   try have s21 : _ = _ := AnyO.sv 21 16 hb hp Q
   try have s22 : _ = _ := AnyO.sv 22 17 hb hp Q
   try have s33 : _ = _ := AnyO.sv 33 28 hb hp Q
   try have s34 : _ = _ := AnyO.sv 34 29 hb hp Q
   have rr1 : u.cell? ⟨b, 2, none⟩ = some (.int .i64 0) := (Row.keep H.out Q.out.2).cell 2
   go_simp
   exact hK _ _ (AnyO.InvG.step (g := σ) Q.out.1 rfl Q.out.2)
 ·intro D vs u hI hD
  obtain ⟨σ, hP, hW⟩ := hI
  have e0 : _ = _ := hP 0 (hD 0 (by decide))
  have e1 : _ = _ := hP 1 (hD 1 (by decide))
  have e2 : _ = _ := hP 2 (hD 2 (by decide))
  have e3 : _ = _ := hP 3 (hD 3 (by decide))
  have e4 : _ = _ := hP 4 (hD 4 (by decide))
  have e5 : _ = _ := hP 5 (hD 5 (by decide))
  have e6 : _ = _ := hP 6 (hD 6 (by decide))
  have e7 : _ = _ := hP 7 (hD 7 (by decide))
  have e8 : _ = _ := hP 8 (hD 8 (by decide))
  have e9 : _ = _ := hP 9 (hD 9 (by decide))
  have e10 : _ = _ := hP 10 (hD 10 (by decide))
  have e11 : _ = _ := hP 11 (hD 11 (by decide))
  have e12 : _ = _ := hP 12 (hD 12 (by decide))
  have e13 : _ = _ := hP 13 (hD 13 (by decide))
  have e14 : _ = _ := hP 14 (hD 14 (by decide))
  have e15 : _ = _ := hP 15 (hD 15 (by decide))
  have e16 : _ = _ := hP 16 (hD 16 (by decide))
  have e17 : _ = _ := hP 17 (hD 17 (by decide))
  have e18 : _ = _ := hP 18 (hD 18 (by decide))
  have e19 : _ = _ := hP 19 (hD 19 (by decide))
  have e20 : _ = _ := hP 20 (hD 20 (by decide))
  have e21 : _ = _ := hP 21 (hD 21 (by decide))
  have e22 : _ = _ := hP 22 (hD 22 (by decide))
  have e23 : _ = _ := hP 23 (hD 23 (by decide))
  have e24 : _ = _ := hP 24 (hD 24 (by decide))
  have e25 : _ = _ := hP 25 (hD 25 (by decide))
  have e26 : _ = _ := hP 26 (hD 26 (by decide))
  have e27 : _ = _ := hP 27 (hD 27 (by decide))
  have e28 : _ = _ := hP 28 (hD 28 (by decide))
  have e29 : _ = _ := hP 29 (hD 29 (by decide))
  have e30 : _ = _ := hP 30 (hD 30 (by decide))
  have HW := Lib.hid hW
  clear hW hP hD
  rw [puts_range [some 5, some 6, some 7, some 8, some 9, some 10, some 11, some 12, some 13, some 14, some 15, some 16, some 17, some 18, some 19, some 20, some 21, some 22, some 23, some 24, some 25, some 26, some 27, some 28, some 29, some 30, some 31, some 32, some 33, some 34, some 4] (by kernel_rfl)]
  simp only [putL, Nat.reduceAdd, e0, e1, e2, e3, e4, e5, e6, e7, e8, e9, e10, e11, e12, e13, e14, e15, e16, e17, e18, e19, e20, e21, e22, e23, e24, e25, e26, e27, e28, e29, e30]
  clear e0 e1 e2 e3 e4 e5 e6 e7 e8 e9 e10 e11 e12 e13 e14 e15 e16 e17 e18 e19 e20 e21 e22 e23 e24 e25 e26 e27 e28 e29 e30
  go_simp
  go_wp2
  go_ret
  exact ⟨rfl, HW.out⟩
end
end Go.Proofs.YtibelollgdnidaaGreatDoor
