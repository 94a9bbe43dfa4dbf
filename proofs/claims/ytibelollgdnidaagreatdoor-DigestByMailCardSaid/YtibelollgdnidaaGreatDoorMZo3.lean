/- date: the zones that have names; the zone +0000. -/
import Derived.Test.YtibelollgdnidaaGreatDoorMMps
namespace Go.Proofs.YtibelollgdnidaaGreatDoor
open Go.RowKit
theorem underZ : Tryz.prog.underlying 217 = some (.map 9 3) := by kernel_rfl
set_option maxRecDepth 100000 in
theorem zones198 (w : World) : Calls Tryz.prog 198 #[] w fun e w' => ∃ f, e = .returned (.map (some w.heap.size)) ∧ SM w' w.heap.size f ∧ f ⟨#[43, 48, 48, 48, 48]⟩ = none ∧ Below w.heap.size w w' := by
 have h0 := SM.made w
 have e0 : (Instr.makeMap 217 none).run Tryz.prog w = .ok (.map (some w.heap.size)) (w.alloc (.map #[] 0)) := rfl
 obtain ⟨g, hg⟩ : ∃ g, w.heap.size = g := ⟨_, rfl⟩
 obtain ⟨W0, hW0⟩ : ∃ W0, w.alloc (.map #[] 0) = W0 := ⟨_, rfl⟩
 have hb0 : Below w.heap.size w W0 := by rw [← hW0]; exact below_alloc _ _
 rw [hW0] at h0 e0
 rw [hg] at h0 e0
 obtain ⟨W1, e1, h1, o1⟩ := h0.put underZ ⟨#[85, 84]⟩ (by simp) (.int .i64 (0))
 obtain ⟨W2, e2, h2, o2⟩ := h1.put underZ ⟨#[85, 84, 67]⟩ (by simp) (.int .i64 (0))
 replace o2 := o1.trans o2
 obtain ⟨W3, e3, h3, o3⟩ := h2.put underZ ⟨#[71, 77, 84]⟩ (by simp) (.int .i64 (0))
 replace o3 := o2.trans o3
 obtain ⟨W4, e4, h4, o4⟩ := h3.put underZ ⟨#[90]⟩ (by simp) (.int .i64 (0))
 replace o4 := o3.trans o4
 obtain ⟨W5, e5, h5, o5⟩ := h4.put underZ ⟨#[69, 83, 84]⟩ (by simp) (.int .i64 (-300))
 replace o5 := o4.trans o5
 obtain ⟨W6, e6, h6, o6⟩ := h5.put underZ ⟨#[69, 68, 84]⟩ (by simp) (.int .i64 (-240))
 replace o6 := o5.trans o6
 obtain ⟨W7, e7, h7, o7⟩ := h6.put underZ ⟨#[67, 83, 84]⟩ (by simp) (.int .i64 (-360))
 replace o7 := o6.trans o7
 obtain ⟨W8, e8, h8, o8⟩ := h7.put underZ ⟨#[67, 68, 84]⟩ (by simp) (.int .i64 (-300))
 replace o8 := o7.trans o8
 obtain ⟨W9, e9, h9, o9⟩ := h8.put underZ ⟨#[77, 83, 84]⟩ (by simp) (.int .i64 (-420))
 replace o9 := o8.trans o9
 obtain ⟨W10, e10, h10, o10⟩ := h9.put underZ ⟨#[77, 68, 84]⟩ (by simp) (.int .i64 (-360))
 replace o10 := o9.trans o10
 obtain ⟨W11, e11, h11, o11⟩ := h10.put underZ ⟨#[80, 83, 84]⟩ (by simp) (.int .i64 (-480))
 replace o11 := o10.trans o11
 obtain ⟨W12, e12, h12, o12⟩ := h11.put underZ ⟨#[80, 68, 84]⟩ (by simp) (.int .i64 (-420))
 replace o12 := o11.trans o12
 have HF := Lib.hid (And.intro h12 (And.intro hb0 (And.intro o12 hg)))
 clear h0 h1 h2 h3 h4 h5 h6 h7 h8 h9 h10 h11 h12 hb0 hW0
 rw [hg]
 clear hg
 go_enter Tryz.func198, Tryz.ntmps198
 go_wp2
 go_ret
 refine ⟨_, rfl, HF.out.1, by simp, ?_⟩
 have := HF.out.2.1.trans (HF.out.2.2.1.below (Nat.le_of_eq HF.out.2.2.2) HF.out.2.1.size)
 first | exact this | (rw [← HF.out.2.2.2]; exact this)
open Go.RowKit
def z5 : ByteArray := ⟨#[43, 48, 48, 48, 48]⟩
theorem z5_cap : (⟨(capL (bl z5)).toArray⟩ : ByteArray) = z5 := by decide +kernel
theorem z5_d1 : DgAt z5 1 2 := ⟨by decide, fun j hj h1 h2 => by
 rcases (show j = 1 ∨ j = 2 by omega) with rfl | rfl
 ·exact (show dgC (z5[1]'(by decide)) = true by decide)
 ·exact (show dgC (z5[2]'(by decide)) = true by decide)⟩
theorem z5_d3 : DgAt z5 3 2 := ⟨by decide, fun j hj h1 h2 => by
 rcases (show j = 3 ∨ j = 4 by omega) with rfl | rfl
 ·exact (show dgC (z5[3]'(by decide)) = true by decide)
 ·exact (show dgC (z5[4]'(by decide)) = true by decide)⟩
theorem z5_v3 : valD z5 3 2 = 0 := by decide +kernel
theorem z5_43 : ((z5[0]'(by decide)).toNat : Int) = 43 := rfl
theorem z5_v : valD z5 1 2 = 0 := by decide +kernel
set_option maxRecDepth 100000 in
theorem zone185 (w : World) : Calls Tryz.prog 185 #[.string z5] w fun e w' => e = .returned (.tuple #[.int .i64 0, .int .i64 0]) ∧ Below w.heap.size w w' := by
 have hsz : z5.size = 5 := rfl
 have h43 := z5_43
 go_enter Tryz.func185, Tryz.ntmps185
 go_wp2_with (first
  | (go_at_call 198; refine (zones198 _).mono ?_; rintro e w2 ⟨f, rfl, hm, hf, hb2⟩; obtain ⟨g, hg⟩ : ∃ g, w.heap.size = g := ⟨_, rfl⟩; rw [hg] at hm ⊢; have H2 := Lib.hid (And.intro hm (And.intro hf (And.intro hb2 hg))); clear hm hf hb2 hg)
  | (go_at_call 181; refine (capital181 z5 (by decide) w2).mono ?_; rintro e w3 ⟨rfl, hb3⟩; rw [z5_cap]; have hlk := (SM.keep H2.out.1 hb3).look_none underZ (.int .i64 0) (by kernel_rfl) z5 H2.out.2.1; have H3 := Lib.hid (Below.step H2.out.2.2.1 hb3); clear hb3)
  | (go_at_call 155; refine (number155 (w3.alloc (Obj.cells #[.string z5, .int .i64 1, .int .i64 0] 143)) w3.heap.size z5 1 2 0 (Row.new w3 _ _) z5_d1 (by decide) (by decide)).mono ?_; rintro e w4 ⟨rfl, h4, ho4⟩; have H4 := Lib.hid (And.intro h4 (Below.trans (Below.step H3.out (below_alloc w3 (Obj.cells #[.string z5, .int .i64 1, .int .i64 0] 143))) (ho4.below H3.out.size (Below.step H3.out (below_alloc _ _)).size))); clear h4 ho4)
  | (go_at_call 155; refine (number155 w4 w3.heap.size z5 3 2 0 H4.out.1 z5_d3 (by decide) (by decide)).mono ?_; rintro e w5 ⟨rfl, h5, ho5⟩; have k2 : w5.cell? ⟨w3.heap.size, 2, none⟩ = some (.int .i64 0) := h5.cell 2; rw [z5_v, z5_v3]; have H5 := Lib.hid (Below.trans H4.out.2 (ho5.below H3.out.size H4.out.2.size)); clear h5 ho5))
 go_ret2
 exact ⟨rfl, H5.out⟩
open Go.RowKit
set_option maxRecDepth 100000 in
theorem zone157 (w : World) (b : Nat) (s : ByteArray) (i : Nat) (h : ScR w b s i) (hi : i < s.size) (hs : s.size ≤ 1000) (hz : s.extract i s.size = z5) : Calls Tryz.prog 157 #[.pointer (some ⟨b, 0, none⟩)] w fun e w' => e = .returned (.int .i64 0) ∧ ScR w' b s i ∧ One b w w' := by
 have H := Lib.hid h
 have HX := Lib.hid hz
 have c0 : ∀ m, (w.drewN m).cell? ⟨b, 0, none⟩ = some (.string s) := fun m => (Row.keep h (below_drewN w m)).cell 0
 have c1 : ∀ m, (w.drewN m).cell? ⟨b, 1, none⟩ = some (.int .i64 (i : Int)) := fun m => (Row.keep h (below_drewN w m)).cell 1
 have c2 : w.cell? ⟨b, 2, none⟩ = some (.int .i64 0) := h.cell 2
 have hne : ((i : Int) == (s.size : Int)) = false := by rw [beq_eq_false_iff_ne]; omega
 have hi1 : (i : Int) ≤ 1000 := by omega
 have hsz : (s.size : Int) ≤ 1000 := by omega
 have hi4 : (i : Int) ≤ (s.size : Int) := by omega
 clear h hz
 go_enter Tryz.func157, Tryz.ntmps157
 go_wp2
 go_quiet (fail)
 obtain ⟨W2, hW2⟩ : ∃ W2, w.drewN nq = W2 := ⟨_, rfl⟩
 have hb2 : Below w.heap.size w W2 := by rw [← hW2]; exact below_drewN _ _
 have R2 := Lib.hid (Row.keep H.out hb2)
 have HB2 := Lib.hid hb2
 rw [hW2]
 clear hW2 hb2 c0 c1 c2
 go_wp2
 refine AnyO.wp_anyI (by kernel_rfl) (by kernel_rfl) (AnyO.InvG (σ := Unit) (fun σ => AnyO.pvL [some (.pointer (some ⟨b, 0, none⟩)), some (.pointer (some ⟨b, 0, none⟩)), some (.pointer (some ⟨b, 0, none⟩)), some (.string s), some (.pointer (some ⟨b, 0, none⟩)), some (.pointer (some ⟨b, 0, none⟩)), some (.pointer (some ⟨b, 1, none⟩)), some (.int .i64 (i : Int)), some (.string z5), some (.tuple #[.int .i64 0, .int .i64 0]), some (.tuple #[.int .i64 0, .int .i64 0]), some (.int .i64 0), some (.int .i64 0), some (.int .i64 0), some (.int .i64 0)]) (fun _ _ u => Below W2.heap.size W2 u)) (AnyO.InvG.start (g := ()) (below_drew W2)) ?_ ?_
 ·intro i hi
  have hi2 : i = 9 ∨ i = 0 ∨ i = 1 ∨ i = 2 ∨ i = 3 ∨ i = 4 ∨ i = 5 ∨ i = 6 ∨ i = 7 ∨ i = 8 ∨ i = 10 ∨ i = 11 ∨ i = 12 ∨ i = 13 ∨ i = 14 := by simp only [List.size_toArray, List.length_cons, List.length_nil] at hi; omega
  clear hi
  rcases hi2 with rfl | rfl | rfl | rfl | rfl | rfl | rfl | rfl | rfl | rfl | rfl | rfl | rfl | rfl | rfl
  ·refine AnyO.I rfl [8] ?_; rintro D vs u σ Q h0 hC hp ac hb K hK
   have s35 : _ = _ := AnyO.sv 35 8 hb hp Q
   go_simp
   go_at_call 185
   refine (zone185 u).mono ?_
   rintro e w2 ⟨rfl, hb2⟩
   exact hK _ _ (AnyO.InvG.step (g := σ) Q.out.1 rfl (Below.step Q.out.2 hb2))
  all_goals
   refine AnyO.J rfl ?_; rintro D vs u σ Q h0 hC hp ac hb K hK
   try have s0 : ac.tmps[0]?.getD undef = .pointer (some ⟨b, 0, none⟩) := by rw [hb.out]; kernel_rfl
   try have s27 : _ = _ := AnyO.sv 27 0 hb hp Q
   try have s28 : _ = _ := AnyO.sv 28 1 hb hp Q
   try have s29 : _ = _ := AnyO.sv 29 2 hb hp Q
   try have s31 : _ = _ := AnyO.sv 31 4 hb hp Q
   try have s32 : _ = _ := AnyO.sv 32 5 hb hp Q
   try have s33 : _ = _ := AnyO.sv 33 6 hb hp Q
   try have s30 : _ = _ := AnyO.sv 30 3 hb hp Q
   try have s34 : _ = _ := AnyO.sv 34 7 hb hp Q
   try have s36 : _ = _ := AnyO.sv 36 9 hb hp Q
   try have s26 : _ = _ := AnyO.sv 26 10 hb hp Q
   try have s37 : _ = _ := AnyO.sv 37 11 hb hp Q
   try have s38 : _ = _ := AnyO.sv 38 12 hb hp Q
   have rr1_0 : u.cell? ⟨b, 0, none⟩ = some (.string s) := (Row.keep R2.out Q.out.2).cell 0
   have rr1_1 : u.cell? ⟨b, 1, none⟩ = some (.int .i64 (i : Int)) := (Row.keep R2.out Q.out.2).cell 1
   have rr1_2 := HX.out
   go_simp
   exact hK _ _ (AnyO.InvG.step (g := σ) Q.out.1 rfl Q.out.2)
 ·intro D vs u hI hD
  obtain ⟨σ, hP, hW⟩ := hI
  have e0 : _ = _ := hP 0 (hD 0 (by decide))
  have e1 : _ = _ := hP 1 (hD 1 (by decide))
  have e2 : _ = _ := hP 2 (hD 2 (by decide))
  have e3 : _ = _ := hP 3 (hD 3 (by decide))
  have e4 : _ = _ := hP 4 (hD 4 (by decide))
  have e5 : _ = _ := hP 5 (hD 5 (by decide))
  have e6 : _ = _ := hP 6 (hD 6 (by decide))
  have e7 : _ = _ := hP 7 (hD 7 (by decide))
  have e8 : _ = _ := hP 8 (hD 8 (by decide))
  have e9 : _ = _ := hP 9 (hD 9 (by decide))
  have e10 : _ = _ := hP 10 (hD 10 (by decide))
  have e11 : _ = _ := hP 11 (hD 11 (by decide))
  have e12 : _ = _ := hP 12 (hD 12 (by decide))
  have e13 : _ = _ := hP 13 (hD 13 (by decide))
  have e14 : _ = _ := hP 14 (hD 14 (by decide))
  have HW := Lib.hid hW
  clear hW hP hD
  rw [puts_range [some 27, some 28, some 29, some 30, some 31, some 32, some 33, some 34, some 35, some 36, some 26, some 37, some 38, some 3, some 4] (by kernel_rfl)]
  simp only [putL, Nat.reduceAdd, e0, e1, e2, e3, e4, e5, e6, e7, e8, e9, e10, e11, e12, e13, e14]
  clear e0 e1 e2 e3 e4 e5 e6 e7 e8 e9 e10 e11 e12 e13 e14
  go_simp
  go_wp2
  go_ret
  exact ⟨rfl, Row.keep R2.out HW.out, One.of_below (Below.step HB2.out HW.out)⟩
end Go.Proofs.YtibelollgdnidaaGreatDoor
