/- date: the scanner: a name of three letters. -/
import Derived.Test.YtibelollgdnidaaGreatDoorMDs3
import Derived.MapKept
namespace Go.Proofs.YtibelollgdnidaaGreatDoor
open Go.RowKit
def cS (s : ByteArray) : List Value := [.string s]
theorem cS_length (s : ByteArray) : (cS s).length = 1 := rfl
theorem Sl.ts {w : World} {A : Option Addr} {xs : List ByteArray} (h : Sl w cS A xs) {k : Nat} (hk : k < xs.length) : ∃ ad, A = some ad ∧ w.cell? (ad.add k) = some (.string xs[k]) := by
 obtain ⟨ad, e, hat⟩ := Sl.at_ cS_length h hk
 refine ⟨ad, e, ?_⟩
 have := hat.2 0 _ rfl
 rwa [add_of_add, Nat.mul_one, Nat.add_zero] at this
section
set_option maxRecDepth 100000
theorem name182 (x z : ByteArray) (g : Nat) (hx : x.size ≤ 1000) (w : World) (hz : w.cell? ⟨g, 0, none⟩ = some (.string z)) : Calls Tryz.prog 182 #[.string x, .pointer (some ⟨g, 0, none⟩)] w fun e w' => e = .returned (.bool (decide (capL (bl x) = bl z))) ∧ Below w.heap.size w w' := by
 obtain ⟨y, hy⟩ : ∃ y : ByteArray, ⟨(capL (bl x)).toArray⟩ = y := ⟨_, rfl⟩
 obtain ⟨r, hr⟩ : ∃ r, decide (capL (bl x) = bl z) = r := ⟨_, rfl⟩
 have hyz : (y.toList == z.toList) = r := by
  rw [← hr, ← hy, ByteArray.toList_eq, ByteArray.toList_eq]
  by_cases h : capL (bl x) = bl z
  ·rw [decide_eq_true h, beq_iff_eq]
   exact h
  ·rw [decide_eq_false h, beq_eq_false_iff_ne]
   exact h
 have HY := Lib.hid (And.intro hy (And.intro hyz hz))
 rw [hr]
 clear hy hyz hz hr
 go_enter Tryz.func182, Tryz.ntmps182
 go_wp2
 refine AnyO.wp_anyI (by kernel_rfl) (by kernel_rfl) (AnyO.InvG (σ := Unit) (fun σ => AnyO.pvL [some (.string x), some (.string y), some (.string z), some (.bool r), some (.bool r)]) (fun _ _ u => Below w.heap.size w u)) (AnyO.InvG.start (g := ()) (below_drew w)) ?_ ?_
 ·intro i hi
  have hi2 : i = 1 ∨ i = 0 ∨ i = 2 ∨ i = 3 ∨ i = 4 := by simp only [List.size_toArray, List.length_cons, List.length_nil] at hi; omega
  clear hi
  rcases hi2 with rfl | rfl | rfl | rfl | rfl
  ·refine AnyO.I rfl [0] ?_; rintro D vs u σ Q h0 hC hp ac hb K hK
   have s4 : _ = _ := AnyO.sv 4 0 hb hp Q
   go_simp
   go_at_call 181
   refine (capital181 x hx u).mono ?_
   rintro e w2 ⟨rfl, hb2⟩
   rw [HY.out.1]
   exact hK _ _ (AnyO.InvG.step (g := σ) Q.out.1 rfl (Below.step Q.out.2 hb2))
  all_goals
   refine AnyO.J rfl ?_; rintro D vs u σ Q h0 hC hp ac hb K hK
   try have s0 : ac.tmps[0]?.getD undef = .string x := by rw [hb.out]; kernel_rfl
   try have s1 : ac.tmps[1]?.getD undef = .pointer (some ⟨g, 0, none⟩) := by rw [hb.out]; kernel_rfl
   try have s5 : _ = _ := AnyO.sv 5 1 hb hp Q
   try have s6 : _ = _ := AnyO.sv 6 2 hb hp Q
   try have s7 : _ = _ := AnyO.sv 7 3 hb hp Q
   have rr1_0 : u.cell? ⟨g, 0, none⟩ = some (.string z) := cell_below HY.out.2.2 Q.out.2
   have rr1_1 := HY.out.2.1
   go_simp
   exact hK _ _ (AnyO.InvG.step (g := σ) Q.out.1 rfl Q.out.2)
 ·intro D vs u hI hD
  obtain ⟨σ, hP, hW⟩ := hI
  have e0 : _ = _ := hP 0 (hD 0 (by decide))
  have e1 : _ = _ := hP 1 (hD 1 (by decide))
  have e2 : _ = _ := hP 2 (hD 2 (by decide))
  have e3 : _ = _ := hP 3 (hD 3 (by decide))
  have e4 : _ = _ := hP 4 (hD 4 (by decide))
  have HW := Lib.hid hW
  clear hW hP hD
  rw [puts_range [some 4, some 5, some 6, some 7, some 3] (by kernel_rfl)]
  simp only [putL, Nat.reduceAdd, e0, e1, e2, e3, e4]
  clear e0 e1 e2 e3 e4
  go_simp
  go_wp2
  go_ret
  exact ⟨rfl, HW.out⟩
theorem indexFunc169 (A : Option Addr) (c : Nat) (xs : List ByteArray) (z : ByteArray) (g q : Nat) (w : World) (hs : Sl w cS A xs) (hc : xs.length ≤ c) (hl : xs.length ≤ 100) (hx : ∀ x ∈ xs, x.size ≤ 1000) (hz : w.cell? ⟨g, 0, none⟩ = some (.string z)) (hq : q < xs.length) (hy : capL (bl xs[q]) = bl z) (hn : ∀ j (hj : j < xs.length), j < q → capL (bl xs[j]) ≠ bl z) :
  Calls Tryz.prog 169 #[.slice A xs.length c, .func (.func 182) #[] #[.pointer (some ⟨g, 0, none⟩)]] w fun e w' => e = .returned (.int .i64 (q : Int)) ∧ Below w.heap.size w w' := by
 obtain ⟨n, hN⟩ : ∃ n, xs.length = n := ⟨_, rfl⟩
 have H := Lib.hid (And.intro hs (And.intro hx (And.intro hz (And.intro hn hN))))
 have HQ := Lib.hid (show ∀ h : q < xs.length, capL (bl xs[q]) = bl z from fun _ => hy)
 rw [hN] at hc hl hq ⊢
 clear hs hx hz hy hn hN
 go_enter Tryz.func169, Tryz.ntmps169
 go_wp2
 go_loopw [5, 8] (fun _ i wr => ∃ k : Nat, k ≤ q ∧ i = .int .i64 (k : Int) ∧ Below w.heap.size w wr) (fun _ i _ => q + 1 - (intOf i).toNat)
 case atStart => exact ⟨0, Nat.zero_le _, rfl, Below.refl _ _⟩
 case round =>
  obtain ⟨k, hk, rfl, hb⟩ := hrel
  have HB := Lib.hid hb
  have hki : (k : Int) < (n : Int) := by omega
  have hkl : k < xs.length := by rw [H.out.2.2.2.2]; omega
  obtain ⟨ad, rfl, hcl0⟩ := Sl.ts (H.out.1.keep hb) hkl
  obtain ⟨x, hxe⟩ : ∃ x : ByteArray, xs[k]'hkl = x := ⟨_, rfl⟩
  have hcl : wr.cell? (ad.add k) = some (.string x) := by
   rw [← hxe]
   exact hcl0
  have HX := Lib.hid (And.intro hxe (H.out.2.1 x (by rw [← hxe]; exact List.getElem_mem _)))
  have hkb : k ≤ 100 := by omega
  have hkc : (k : Int) + 1 ≤ (c : Int) := by omega
  clear hb hcl0 hxe
  by_cases hkq : k < q
  ·have HD := Lib.hid (show decide (capL (bl x) = bl z) = false from decide_eq_false (by rw [← HX.out.1]; exact H.out.2.2.2.1 k hkl hkq))
   go_wp2_with (go_at_call 182; refine (name182 x z g HX.out.2 wr (cell_below H.out.2.2.1 HB.out)).mono ?_; rintro e w2 ⟨rfl, hb2⟩; rw [HD.out]; have H2 := Lib.hid (Below.step HB.out hb2); clear hb2)
   go_roundw
   case rel => exact ⟨k + 1, hkq, by go_num, H2.out⟩
   case measure => simp [intOf]; omega
  ·obtain rfl : k = q := by omega
   have HD := Lib.hid (show decide (capL (bl x) = bl z) = true from decide_eq_true (by rw [← HX.out.1]; exact HQ.out hkl))
   go_wp2_with (go_at_call 182; refine (name182 x z g HX.out.2 wr (cell_below H.out.2.2.1 HB.out)).mono ?_; rintro e w2 ⟨rfl, hb2⟩; rw [HD.out]; have H2 := Lib.hid (Below.step HB.out hb2); clear hb2)
   go_ret
   exact ⟨rfl, H2.out⟩
end
open Go.RowKit
theorem wrap3 (i : Nat) (h : i ≤ 1000) : IntKind.i64.wrap ((i : Int) + 3) = (i : Int) + 3 := by
 simp [IntKind.wrap, IntKind.bits, IntKind.signed]
 omega
def BxW (w : World) (y : ByteArray) (g : Nat) : Bool → Bool → World → Prop
 | false, _, u => Below w.heap.size w u
 | true, false, u => Below w.heap.size w u ∧ w.heap.size ≤ g ∧ Row u g [.string ⟨#[]⟩] 9
 | true, true, u => Below w.heap.size w u ∧ w.heap.size ≤ g ∧ Row u g [.string y] 9
section
variable {w u u' : World} {y : ByteArray} {g : Nat} {a b : Bool}
theorem BxW.start (h : Below w.heap.size w u) : BxW w y g false b u := h
theorem BxW.bl (h : BxW w y g a b u) : Below w.heap.size w u := by
 cases a with
 | false => exact h
 | true => cases b with
  | false => exact h.1
  | true => exact h.1
theorem BxW.keep (h : BxW w y g a b u) (hb : Below u.heap.size u u') : BxW w y g a b u' := by
 cases a with
 | false => exact Below.step h hb
 | true => cases b with
  | false => exact ⟨Below.step h.1 hb, h.2.1, h.2.2.keep hb⟩
  | true => exact ⟨Below.step h.1 hb, h.2.1, h.2.2.keep hb⟩
theorem BxW.made (h : BxW w y g false false u) : BxW w y u.heap.size true false (u.alloc (Obj.cells #[.string ⟨#[]⟩] 9)) :=
 ⟨Below.step h (below_alloc _ _), (show Below w.heap.size w u from h).size, Row.new u _ _⟩
theorem BxW.put (h : BxW w y g true false u) : BxW w y g true true (u.setCell ⟨g, 0, none⟩ (.string y)) :=
 ⟨h.1.trans ((One.set (w := u) (g := g) 0 _).below h.2.1 h.1.size), h.2.1, h.2.2.set 0 _⟩
end
set_option maxRecDepth 100000 in
set_option maxHeartbeats 800000 in
theorem name150 (w : World) (b : Nat) (s : ByteArray) (i : Nat) (A : Option Addr) (c : Nat) (xs : List ByteArray) (q : Nat) (h : ScR w b s i) (hi : i + 3 < s.size) (hs : s.size ≤ 1000) (hsl : Sl w cS A xs) (hc : xs.length ≤ c) (hl : xs.length ≤ 100) (hx : ∀ x ∈ xs, x.size ≤ 1000) (hq : q < xs.length) (hy : capL (bl xs[q]) = capL (bl (s.extract i (i + 3)))) (hn : ∀ j (hj : j < xs.length), j < q → capL (bl xs[j]) ≠ capL (bl (s.extract i (i + 3)))) :
  Calls Tryz.prog 150 #[.pointer (some ⟨b, 0, none⟩), .slice A xs.length c] w fun e w' => e = .returned (.int .i64 (q : Int)) ∧ ScR w' b s (i + 3) ∧ One b w w' := by
 obtain ⟨x, hxe⟩ : ∃ x : ByteArray, s.extract i (i + 3) = x := ⟨_, rfl⟩
 rw [hxe] at hy hn
 obtain ⟨y, hye⟩ : ∃ y : ByteArray, ⟨(capL (bl x)).toArray⟩ = y := ⟨_, rfl⟩
 have hyb : bl y = capL (bl x) := by rw [← hye]
 have hxs : x.size ≤ 1000 := by rw [← hxe, ByteArray.size_extract]; omega
 have HX := Lib.hid (And.intro hxs hxe)
 have HY := Lib.hid hye
 have HI := Lib.hid (show Sl w cS A xs ∧ (∀ x ∈ xs, x.size ≤ 1000) ∧ q < xs.length ∧ (∀ h : q < xs.length, capL (bl xs[q]) = bl y) ∧ (∀ j (hj : j < xs.length), j < q → capL (bl xs[j]) ≠ bl y) from ⟨hsl, hx, hq, fun _ => hy.trans hyb.symm, fun j hj h1 h2 => hn j hj h1 (h2.trans hyb)⟩)
 obtain ⟨n, hN⟩ : ∃ n, xs.length = n := ⟨_, rfl⟩
 have HN := Lib.hid hN
 have H := Lib.hid h
 have c0 : ∀ m, (w.drewN m).cell? ⟨b, 0, none⟩ = some (.string s) := fun m => (Row.keep h (below_drewN w m)).cell 0
 have c1 : ∀ m, (w.drewN m).cell? ⟨b, 1, none⟩ = some (.int .i64 (i : Int)) := fun m => (Row.keep h (below_drewN w m)).cell 1
 have c2 : w.cell? ⟨b, 2, none⟩ = some (.int .i64 0) := h.cell 2
 have hi3 : ¬ (s.size : Int) - (i : Int) < 3 := by omega
 have hi1 : (i : Int) ≤ 1000 := by omega
 have hsz : (s.size : Int) ≤ 1000 := by omega
 have hi4 : (i : Int) + 3 ≤ (s.size : Int) := by omega
 rw [hN] at hc hl ⊢
 clear h hsl hx hy hn hxe hye hyb hxs hN hq
 go_enter Tryz.func150, Tryz.ntmps150
 go_wp2
 go_quiet (fail)
 obtain ⟨W2, hW2⟩ : ∃ W2, w.drewN nq = W2 := ⟨_, rfl⟩
 have hb2 : Below w.heap.size w W2 := by rw [← hW2]; exact below_drewN _ _
 have R2 := Lib.hid (Row.keep H.out hb2)
 have HB2 := Lib.hid hb2
 rw [hW2]
 clear hW2 hb2 c0 c1 c2
 go_wp2
 refine AnyO.wp_anyI (by kernel_rfl) (by kernel_rfl) (AnyO.InvG (σ := Nat) (fun σ => AnyO.pvL [some (.pointer (some ⟨b, 0, none⟩)), some (.pointer (some ⟨b, 0, none⟩)), some (.pointer (some ⟨b, 0, none⟩)), some (.string s), some (.pointer (some ⟨b, 0, none⟩)), some (.pointer (some ⟨b, 0, none⟩)), some (.pointer (some ⟨b, 1, none⟩)), some (.int .i64 (i : Int)), some (.pointer (some ⟨b, 0, none⟩)), some (.pointer (some ⟨b, 0, none⟩)), some (.pointer (some ⟨b, 1, none⟩)), some (.int .i64 (i : Int)), some (.int .i64 ((i : Int) + 3)), some (.string x), some (.string y), some (.pointer (some ⟨σ, 0, none⟩)), none]) (fun σ D u => BxW W2 y σ (D 15) (D 16) u)) (AnyO.InvG.start (g := 0) (BxW.start (below_drew W2))) ?_ ?_
 ·intro i hi
  have hi2 : i = 14 ∨ i = 15 ∨ i = 16 ∨ i = 0 ∨ i = 1 ∨ i = 2 ∨ i = 3 ∨ i = 4 ∨ i = 5 ∨ i = 6 ∨ i = 7 ∨ i = 8 ∨ i = 9 ∨ i = 10 ∨ i = 11 ∨ i = 12 ∨ i = 13 := by simp only [List.size_toArray, List.length_cons, List.length_nil] at hi; omega
  clear hi
  rcases hi2 with rfl | rfl | rfl | rfl | rfl | rfl | rfl | rfl | rfl | rfl | rfl | rfl | rfl | rfl | rfl | rfl | rfl
  ·refine AnyO.I rfl [13] ?_; rintro D vs u σ Q h0 hC hp ac hb K hK
   have s43 : _ = _ := AnyO.sv 43 13 hb hp Q
   have hf16 := AnyO.fls (hC.out 16) h0 (by kernel_rfl)
   have hst := Q.out.2
   rw [hf16] at hst
   have HST := Lib.hid hst
   clear hst
   go_simp
   go_at_call 181
   refine (capital181 x HX.out.1 u).mono ?_
   rintro e w2 ⟨rfl, hb2⟩
   rw [HY.out]
   refine hK _ _ (AnyO.InvG.step (g := σ) Q.out.1 rfl ?_)
   rw [show AnyO.addD D 14 15 = D 15 from rfl, show AnyO.addD D 14 16 = D 16 from rfl, hf16]
   exact HST.out.keep hb2
  ·refine AnyO.I rfl [] ?_; rintro D vs u σ Q h0 hC hp ac hb K hK
   have hf16 := AnyO.fls (hC.out 16) h0 (by kernel_rfl)
   have hst := Q.out.2
   rw [h0, hf16] at hst
   have HST := Lib.hid hst
   clear hst
   go_simp
   refine hK _ _ (AnyO.InvG.ghost (g := σ) u.heap.size Q.out.1 ?_ rfl ?_)
   ·intro j hj hq
    rcases j with _ | _ | _ | _ | _ | _ | _ | _ | _ | _ | _ | _ | _ | _ | _ | _ | _ | j
    all_goals first | exact hq | exact absurd (show D 15 = true from hj) (by rw [h0]; decide) | exact absurd (show D 16 = true from hj) (by rw [hf16]; decide)
   rw [show AnyO.addD D 15 15 = true from rfl, show AnyO.addD D 15 16 = D 16 from rfl, hf16]
   exact HST.out.made
  ·refine AnyO.I rfl [15, 14, 14, 0, 1, 2, 3, 4, 5, 6, 7, 8, 9, 10, 11, 12, 13, 14, 15] ?_; rintro D vs u σ Q h0 hC hp ac hb K hK
   have s5 : _ = _ := AnyO.sv 5 15 hb hp Q
   have s44 : _ = _ := AnyO.sv 44 14 hb hp Q
   have hp15 : D 15 = true := hp.out 15 (by decide)
   have hst := Q.out.2
   rw [hp15, h0] at hst
   have rr1 := hst.2.2.fz 0
   have rr2 : u.cell? ⟨σ, 0, none⟩ = some (.string ⟨#[]⟩) := hst.2.2.cell 0
   have HST := Lib.hid hst
   clear hst
   go_simp
   exact hK undef _ (AnyO.InvG.step (g := σ) Q.out.1 trivial (by rw [show AnyO.addD D 16 15 = D 15 from rfl, hp15, show AnyO.addD D 16 16 = true from rfl]; exact HST.out.put))
  all_goals
   refine AnyO.J rfl ?_; rintro D vs u σ Q h0 hC hp ac hb K hK
   try have s0 : ac.tmps[0]?.getD undef = .pointer (some ⟨b, 0, none⟩) := by rw [hb.out]; kernel_rfl
   try have s30 : _ = _ := AnyO.sv 30 0 hb hp Q
   try have s31 : _ = _ := AnyO.sv 31 1 hb hp Q
   try have s32 : _ = _ := AnyO.sv 32 2 hb hp Q
   try have s34 : _ = _ := AnyO.sv 34 4 hb hp Q
   try have s35 : _ = _ := AnyO.sv 35 5 hb hp Q
   try have s36 : _ = _ := AnyO.sv 36 6 hb hp Q
   try have s38 : _ = _ := AnyO.sv 38 8 hb hp Q
   try have s39 : _ = _ := AnyO.sv 39 9 hb hp Q
   try have s40 : _ = _ := AnyO.sv 40 10 hb hp Q
   try have s41 : _ = _ := AnyO.sv 41 11 hb hp Q
   try have s33 : _ = _ := AnyO.sv 33 3 hb hp Q
   try have s37 : _ = _ := AnyO.sv 37 7 hb hp Q
   try have s42 : _ = _ := AnyO.sv 42 12 hb hp Q
   have rr1_0 : u.cell? ⟨b, 0, none⟩ = some (.string s) := (Row.keep R2.out Q.out.2.bl).cell 0
   have rr1_1 : u.cell? ⟨b, 1, none⟩ = some (.int .i64 (i : Int)) := (Row.keep R2.out Q.out.2.bl).cell 1
   have rr1_2 := wrap3 i (by omega)
   have rr1_3 := HX.out.2
   have rr2_3 : (0 : Int) ≤ (i : Int) + 3 := by omega
   have rr3_3 : (i : Int) ≤ (i : Int) + 3 := by omega
   have rr4_3 : ((i : Int) + 3).toNat = i + 3 := by omega
   go_simp
   exact hK _ _ (AnyO.InvG.step (g := σ) Q.out.1 rfl Q.out.2)
 ·intro D vs u hI hD
  obtain ⟨σ, hP, hW⟩ := hI
  have e0 : _ = _ := hP 0 (hD 0 (by decide))
  have e1 : _ = _ := hP 1 (hD 1 (by decide))
  have e2 : _ = _ := hP 2 (hD 2 (by decide))
  have e3 : _ = _ := hP 3 (hD 3 (by decide))
  have e4 : _ = _ := hP 4 (hD 4 (by decide))
  have e5 : _ = _ := hP 5 (hD 5 (by decide))
  have e6 : _ = _ := hP 6 (hD 6 (by decide))
  have e7 : _ = _ := hP 7 (hD 7 (by decide))
  have e8 : _ = _ := hP 8 (hD 8 (by decide))
  have e9 : _ = _ := hP 9 (hD 9 (by decide))
  have e10 : _ = _ := hP 10 (hD 10 (by decide))
  have e11 : _ = _ := hP 11 (hD 11 (by decide))
  have e12 : _ = _ := hP 12 (hD 12 (by decide))
  have e13 : _ = _ := hP 13 (hD 13 (by decide))
  have e14 : _ = _ := hP 14 (hD 14 (by decide))
  have e15 : _ = _ := hP 15 (hD 15 (by decide))
  rw [show D 15 = true from hD 15 (by decide), show D 16 = true from hD 16 (by decide)] at hW
  have HW := Lib.hid hW
  clear hW hP hD
  rw [puts_range [some 30, some 31, some 32, some 33, some 34, some 35, some 36, some 37, some 38, some 39, some 40, some 41, some 42, some 43, some 44, some 5, none] (by kernel_rfl)]
  simp only [putL, Nat.reduceAdd, e0, e1, e2, e3, e4, e5, e6, e7, e8, e9, e10, e11, e12, e13, e14, e15]
  clear e0 e1 e2 e3 e4 e5 e6 e7 e8 e9 e10 e11 e12 e13 e14 e15
  obtain ⟨hb3, hg3, r3⟩ := HW.out
  obtain ⟨g3, hg⟩ : ∃ g3, σ = g3 := ⟨_, rfl⟩
  rw [hg] at hg3 r3 ⊢
  have HZ := Lib.hid (And.intro hb3 r3)
  clear hb3 hg3 r3 hg HW
  go_simp
  go_wp2_with (go_at_call 169; have hin := indexFunc169 A c xs y g3 q u (HI.out.1.keep (Below.step HB2.out HZ.out.1)) (by rw [HN.out]; exact hc) (by rw [HN.out]; exact hl) HI.out.2.1 (HZ.out.2.cell 0) HI.out.2.2.1 (HI.out.2.2.2.1 _) HI.out.2.2.2.2; rw [HN.out] at hin; refine hin.mono ?_; clear hin; rintro e w5 ⟨rfl, hb5⟩; have r5 := Row.keep (Row.keep R2.out HZ.out.1) hb5; have k1 : w5.cell? ⟨b, 1, none⟩ = some (.int .i64 (i : Int)) := r5.cell 1; have k2 := r5.fz 1; have H5 := Lib.hid (And.intro r5 (One.of_below (g := b) (Below.step (Below.step HB2.out HZ.out.1) hb5))); clear r5 hb5)
  go_ret
  exact ⟨rfl, H5.out.1.set 1 _, H5.out.2.trans (One.set 1 _)⟩
open Go.RowKit Go.MapKept
theorem bbeq (a b : ByteArray) : (a == b) = decide (a = b) := by
 obtain ⟨a⟩ := a
 obtain ⟨b⟩ := b
 show (a == b) = _
 by_cases h : a = b
 ·subst h
  simp
 ·have h2 : ¬ (⟨a⟩ : ByteArray) = ⟨b⟩ := fun e => h (by cases e; rfl)
  rw [decide_eq_false h2, beq_eq_false_iff_ne]
  exact h
theorem findNow_snoc (d : TypeDesc) (k : Value) (e : MapEntry) : ∀ (l : List MapEntry) (i : Nat), Instr.findNow d k l i = some none → Instr.findNow d k (l ++ [e]) i = (match Instr.sameNow d k e.key with | some true => some (some (i + l.length, e.val)) | some false => some none | none => none)
 | [], i, _ => by
  simp only [List.nil_append, Instr.findNow, List.length_nil, Nat.add_zero]
  cases Instr.sameNow d k e.key with
  | none => rfl
  | some b => cases b <;> rfl
 | x :: r, i, h => by
  rw [List.cons_append]
  unfold Instr.findNow at h ⊢
  cases hs : Instr.sameNow d k x.key with
  | none => rw [hs] at h; cases h
  | some b =>
   rw [hs] at h
   cases b with
   | true => cases h
   | false =>
    dsimp only at h ⊢
    rw [findNow_snoc d k e r (i + 1) h]
    simp only [List.length_cons, Nat.add_assoc, Nat.add_comm 1]
theorem findNow_hit (d : TypeDesc) (k : Value) (e : MapEntry) (y : Nat × Value) : ∀ (l : List MapEntry) (i : Nat), Instr.findNow d k l i = some (some y) → Instr.findNow d k (l ++ [e]) i = some (some y)
 | [], i, h => by cases h
 | x :: r, i, h => by
  rw [List.cons_append]
  unfold Instr.findNow at h ⊢
  cases hs : Instr.sameNow d k x.key with
  | none => rw [hs] at h; cases h
  | some b =>
   rw [hs] at h
   cases b with
   | true => exact h
   | false => exact findNow_hit d k e y r (i + 1) h
def SM (w : World) (r : Nat) (f : ByteArray → Option Value) : Prop := ∃ es clock, w.heap[r]? = some (.map es clock) ∧ ∀ v, ∃ y, Instr.findNow .string (.string v) es.toList 0 = some y ∧ y.map (·.2) = f v
theorem under_str : Tryz.prog.underlying 9 = some .string := by kernel_rfl
theorem SM.made (w : World) : SM (w.alloc (.map #[] 0)) w.heap.size (fun _ => none) := ⟨#[], 0, (heap_alloc w _).1, fun _ => ⟨none, rfl, rfl⟩⟩
theorem SM.keep {w w' : World} {r : Nat} {f : ByteArray → Option Value} (h : SM w r f) (hb : Below w.heap.size w w') : SM w' r f := by
 obtain ⟨es, c, h1, h2⟩ := h
 exact ⟨es, c, by rw [hb.block r (Array.getElem?_eq_some_iff.1 h1).1]; exact h1, h2⟩
theorem SM.lt {w : World} {r : Nat} {f : ByteArray → Option Value} (h : SM w r f) : r < w.heap.size := by
 obtain ⟨es, c, h1, h2⟩ := h
 exact (Array.getElem?_eq_some_iff.1 h1).1
theorem SM.put {w : World} {r : Nat} {f : ByteArray → Option Value} (h : SM w r f) {t e : TypeId} (ht : Tryz.prog.underlying t = some (.map 9 e)) (n : ByteArray) (hn : f n = none) (x : Value) :
  ∃ w', (Instr.mapUpdate t (.map (some r)) (.string n) x).run Tryz.prog w = .ok () w' ∧ SM w' r (fun v => if v = n then some x else f v) ∧ One r w w' := by
 obtain ⟨es, c, h1, h2⟩ := h
 obtain ⟨y, hy, hyf⟩ := h2 n
 rw [hn] at hyf
 obtain rfl : y = none := by cases y with | none => rfl | some z => cases hyf
 have hk : IsKey .string (.string n) := trivial
 refine ⟨{ w with heap := w.heap.setIfInBounds r (.map (es.push { key := .string n, val := x, born := c }) (c + 1)) }, ?_, ⟨_, _, (heap_set h1).1, fun v => ?_⟩, ⟨rfl, rfl, rfl, by simp, fun k hk hne => (heap_set h1).2 k hne⟩⟩
 ·simp [Instr.mapUpdate, run_underlying ht, Go.MapKept.run_getObj_map h1, Go.MapKept.run_checkKey under_str hk, Go.MapKept.run_findKey under_str hy, Go.MapKept.run_setObj_map _ h1, Result.andThen]
 ·rw [Array.toList_push]
  obtain ⟨z, hz, hzf⟩ := h2 v
  cases z with
  | none =>
   rw [findNow_snoc _ _ _ _ _ hz]
   by_cases hv : v = n
   ·subst hv
    exact ⟨some (0 + es.toList.length, x), by simp [Instr.sameNow, bbeq], by simp⟩
   ·have hb : (v == n) = false := by rw [bbeq]; exact decide_eq_false hv
    exact ⟨none, by simp [Instr.sameNow, hb], by show _ = (if v = n then some x else f v); rw [if_neg hv, ← hzf]⟩
  | some z =>
   have hv : v ≠ n := by
    rintro rfl
    rw [hy] at hz
    cases hz
   exact ⟨some z, findNow_hit _ _ _ _ _ _ hz, by show _ = (if v = n then some x else f v); rw [if_neg hv, ← hzf]⟩
theorem SM.look_none {w : World} {r : Nat} {f : ByteArray → Option Value} (h : SM w r f) {t e : TypeId} (ht : Tryz.prog.underlying t = some (.map 9 e)) (z : Value) (hz : (zeroValue e).run Tryz.prog w = .ok z w) (n : ByteArray) (hf : f n = none) :
  (Instr.lookup t (.map (some r)) (.string n) true).run Tryz.prog w = .ok (.tuple #[z, .bool false]) w := by
 obtain ⟨es, c, h1, h2⟩ := h
 obtain ⟨y, hy, hyf⟩ := h2 n
 rw [hf] at hyf
 have hk : IsKey .string (.string n) := trivial
 cases y with
 | none => simp [Instr.lookup, run_underlying ht, Go.MapKept.run_getObj_map h1, Go.MapKept.run_checkKey under_str hk, Go.MapKept.run_findKey under_str hy, Result.andThen, hz]
 | some z => cases hyf
theorem SM.look {w : World} {r : Nat} {f : ByteArray → Option Value} (h : SM w r f) {t e : TypeId} (ht : Tryz.prog.underlying t = some (.map 9 e)) (n : ByteArray) (x : Value) (hf : f n = some x) :
  (Instr.lookup t (.map (some r)) (.string n) true).run Tryz.prog w = .ok (.tuple #[x, .bool true]) w ∧ (Instr.lookup t (.map (some r)) (.string n) false).run Tryz.prog w = .ok x w := by
 obtain ⟨es, c, h1, h2⟩ := h
 obtain ⟨y, hy, hyf⟩ := h2 n
 rw [hf] at hyf
 have hk : IsKey .string (.string n) := trivial
 cases y with
 | none => cases hyf
 | some z =>
  have hz : z.2 = x := by simpa using hyf
  exact ⟨by simp [Instr.lookup, run_underlying ht, Go.MapKept.run_getObj_map h1, Go.MapKept.run_checkKey under_str hk, Go.MapKept.run_findKey under_str hy, Result.andThen, hz], by simp [Instr.lookup, run_underlying ht, Go.MapKept.run_getObj_map h1, Go.MapKept.run_checkKey under_str hk, Go.MapKept.run_findKey under_str hy, Result.andThen, hz]⟩
end Go.Proofs.YtibelollgdnidaaGreatDoor
