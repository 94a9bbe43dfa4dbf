/- field's parser: line. -/
import Derived.Test.YtibelollgdnidaaGreatDoorMMpr
import Derived.Lib.Index
namespace Go.Proofs.YtibelollgdnidaaGreatDoor
open Go.RowKit
def PrR (w : World) (p : Nat) (T : ByteArray) (a b c : Int) (v : Value) : Prop := Row w p [.string T, .int .i64 a, .int .i64 b, .int .i64 c, v, .int .i64 0] 106
def LW (w3 : World) (l : List UInt8) (σ : Nat) (u : World) (d : Bool) : Prop := Below w3.heap.size w3 u ∧ (d = true → At u ⟨σ, 0, none⟩ (l.map cB))
def okB (c : UInt8) : Bool := visB c || blankB c
set_option maxHeartbeats 400000 in
theorem line101 (c : UInt8) (h : okB c = true) (w : World) : Calls Tryz.prog 101 #[vB c] w fun e w' => e = .returned (.bool false) ∧ w = w' := by
 rcases h1 : visB c with _ | _
 ·have h2 : blankB c = true := by unfold okB at h; rwa [h1, Bool.false_or] at h
  clear h
  go_enter Tryz.func101, Tryz.ntmps101
  go_wp2_with (first
   | (go_at_call 54; refine (isVisible_b _ _).mono ?_; rintro e w' ⟨rfl, rfl⟩; rw [h1])
   | (go_at_call 102; refine (isBlank_b _ _).mono ?_; rintro e w' ⟨rfl, rfl⟩; rw [h2]))
  go_ret
  exact ⟨rfl, rfl⟩
 ·clear h
  go_enter Tryz.func101, Tryz.ntmps101
  go_wp2_with (go_at_call 54; refine (isVisible_b _ _).mono ?_; rintro e w' ⟨rfl, rfl⟩; rw [h1])
  go_ret
  exact ⟨rfl, rfl⟩
theorem ext_from (t : List UInt8) (f : Nat) (r : List UInt8) (h : t.drop f = r) : (tx t).extract f (tx t).size = tx r := by
 apply bl_inj
 rw [bl_from, bl_tx, bl_tx, h]
theorem ext_part (t : List UInt8) (f : Nat) (l r : List UInt8) (h : t.drop f = l ++ r) : (tx t).extract f (f + l.length) = tx l := by
 apply bl_inj
 show ((tx t).extract f (f + l.length)).data.toList = l
 rw [Lib.extract_data, tx_data, h, Nat.add_sub_cancel_left]
 simp
set_option maxRecDepth 100000 in
set_option maxHeartbeats 1600000 in
theorem line61 (p f : Nat) (t l r : List UInt8) (b0 c0 a0 : Int) (v : Value) (w : World) (h : PrR w p (tx t) a0 b0 c0 v) (ht : t.drop f = l ++ 10 :: r) (htl : t.length ≤ 60000) (hl : l.length ≤ 900) (hok : ∀ c ∈ l, okB c = true) :
  Calls Tryz.prog 61 #[.pointer (some ⟨p, 0, none⟩), .int .i64 (f : Int)] w fun e w' => e = .returned (.tuple #[]) ∧ PrR w' p (tx t) (f : Int) ((f : Int) + (l.length : Int)) (f : Int) v ∧ One p w w' := by
 obtain ⟨n, hn⟩ : ∃ n, l.length = n := ⟨_, rfl⟩
 obtain ⟨T, hT⟩ : ∃ T, tx t = T := ⟨_, rfl⟩
 obtain ⟨R, hR⟩ : ∃ R, tx (l ++ 10 :: r) = R := ⟨_, rfl⟩
 obtain ⟨ls, hL⟩ : ∃ R, tx l = R := ⟨_, rfl⟩
 have hfl : f + n + 1 ≤ t.length := by
  have := congrArg List.length ht
  rw [List.length_drop, List.length_append, List.length_cons] at this
  omega
 have hzT : T.size = t.length := by rw [← hT]; rfl
 have e1 : T.extract f T.size = R := by rw [← hT, ext_from t f _ ht, hR]
 have hls : T.extract f (f + n) = ls := by rw [← hT, ← hn, ext_part t f l _ ht, hL]
 have hfz : (f : Int) ≤ (T.size : Int) := by omega
 have hfz2 : (f : Int) + (n : Int) ≤ (T.size : Int) := by omega
 have hf6 : (f : Int) ≤ 60000 := by omega
 have hn9 : (n : Int) ≤ 900 := by omega
 have hIB : Calls Tryz.prog 99 #[.string R, .int .u8 10] w fun e w' => e = .returned (.int .i64 (n : Int)) ∧ w' = w := by
  have := Tryz.strings_IndexByte R 10 w
  rw [← hR, tx_data, show (10 : Int).toNat.toUInt8 = 10 from rfl, indexByte_at (fun hc : (10 : UInt8) ∈ l => by have := hok 10 hc; revert this; decide +kernel), hn, hR] at this
  exact this
 have hcf : ∀ (args : Array Value) (W : World), Sem.run Tryz.prog (callFunc 101 args) W = .ok (.enter 101 args) W := enters_of Tryz.func101 (by kernel_rfl) rfl
 have hbl : bl ls = l := by rw [← hL, bl_tx]
 have HX := Lib.hid (show (∀ x ∈ bl ls, ∀ w : World, Calls Tryz.prog 101 #[vB x] w fun e w' => e = .returned (.bool false) ∧ w = w') ∧ (bl ls).length ≤ 1000000 from ⟨fun x hx => line101 x (hok x (hbl ▸ hx)), by rw [hbl]; omega⟩)
 have HI := Lib.hid hIB
 have hfn : ((f : Int) + (n : Int)).toNat = f + n := by omega
 have hg0 : 0 ≤ (f : Int) + (n : Int) := by omega
 have hg1 : (f : Int) ≤ (f : Int) + (n : Int) := by omega
 rw [hT] at h
 rw [hn, hT]
 have q0 := Row.cell h 0
 have q1 := Row.cell h 1
 have q2 := Row.cell h 2
 have q3 := Row.cell h 3
 have q5 := Row.cell h 5
 have f1 := Row.fz h 1
 have f2 := Row.fz h 2
 have f3 := Row.fz h 3
 have hr3 := ((h.set 1 (.int .i64 (f : Int))).set 2 (.int .i64 ((f : Int) + (n : Int)))).set 3 (.int .i64 (f : Int))
 have ho3 := ((One.set (w := w) (g := p) 1 (.int .i64 (f : Int))).trans (One.set 2 (.int .i64 ((f : Int) + (n : Int))))).trans (One.set 3 (.int .i64 (f : Int)))
 obtain ⟨w3, hw3⟩ : ∃ W, ((w.setCell ⟨p, 1, none⟩ (.int .i64 (f : Int))).setCell ⟨p, 2, none⟩ (.int .i64 ((f : Int) + (n : Int)))).setCell ⟨p, 3, none⟩ (.int .i64 (f : Int)) = W := ⟨_, rfl⟩
 rw [hw3] at hr3 ho3
 have S3 := Lib.hid (And.intro (show Row w3 p [.string T, .int .i64 (f : Int), .int .i64 ((f : Int) + (n : Int)), .int .i64 (f : Int), v, .int .i64 0] 106 from hr3) ho3)
 clear hr3 ho3 h ht htl hl hok hT hR hL hbl hIB hzT hfl hn
 go_enter Tryz.func61, Tryz.ntmps61
 go_wp2_with (go_at_call 99; refine HI.out.mono ?_; rintro e w2 ⟨rfl, rfl⟩)
 refine AnyO.wp_anyI (by kernel_rfl) (by kernel_rfl) (AnyO.InvG (σ := Nat × Nat) (fun σ => AnyO.pvL [some (.pointer (some ⟨p, 0, none⟩)), some (.pointer (some ⟨p, 0, none⟩)), some (.pointer (some ⟨p, 0, none⟩)), some (.string T), some (.int .i64 (f : Int)), some (.pointer (some ⟨p, 0, none⟩)), some (.pointer (some ⟨p, 0, none⟩)), some (.pointer (some ⟨p, 2, none⟩)), some (.int .i64 ((f : Int) + (n : Int))), some (.string ls), some (.slice (some ⟨σ.1, 0, none⟩) ls.size σ.2), some (.func (.func 101) #[] #[]), some (.int .i64 (-1)), some (.int .i64 (-1))]) (fun σ D u => LW w3 (bl ls) σ.1 u (D 10))) (AnyO.InvG.start (g := (0, 0)) (⟨below_drew w3, fun e => by cases e⟩)) ?_ ?_
 ·intro i hi
  have hi2 : i = 10 ∨ i = 12 ∨ i = 0 ∨ i = 1 ∨ i = 2 ∨ i = 3 ∨ i = 4 ∨ i = 5 ∨ i = 6 ∨ i = 7 ∨ i = 8 ∨ i = 9 ∨ i = 11 ∨ i = 13 := by simp only [List.size_toArray, List.length_cons, List.length_nil] at hi; omega
  clear hi
  rcases hi2 with rfl | rfl | rfl | rfl | rfl | rfl | rfl | rfl | rfl | rfl | rfl | rfl | rfl | rfl
  ·refine AnyO.I rfl [9] ?_; rintro D vs u σ Q h0 hC hp ac hb K hK
   have s57 : _ = _ := AnyO.sv 57 9 hb hp Q
   have hf12 := AnyO.fls (hC.out 12) h0 (by kernel_rfl)
   have hf13 := AnyO.fls (hC.out 13) hf12 (by kernel_rfl)
   obtain ⟨c9, w9, hcv, hb9, hat9⟩ := conv_sb u ls
   have HB9 := Lib.hid (And.intro hb9 hat9)
   clear hb9 hat9
   go_simp
   refine hK _ _ (AnyO.InvG.ghost (g := σ) (u.heap.size, c9) Q.out.1 ?_ rfl ?_)
   ·intro j hj hq
    rcases j with _ | _ | _ | _ | _ | _ | _ | _ | _ | _ | _ | _ | _ | _ | j
    all_goals first | exact hq | exact absurd (show D 10 = true from hj) (by rw [h0]; decide) | exact absurd (show D 12 = true from hj) (by rw [hf12]; decide) | exact absurd (show D 13 = true from hj) (by rw [hf13]; decide)
   exact ⟨Below.step Q.out.2.1 HB9.out.1, fun _ => HB9.out.2⟩
  ·refine AnyO.I rfl [10, 11] ?_; rintro D vs u σ Q h0 hC hp ac hb K hK
   have s58 : _ = _ := AnyO.sv 58 10 hb hp Q
   have s59 : _ = _ := AnyO.sv 59 11 hb hp Q
   have hp10 : D 10 = true := hp.out 10 (by decide)
   have hst := Q.out.2.2 hp10
   have hif := indexFuncB 101 σ.1 σ.2 (bl ls) u HX.out.1 hcf hst HX.out.2
   rw [bl_length] at hif
   have HIF := Lib.hid hif
   clear hif hst
   go_simp
   go_at_call 103
   refine HIF.out.mono ?_
   rintro e w9 ⟨rfl, rfl⟩
   exact hK _ _ (AnyO.InvG.step (g := σ) Q.out.1 rfl Q.out.2)
  all_goals
   refine AnyO.J rfl ?_; rintro D vs u σ Q h0 hC hp ac hb K hK
   try have s0 : ac.tmps[0]?.getD undef = .pointer (some ⟨p, 0, none⟩) := by rw [hb.out]; kernel_rfl
   try have s48 : _ = _ := AnyO.sv 48 0 hb hp Q
   try have s49 : _ = _ := AnyO.sv 49 1 hb hp Q
   try have s50 : _ = _ := AnyO.sv 50 2 hb hp Q
   try have s1 : ac.tmps[1]?.getD undef = .int .i64 (f : Int) := by rw [hb.out]; kernel_rfl
   try have s53 : _ = _ := AnyO.sv 53 5 hb hp Q
   try have s54 : _ = _ := AnyO.sv 54 6 hb hp Q
   try have s55 : _ = _ := AnyO.sv 55 7 hb hp Q
   try have s51 : _ = _ := AnyO.sv 51 3 hb hp Q
   try have s52 : _ = _ := AnyO.sv 52 4 hb hp Q
   try have s56 : _ = _ := AnyO.sv 56 8 hb hp Q
   try have s5 : ac.tmps[5]?.getD undef = .func (.func 101) #[] #[] := by rw [hb.out]; kernel_rfl
   try have s60 : _ = _ := AnyO.sv 60 12 hb hp Q
   have rr_0 := (S3.out.1.keep Q.out.2.1).cell 0
   have rr_1 := (S3.out.1.keep Q.out.2.1).cell 2
   have rr_2 := hls
   have rr2_2 := hfn
   have rr3_2 := hg0
   have rr4_2 := hg1
   go_simp
   exact hK _ _ (AnyO.InvG.step (g := σ) Q.out.1 rfl Q.out.2)
 ·intro D vs u hI hD
  obtain ⟨σ, hP, hW⟩ := hI
  have e0 : _ = _ := hP 0 (hD 0 (by decide))
  have e1 : _ = _ := hP 1 (hD 1 (by decide))
  have e2 : _ = _ := hP 2 (hD 2 (by decide))
  have e3 : _ = _ := hP 3 (hD 3 (by decide))
  have e4 : _ = _ := hP 4 (hD 4 (by decide))
  have e5 : _ = _ := hP 5 (hD 5 (by decide))
  have e6 : _ = _ := hP 6 (hD 6 (by decide))
  have e7 : _ = _ := hP 7 (hD 7 (by decide))
  have e8 : _ = _ := hP 8 (hD 8 (by decide))
  have e9 : _ = _ := hP 9 (hD 9 (by decide))
  have e10 : _ = _ := hP 10 (hD 10 (by decide))
  have e11 : _ = _ := hP 11 (hD 11 (by decide))
  have e12 : _ = _ := hP 12 (hD 12 (by decide))
  have e13 : _ = _ := hP 13 (hD 13 (by decide))
  have HW := Lib.hid hW
  clear hW hP hD
  rw [puts_range [some 48, some 49, some 50, some 51, some 52, some 53, some 54, some 55, some 56, some 57, some 58, some 59, some 60, some 6] (by kernel_rfl)]
  simp only [putL, Nat.reduceAdd, e0, e1, e2, e3, e4, e5, e6, e7, e8, e9, e10, e11, e12, e13]
  clear e0 e1 e2 e3 e4 e5 e6 e7 e8 e9 e10 e11 e12 e13
  have hrw := S3.out.1.keep HW.out.1
  have hoo := S3.out.2.trans (One.of_below HW.out.1)
  have HE := Lib.hid (And.intro hrw hoo)
  clear hrw hoo HW S3 HX HI
  go_simp
  go_wp2
  go_end0
  exact ⟨rfl, HE.out.1, HE.out.2⟩
open Go.RowKit
abbrev Fb : Type := List UInt8 × List UInt8
def cF2 (x : Fb) : List Value := [.string (tx x.1), .string (tx x.2)]
theorem cF2_length (x : Fb) : (cF2 x).length = 2 := rfl
theorem cF2_one (x : Fb) : ∀ u ∈ cF2 x, u.oneCell' = true := by
 intro u hu
 simp only [cF2, List.mem_cons, List.not_mem_nil, or_false] at hu
 rcases hu with rfl | rfl <;> rfl
theorem underFs : Tryz.prog.underlying 70 = some (.slice 67) := Tryz.underlying70
theorem rowF : (Tryz.prog.info? 67).map (fun i => (i.zero.map (·.cells.size), i.size, i.bytes)) = some (some 2, 2, 32) := by kernel_rfl
theorem sl_newF (W : World) (x : Fb) : Sl (W.alloc (.cells #[.string (tx x.1), .string (tx x.2)] 67)) cF2 (some ⟨W.heap.size, 0, none⟩) [x] := fun _ => ⟨_, rfl, at_new W (cF2 x) 67 W.heap.size rfl⟩
structure PsS (p : Nat) (T : ByteArray) (a b c : Int) (v : Value) (fs : List Fb) (w : World) : Prop where
 row : PrR w p T a b c v
 own : Own w (p + 1) 67 2 cF2 v fs
theorem PsS.keep {p : Nat} {T : ByteArray} {a b c : Int} {v : Value} {fs : List Fb} {w w' : World} (h : PsS p T a b c v fs w) (hb : Below w.heap.size w w') : PsS p T a b c v fs w' := ⟨Row.keep h.row hb, h.own.keep hb⟩
def AF (p : Nat) (T : ByteArray) (a b c : Int) (v : Value) (fs : List Fb) (x : Fb) (W : World) (σ : Value) (u : World) : Bool → Bool → Bool → Prop
 | false, _, _ => Below W.heap.size W u ∧ u.heap.size = W.heap.size
 | true, false, _ => Below W.heap.size W u ∧ Sl u cF2 (some ⟨W.heap.size, 0, none⟩) [x]
 | true, true, false => W.grownBy u v.ownBlock ∧ Own u (p + 1) 67 2 cF2 σ (fs ++ [x])
 | true, true, true => PsS p T a b c σ (fs ++ [x]) u ∧ Below p W u
section
variable {p : Nat} {T : ByteArray} {a b c : Int} {v : Value} {fs : List Fb} {x : Fb} {W : World} {σ : Value} {u u' : World} {d1 d2 d3 : Bool}
theorem AF.row (hC : PsS p T a b c v fs W) (h : AF p T a b c v fs x W σ u d1 d2 false) : PrR u p T a b c v := by
 have hr : Row W p _ _ := hC.row
 cases d1 with
 | false => exact hr.keep h.1
 | true =>
  cases d2 with
  | false => exact hr.keep h.1
  | true => exact hr.same (h.1.block p hr.lt (fun e => by have := (hC.own.lt p e.symm).1; omega))
theorem AF.made (h : AF p T a b c v fs x W σ u false d2 d3) : AF p T a b c v fs x W σ (u.alloc (.cells #[.string (tx x.1), .string (tx x.2)] 67)) true false d3 :=
 ⟨h.1.trans ((below_alloc u _).mono (by rw [h.2]; exact Nat.le_refl _)), by have := sl_newF u x; rwa [h.2] at this⟩
theorem AF.grew {v' : Value} (hC : PsS p T a b c v fs W) (h : AF p T a b c v fs x W σ u true false d3) (ho : Own u' (p + 1) 67 2 cF2 v' (fs ++ [x])) (hg : u.grownBy u' v.ownBlock) (ha : v'.ownBlock = v.ownBlock ∨ v'.ownBlock = some u.heap.size) : AF p T a b c v fs x W v' u' true true false :=
 ⟨⟨hg.os.trans h.1.os, hg.tape.trans h.1.tape, hg.output.trans h.1.output, Nat.le_trans h.1.size hg.size, fun k hk hne => (hg.block k (Nat.lt_of_lt_of_le hk h.1.size) hne).trans (h.1.block k hk)⟩, ho⟩
theorem AF.fin (h : AF p T a b c v fs x W σ u true true true) : PsS p T a b c σ (fs ++ [x]) u ∧ Below p W u := h
theorem AF.stored (hC : PsS p T a b c v fs W) (h : AF p T a b c v fs x W σ u true true false) : AF p T a b c v fs x W σ (u.setCell ⟨p, 4, none⟩ σ) true true true := by
 have hrow : Row u p _ _ := AF.row hC h
 have hlt := Row.lt hC.row
 have hlo : ∀ k, k ≤ p → some k ≠ v.ownBlock := fun k hk e => by have := (hC.own.lt k e.symm).1; omega
 refine ⟨⟨hrow.set 4 σ, h.2.same (fun k hk => heap_set_other u p 4 σ k (by have := (h.2.lt k hk).1; omega))⟩, ⟨h.1.os, h.1.tape, h.1.output, Nat.le_trans h.1.size (by simp [World.setCell]), fun k hk => (heap_set_other u p 4 σ k (by omega)).trans (h.1.block k (by omega) (hlo k (by omega)))⟩⟩
end
theorem lt_ok (c : UInt8) (h : ltB c = true) : blankB c = false ∧ c ≠ 58 := by
 have h2 : (!ltB c || (!blankB c && !(c == 58))) = true := byte_all (p := fun c => !ltB c || (!blankB c && !(c == 58))) (by decide +kernel) c
 rw [h] at h2
 simpa using h2
set_option maxRecDepth 100000 in
set_option maxHeartbeats 3200000 in
theorem name62 (p f : Nat) (t nm l r : List UInt8) (v : Value) (fs : List Fb) (w : World) (h : PsS p (tx t) (f : Int) ((f : Int) + ((nm ++ 58 :: l).length : Int)) (f : Int) v fs w) (ht : t.drop f = (nm ++ 58 :: l) ++ r) (htl : t.length ≤ 60000) (hl : (nm ++ 58 :: l).length ≤ 900) (h0 : nm ≠ []) (h40 : nm.length ≤ 40) (hnl : ∀ c ∈ nm, ltB c = true) (hfs : fs.length ≤ 60) :
  Calls Tryz.prog 62 #[.pointer (some ⟨p, 0, none⟩)] w fun e w' => e = .returned (.tuple #[]) ∧ ∃ v', PsS p (tx t) (f : Int) ((f : Int) + ((nm ++ 58 :: l).length : Int)) ((f : Int) + (nm.length : Int) + 1) v' (fs ++ [(nm, [])]) w' ∧ Below p w w' := by
 obtain ⟨n, hn⟩ : ∃ n, (nm ++ 58 :: l).length = n := ⟨_, rfl⟩
 obtain ⟨m, hm⟩ : ∃ m, nm.length = m := ⟨_, rfl⟩
 obtain ⟨T, hT⟩ : ∃ T, tx t = T := ⟨_, rfl⟩
 obtain ⟨ls, hL⟩ : ∃ R, tx (nm ++ 58 :: l) = R := ⟨_, rfl⟩
 obtain ⟨N, hN0⟩ : ∃ R, tx nm = R := ⟨_, rfl⟩
 have hm1 : 0 < m := by rw [← hm]; exact List.length_pos_iff.2 h0
 have hmn : m + 1 ≤ n := by rw [← hm, ← hn, List.length_append, List.length_cons]; omega
 have hfl : f + n ≤ t.length := by
  have := congrArg List.length ht
  rw [List.length_drop, List.length_append, hn] at this
  omega
 have hzT : T.size = t.length := by rw [← hT]; rfl
 have hzl : ls.size = n := by rw [← hL, tx_size, hn]
 have hls : T.extract f (f + n) = ls := by rw [← hT, ← hn, ext_part t f _ _ ht, hL]
 have hN : ls.extract 0 m = N := by
  have := ext_part (nm ++ 58 :: l) 0 nm (58 :: l) rfl
  rwa [Nat.zero_add, hL, hm, hN0] at this
 have hfz : (f : Int) ≤ (T.size : Int) := by omega
 have hfz2 : (f : Int) + (n : Int) ≤ (T.size : Int) := by omega
 have hf6 : (f : Int) ≤ 60000 := by omega
 have hn9 : (n : Int) ≤ 900 := by omega
 have hfn : ((f : Int) + (n : Int)).toNat = f + n := by omega
 have hg0 : 0 ≤ (f : Int) + (n : Int) := by omega
 have hg1 : (f : Int) ≤ (f : Int) + (n : Int) := by omega
 have hm0 : (m : Int) ≤ (ls.size : Int) := by omega
 have hml : 0 < ls.size := by omega
 have hm9 : (m : Int) ≤ 900 := by omega
 have he : ls.toList.isEmpty = false := by
  rw [ByteArray.toList_eq, Bool.eq_false_iff]
  intro e
  have : bl ls = [] := List.isEmpty_iff.1 e
  have h2 := bl_length ls
  rw [this] at h2
  simp at h2
  omega
 have hb0 : blankB ls[0] = false := by
  obtain ⟨a, nm', rfl⟩ := List.exists_cons_of_ne_nil h0
  have : ls[0] = a := by
   have h1 : bl ls = (a :: nm') ++ 58 :: l := by rw [← hL, bl_tx]
   have h2 : (bl ls)[0]? = some ls[0] := List.getElem?_eq_getElem (by rw [bl_length]; exact hml)
   rw [h1] at h2
   exact (Option.some.inj h2).symm
  rw [this]
  exact (lt_ok a (hnl a List.mem_cons_self)).1
 have hIB : Calls Tryz.prog 99 #[.string ls, .int .u8 58] w fun e w' => e = .returned (.int .i64 (m : Int)) ∧ w' = w := by
  have := Tryz.strings_IndexByte ls 58 w
  rw [← hL, tx_data, show (58 : Int).toNat.toUInt8 = 58 from rfl, indexByte_at (fun hc : (58 : UInt8) ∈ nm => (lt_ok 58 (hnl 58 hc)).2 rfl), hm, hL] at this
  exact this
 have hIBx : ∀ u : World, Calls Tryz.prog 99 #[.string ls, .int .u8 58] u fun e w' => e = .returned (.int .i64 (m : Int)) ∧ w' = u := by
  intro u
  have := Tryz.strings_IndexByte ls 58 u
  rw [← hL, tx_data, show (58 : Int).toNat.toUInt8 = 58 from rfl, indexByte_at (fun hc : (58 : UInt8) ∈ nm => (lt_ok 58 (hnl 58 hc)).2 rfl), hm, hL] at this
  exact this
 have HV := fun u : World => Lib.hid (validName104 nm h0 h40 hnl u)
 rw [hN0] at HV
 have HI := Lib.hid hIBx
 obtain ⟨A, c, rfl, hc, -⟩ := h.own.sl
 obtain ⟨k, hk⟩ : ∃ k, fs.length = k := ⟨_, rfl⟩
 have HX := Lib.hid (And.intro hk (show k ≤ 60 by omega))
 have HNM := Lib.hid hN0
 rw [hk, hT, hn] at h
 rw [hT, hn, hm]
 have hk6 : (k : Int) ≤ 60 := by omega
 have hkn : ((k : Int) == 64) = false := by rw [beq_eq_false_iff_ne]; omega
 have q0 : ∀ j, (w.drewN j).cell? ⟨p, 0, none⟩ = _ := fun j => (Row.keep h.row (below_drewN w j)).cell 0
 have q1 : ∀ j, (w.drewN j).cell? ⟨p, 1, none⟩ = _ := fun j => (Row.keep h.row (below_drewN w j)).cell 1
 have q2 : ∀ j, (w.drewN j).cell? ⟨p, 2, none⟩ = _ := fun j => (Row.keep h.row (below_drewN w j)).cell 2
 have q5 : w.cell? ⟨p, 5, none⟩ = _ := Row.cell h.row 5
 have HPW := Lib.hid (Row.lt h.row)
 have H := Lib.hid h
 clear h ht htl hl h0 h40 hnl hfs hn hm hT hL hN0 hfl hzT hzl hIB hIBx hc hk hmn hm1
 go_enter Tryz.func62, Tryz.ntmps62
 go_wp2
 go_quiet (fail)
 have S2 := Lib.hid (And.intro (H.out.keep (below_drewN w nq)) (below_drewN w nq))
 clear q0 q1 q2 q5 H
 revert S2
 generalize w.drewN nq = w2
 intro S2
 have q4 := Row.cell S2.out.1.row 4
 go_wp2_with (first
  | (go_at_call 102; refine (isBlank_b _ _).mono ?_; rintro e w3 ⟨rfl, rfl⟩; rw [hb0])
  | (go_at_call 99; refine (HI.out _).mono ?_; rintro e w3 ⟨rfl, rfl⟩)
  | (go_at_call 104; refine (HV _).out.mono ?_; rintro e w4 ⟨rfl, hb4⟩; have h4 := S2.out.1.keep hb4; clear q4; have q4 := Row.cell h4.row 4; have S4 := Lib.hid (And.intro h4 (Below.step S2.out.2 hb4)); clear h4 hb4 S2))
 refine AnyO.wp_anyI (by kernel_rfl) (by kernel_rfl) (AnyO.InvG (σ := Value) (fun σ => AnyO.pvL [some (.pointer (some ⟨p, 0, none⟩)), some (.pointer (some ⟨p, 0, none⟩)), some (.pointer (some ⟨p, 0, none⟩)), some (.pointer (some ⟨p, 4, none⟩)), some (.slice A k c), some (.string ls), some (.int .i64 (m : Int)), some (.string N), some (.agg #[.string N, .string ⟨#[]⟩]), some (.slice (some ⟨w4.heap.size, 0, none⟩) 1 1), some (σ), some (.pointer (some ⟨p, 0, none⟩)), some (.pointer (some ⟨p, 4, none⟩)), none]) (fun σ D u => AF p T (f : Int) ((f : Int) + (n : Int)) (f : Int) (.slice A k c) fs (nm, []) w4 σ u (D 9) (D 10) (D 13))) (AnyO.InvG.start (g := .slice none 0 0) (⟨below_drew _, rfl⟩)) ?_ ?_
 ·intro i hi
  have hi2 : i = 4 ∨ i = 9 ∨ i = 10 ∨ i = 13 ∨ i = 0 ∨ i = 1 ∨ i = 2 ∨ i = 3 ∨ i = 5 ∨ i = 6 ∨ i = 7 ∨ i = 8 ∨ i = 11 ∨ i = 12 := by simp only [List.size_toArray, List.length_cons, List.length_nil] at hi; omega
  clear hi
  rcases hi2 with rfl | rfl | rfl | rfl | rfl | rfl | rfl | rfl | rfl | rfl | rfl | rfl | rfl | rfl
  ·refine AnyO.I rfl [3] ?_; rintro D vs u σ Q h0 hC hp ac hb K hK
   have s46 : _ = _ := AnyO.sv 46 3 hb hp Q
   have hf10 := AnyO.fls (hC.out 10) h0 (by kernel_rfl)
   have hf13 := AnyO.fls (hC.out 13) hf10 (by kernel_rfl)
   have hst := Q.out.2
   rw [hf13] at hst
   have rr : u.cell? ⟨p, 4, none⟩ = some (.slice A k c) := (AF.row S4.out.1 hst).cell 4
   clear hst hf13 hf10
   go_simp; exact hK _ _ (AnyO.InvG.step (g := σ) Q.out.1 rfl Q.out.2)
  ·refine AnyO.I rfl [8] ?_; rintro D vs u σ Q h0 hC hp ac hb K hK
   have s51 : _ = _ := AnyO.sv 51 8 hb hp Q
   have hf10 := AnyO.fls (hC.out 10) h0 (by kernel_rfl)
   have hst := Q.out.2
   rw [h0] at hst
   have HST := Lib.hid hst
   clear hst
   go_simp
   rw [HST.out.2]
   exact hK _ _ (AnyO.InvG.step (g := σ) Q.out.1 rfl (by rw [show AnyO.addD D 9 9 = true from rfl, show AnyO.addD D 9 10 = D 10 from rfl, hf10]; exact HNM.out ▸ HST.out.made))
  ·refine AnyO.I rfl [4, 9] ?_; rintro D vs u σ Q h0 hC hp ac hb K hK
   have s47 : _ = _ := AnyO.sv 47 4 hb hp Q
   have s52 : _ = _ := AnyO.sv 52 9 hb hp Q
   have hp9 : D 9 = true := hp.out 9 (by decide)
   have hf13 := AnyO.fls (hC.out 13) h0 (by kernel_rfl)
   have hst := Q.out.2
   rw [hp9, h0] at hst
   refine wp_append_sl_at u (.tmp 47) (.tmp 52) 70 rfl (p + 1) 67 2 32 cF2 underFs rowF (by decide) cF2_length cF2_one (.slice A k c) fs (ev_tmp s47) (S4.out.1.own.keep hst.1) _ 1 1 [(nm, [])] rfl (by simp) (ev_tmp s52) hst.2 (by have := HX.out.1; have := HX.out.2; omega) (by have := HX.out.1; have := HX.out.2; omega) (Nat.le_trans S4.out.1.row.lt hst.1.size) ?_
   intro v9 w9 ho9 hg9 ha9
   refine hK _ _ (AnyO.InvG.ghost (g := σ) v9 Q.out.1 ?_ rfl ?_)
   ·intro j hj hq
    rcases j with _ | _ | _ | _ | _ | _ | _ | _ | _ | _ | _ | _ | _ | _ | j
    all_goals first | exact hq | exact absurd (show D 10 = true from hj) (by rw [h0]; decide) | exact absurd (show D 13 = true from hj) (by rw [hf13]; decide)
   rw [show AnyO.addD D 10 9 = D 9 from rfl, hp9, show AnyO.addD D 10 10 = true from rfl, show AnyO.addD D 10 13 = D 13 from rfl, hf13]
   exact AF.grew S4.out.1 hst ho9 hg9 ha9
  ·refine AnyO.I rfl [12, 10, 10, 0, 1, 2, 3, 4, 5, 6, 7, 8, 9, 10] ?_; rintro D vs u σ Q h0 hC hp ac hb K hK
   have s55 : _ = _ := AnyO.sv 55 12 hb hp Q
   have s53 : _ = _ := AnyO.sv 53 10 hb hp Q
   have hp10 : D 10 = true := hp.out 10 (by decide)
   have hp9 : D 9 = true := hC.out 10 hp10 9 (by rw [show AnyO.pre _ 10 = [4, 9] from by kernel_rfl]; decide)
   have hst := Q.out.2
   rw [hp9, hp10, h0] at hst
   have hrw := AF.row S4.out.1 hst
   have rr1 := hrw.fz 4
   have rr2 : u.cell? ⟨p, 4, none⟩ = some (.slice A k c) := hrw.cell 4
   obtain ⟨A9, c9, hv9, -, -⟩ := Own.sl hst.2
   rw [List.length_append, HX.out.1] at hv9
   replace hv9 : σ = .slice A9 (k + 1) c9 := hv9
   have HST := Lib.hid hst
   clear hst hrw
   go_simp
   rw [← hv9]
   exact hK undef _ (AnyO.InvG.step (g := σ) Q.out.1 trivial (by rw [show AnyO.addD D 13 9 = D 9 from rfl, hp9, show AnyO.addD D 13 10 = D 10 from rfl, hp10, show AnyO.addD D 13 13 = true from rfl]; exact AF.stored S4.out.1 HST.out))
  all_goals
   refine AnyO.J rfl ?_; rintro D vs u σ Q h0 hC hp ac hb K hK
   try have s0 : ac.tmps[0]?.getD undef = .pointer (some ⟨p, 0, none⟩) := by rw [hb.out]; kernel_rfl
   try have s44 : _ = _ := AnyO.sv 44 1 hb hp Q
   try have s45 : _ = _ := AnyO.sv 45 2 hb hp Q
   try have s2 : ac.tmps[2]?.getD undef = .string ls := by rw [hb.out]; kernel_rfl
   try have s3 : ac.tmps[3]?.getD undef = .int .i64 (m : Int) := by rw [hb.out]; kernel_rfl
   try have s48 : _ = _ := AnyO.sv 48 5 hb hp Q
   try have s49 : _ = _ := AnyO.sv 49 6 hb hp Q
   try have s50 : _ = _ := AnyO.sv 50 7 hb hp Q
   try have s43 : _ = _ := AnyO.sv 43 0 hb hp Q
   try have s54 : _ = _ := AnyO.sv 54 11 hb hp Q
   have rr := hN
   have rr2 := hm0
   have rr3 := hml
   go_simp
   exact hK _ _ (AnyO.InvG.step (g := σ) Q.out.1 rfl Q.out.2)
 ·intro D vs u hI hD
  obtain ⟨σ, hP, hW⟩ := hI
  have e0 : _ = _ := hP 0 (hD 0 (by decide))
  have e1 : _ = _ := hP 1 (hD 1 (by decide))
  have e2 : _ = _ := hP 2 (hD 2 (by decide))
  have e3 : _ = _ := hP 3 (hD 3 (by decide))
  have e4 : _ = _ := hP 4 (hD 4 (by decide))
  have e5 : _ = _ := hP 5 (hD 5 (by decide))
  have e6 : _ = _ := hP 6 (hD 6 (by decide))
  have e7 : _ = _ := hP 7 (hD 7 (by decide))
  have e8 : _ = _ := hP 8 (hD 8 (by decide))
  have e9 : _ = _ := hP 9 (hD 9 (by decide))
  have e10 : _ = _ := hP 10 (hD 10 (by decide))
  have e11 : _ = _ := hP 11 (hD 11 (by decide))
  have e12 : _ = _ := hP 12 (hD 12 (by decide))
  rw [show D 9 = true from hD 9 (by decide), show D 10 = true from hD 10 (by decide), show D 13 = true from hD 13 (by decide)] at hW
  have HW := Lib.hid hW
  clear hW hP hD
  rw [puts_range [some 43, some 44, some 45, some 46, some 47, some 48, some 49, some 50, some 51, some 52, some 53, some 54, some 55, none] (by kernel_rfl)]
  simp only [putL, Nat.reduceAdd, e0, e1, e2, e3, e4, e5, e6, e7, e8, e9, e10, e11, e12]
  clear e0 e1 e2 e3 e4 e5 e6 e7 e8 e9 e10 e11 e12
  have hq := AF.fin HW.out
  clear HW
  have r1 := Row.cell hq.1.row 1
  have r3 := Row.cell hq.1.row 3
  have z3 := Row.fz hq.1.row 3
  have S5 := Lib.hid hq
  clear hq
  go_simp
  go_wp2
  go_end0
  exact ⟨rfl, σ, ⟨Row.set S5.out.1.row 3 _, S5.out.1.own.one (One.set 3 _) (Nat.lt_succ_self _)⟩, ((S4.out.2.mono (Nat.le_of_lt HPW.out)).trans S5.out.2).setCell (Nat.le_refl _) _⟩
open Go.RowKit
theorem okB_10 : okB 10 = false := by decide +kernel
theorem lt_vis (c : UInt8) (h : ltB c = true) : visB c = true := by
 have h2 : (!ltB c || visB c) = true := byte_all (p := fun c => !ltB c || visB c) (by decide +kernel) c
 rw [h] at h2
 simpa using h2
theorem vis_ok {c : UInt8} (h : visB c = true) : okB c = true := by unfold okB; rw [h]; rfl
theorem ln_ok {nm : List UInt8} {ws : List (List UInt8)} (h : FlOk nm ws) : ∀ c ∈ lnL nm ws, okB c = true := by
 intro c hc
 unfold lnL at hc
 rcases List.mem_append.1 hc with hc | hc
 ·exact vis_ok (lt_vis c (h.nl c hc))
 ·rcases List.mem_cons.1 hc with rfl | hc
  ·decide +kernel
  ·obtain ⟨x, hx, hc⟩ := List.mem_flatMap.1 hc
   rcases List.mem_cons.1 hc with rfl | hc
   ·decide +kernel
   ·exact vis_ok (h.wp x hx c hc)
theorem ln_10 {nm : List UInt8} {ws : List (List UInt8)} (h : FlOk nm ws) : (10 : UInt8) ∉ lnL nm ws := fun hc => by
 have := ln_ok h 10 hc
 rw [okB_10] at this
 cases this
theorem ln_pos (nm : List UInt8) (ws : List (List UInt8)) : 0 < (lnL nm ws).length := by unfold lnL; rw [List.length_append, List.length_cons]; omega
theorem hdT_cons (f : Fld) (fs : List Fld) : hdT (f :: fs) = lnL f.1 f.2 ++ 10 :: hdT fs := by simp [hdT]
theorem hd_first (B : List UInt8) : ∀ (fs : List Fld), (∀ f ∈ fs, FlOk f.1 f.2) → ∀ j, (hdT fs ++ 10 :: B)[j]? = some 10 → (hdT fs ++ 10 :: B)[j + 1]? = some 10 → (hdT fs).length ≤ j + 1
 | [], _, j, _, _ => by simp [hdT]
 | f :: fs, h, j, h1, h2 => by
  have hf := h f List.mem_cons_self
  have ht := fun g hg => h g (List.mem_cons_of_mem _ hg)
  have e : hdT (f :: fs) ++ 10 :: B = lnL f.1 f.2 ++ 10 :: (hdT fs ++ 10 :: B) := by rw [hdT_cons]; simp
  rw [e] at h1 h2
  rw [hdT_cons, List.length_append, List.length_cons]
  rcases Nat.lt_trichotomy j (lnL f.1 f.2).length with hj | hj | hj
  ·rw [List.getElem?_append_left hj] at h1
   exact absurd (List.mem_of_getElem? h1) (ln_10 hf)
  ·rw [List.getElem?_append_right (by omega), show j + 1 - (lnL f.1 f.2).length = 1 by omega, List.getElem?_cons_succ] at h2
   cases fs with
   | nil => simp [hdT]; omega
   | cons g fs =>
    have hg := ht g List.mem_cons_self
    rw [hdT_cons, List.append_assoc, List.getElem?_append_left (ln_pos _ _)] at h2
    exact absurd (List.mem_of_getElem? h2) (ln_10 hg)
  ·have e1 : ∀ i, (lnL f.1 f.2).length < i → (lnL f.1 f.2 ++ 10 :: (hdT fs ++ 10 :: B))[i]? = (hdT fs ++ 10 :: B)[i - (lnL f.1 f.2).length - 1]? := by
    intro i hi
    rw [List.getElem?_append_right (by omega)]
    obtain ⟨q, hq⟩ : ∃ q, i - (lnL f.1 f.2).length = q + 1 := ⟨i - (lnL f.1 f.2).length - 1, by omega⟩
    rw [hq, List.getElem?_cons_succ]
    rfl
   rw [e1 j hj] at h1
   rw [e1 (j + 1) (by omega), show j + 1 - (lnL f.1 f.2).length - 1 = (j - (lnL f.1 f.2).length - 1) + 1 by omega] at h2
   have := hd_first B fs ht _ h1 h2
   omega
theorem hdT_end (f : Fld) (fs : List Fld) : ∃ s, hdT (f :: fs) = s ++ [10] := by
 induction fs generalizing f with
 | nil => exact ⟨lnL f.1 f.2, by simp [hdT]⟩
 | cons g fs ih =>
  obtain ⟨s, hs⟩ := ih g
  exact ⟨lnL f.1 f.2 ++ 10 :: s, by rw [hdT_cons, hs]; simp⟩
theorem hd_index (f : Fld) (fs : List Fld) (B : List UInt8) (h : ∀ g ∈ f :: fs, FlOk g.1 g.2) : ∃ m : Nat, (hdT (f :: fs)).length = m + 1 ∧ Lib.index (hdT (f :: fs) ++ 10 :: B) [10, 10] = (m : Int) := by
 obtain ⟨s, hs⟩ := hdT_end f fs
 refine ⟨s.length, by rw [hs]; simp, Lib.index_first (by rw [hs]; simp) ?_ ?_⟩
 ·rw [hs]
  unfold Lib.occAt
  rw [show s ++ [10] ++ 10 :: B = s ++ ([10, 10] ++ B) by simp, List.drop_left]
  rfl
 ·intro j hj
  rw [Bool.eq_false_iff]
  intro ho
  unfold Lib.occAt at ho
  obtain ⟨r, hr⟩ := List.isPrefixOf_iff_prefix.1 ho
  have g1 : (hdT (f :: fs) ++ 10 :: B)[j]? = some 10 := by
   have := congrArg (fun l => l[0]?) hr
   simpa [List.getElem?_drop] using this.symm
  have g2 : (hdT (f :: fs) ++ 10 :: B)[j + 1]? = some 10 := by
   have := congrArg (fun l => l[1]?) hr
   simpa [List.getElem?_drop] using this.symm
  have := hd_first B (f :: fs) h j g1 g2
  rw [hs] at this
  simp at this
  omega
theorem bd_step {nm : List UInt8} {ws : List (List UInt8)} (h : FlOk nm ws) (k : Nat) (hk : k < ws.length) : (if bdL (ws.take k) = [] then ws[k] else bdL (ws.take k) ++ 32 :: ws[k]) = bdL (ws.take (k + 1)) := by
 rw [List.take_succ_eq_append_getElem hk]
 have hw : ∀ y ∈ ws.take k, Good y := fun y hy => h.wg y (List.mem_of_mem_take hy)
 revert hw
 generalize ws.take k = l
 generalize ws[k] = x
 intro hw
 cases l with
 | nil => simp [bdL, Lib.join]
 | cons y l =>
  have hne : bdL (y :: l) ≠ [] := by
   intro e
   have h1 := wl_join (y :: l) hw
   rw [show Lib.join (y :: l) [32] = [] from e] at h1
   simp [wl, fl] at h1
  rw [if_neg hne]
  have e1 := bd_cons y (l ++ [x])
  have e2 := bd_cons y l
  rw [List.cons_append] at *
  have : (y :: (l ++ [x])).flatMap (fun x => 32 :: x) = (y :: l).flatMap (fun x => 32 :: x) ++ 32 :: x := by rw [← List.cons_append, List.flatMap_append]; simp
  rw [this, ← e2, List.cons_append] at e1
  exact (List.cons.inj e1).2.symm
section
variable {α : Type} {w : World} {base : Nat} {e : TypeId} {s : Nat} {enc : α → List Value} {v : Value} {xs : List α}
theorem Own.rowOf (h : Own w base e s enc v xs) : (v = .slice none 0 0 ∧ xs = []) ∨ ∃ g c cs, v = .slice (some ⟨g, 0, none⟩) xs.length c ∧ base ≤ g ∧ Row w g cs e ∧ xs.length ≤ c ∧ c ≤ maxLen ∧ cs.length = c * s ∧ cs.take (xs.length * s) = xs.flatMap enc := by
 rcases h.2 with ⟨h1, h2⟩ | ⟨g, c, cur, h1, h2, h3, h4, h5, h6, h7⟩
 ·exact Or.inl ⟨h1, List.eq_nil_of_length_eq_zero h2⟩
 ·refine Or.inr ⟨g, c, cur.toList, h1, h2, ?_, h4, h5, by simpa using h6, h7⟩
  unfold Row
  simpa using h3
theorem Own.ofRow {g c : Nat} {cs : List Value} (hs : ∀ x, (enc x).length = s) (hb : base ≤ g) (hr : Row w g cs e) (hc : xs.length ≤ c) (hm : c ≤ maxLen) (hl : cs.length = c * s) (ht : cs.take (xs.length * s) = xs.flatMap enc) : Own w base e s enc (.slice (some ⟨g, 0, none⟩) xs.length c) xs := by
 refine ⟨flatMap_length enc s hs xs, Or.inr ⟨g, c, cs.toArray, rfl, hb, hr, hc, hm, by simpa using hl, by simpa using ht⟩⟩
end
theorem own_last {w : World} {base : Nat} {v : Value} {fs : List Fb} {nm bd : List UInt8} (h : Own w base 67 2 cF2 v (fs ++ [(nm, bd)])) : ∃ g c, v = .slice (some ⟨g, 0, none⟩) (fs.length + 1) c ∧ fs.length + 1 ≤ c ∧ base ≤ g ∧ g < w.heap.size ∧ w.cell? ⟨g, fs.length * 2, none⟩ = some (.string (tx nm)) ∧ w.cell? ⟨g, fs.length * 2 + 1, none⟩ = some (.string (tx bd)) ∧ w.frozen? ⟨g, fs.length * 2 + 1, none⟩ = false ∧ ∀ y, Own (w.setCell ⟨g, fs.length * 2 + 1, none⟩ (.string (tx y))) base 67 2 cF2 v (fs ++ [(nm, y)]) := by
 obtain ⟨k, hk⟩ : ∃ k, fs.length = k := ⟨_, rfl⟩
 have hlen : ∀ y : Fb, (fs ++ [y]).length = k + 1 := fun y => by rw [List.length_append, hk]; rfl
 rcases h.rowOf with ⟨_, e⟩ | ⟨g, c, cs, rfl, hb, hr, hc, hm, hl, ht⟩
 ·simp at e
 ·rw [hlen] at hc ht ⊢
  have hF : (fs.flatMap cF2).length = k * 2 := by rw [flatMap_length cF2 2 cF2_length, hk]
  have hcs : cs = fs.flatMap cF2 ++ (.string (tx nm) :: .string (tx bd) :: cs.drop ((k + 1) * 2)) := by
   conv => lhs; rw [← List.take_append_drop ((k + 1) * 2) cs, ht, List.flatMap_append]
   simp [cF2]
  have hset : ∀ y, cs.set (k * 2 + 1) (.string (tx y)) = fs.flatMap cF2 ++ (.string (tx nm) :: .string (tx y) :: cs.drop ((k + 1) * 2)) := fun y => by
   conv => lhs; rw [hcs]
   rw [List.set_append_right _ _ (by omega), hF, Nat.add_sub_cancel_left]
   rfl
  rw [hk]
  refine ⟨g, c, rfl, hc, hb, hr.lt, ?_, ?_, hr.fz _, fun y => ?_⟩
  ·rw [hr.cell, hcs, List.getElem?_append_right (by omega), hF, Nat.sub_self]
   rfl
  ·rw [hr.cell, hcs, List.getElem?_append_right (by omega), hF, Nat.add_sub_cancel_left]
   rfl
  ·have := Own.ofRow (xs := fs ++ [(nm, y)]) (base := base) (c := c) cF2_length hb (hr.set (k * 2 + 1) (.string (tx y))) (by rw [hlen]; exact hc) hm (by rw [List.length_set, hl]) (by
    rw [hlen, hset, List.flatMap_append, List.take_append, hF, List.take_of_length_le (by omega), show (k + 1) * 2 - k * 2 = 2 by omega]
    rfl)
   rwa [hlen] at this
end Go.Proofs.YtibelollgdnidaaGreatDoor
