/- mail: Parse. -/
import Derived.Test.YtibelollgdnidaaGreatDoorMMr2
namespace Go.Proofs.YtibelollgdnidaaGreatDoor
open Go.RowKit
theorem msg_made {w W3 W4 : World} {b4 : Nat} {v0 v1 v2 v3 v4 v5 v6 v7 v8 : Value} (h3 : w.alloc (.cells #[.string ⟨#[]⟩, .string ⟨#[]⟩, .string ⟨#[]⟩, .string ⟨#[]⟩, .int .i64 0, .int .i64 0, .string ⟨#[]⟩, .slice none 0 0, .string ⟨#[]⟩] 47) = W3) (hb : w.heap.size = b4) (h4 : Go.Proofs.YtibelollgdnidaaGreatDoor.st9 W3 b4 v0 v1 v2 v3 v4 v5 v6 v7 v8 = W4) : Below w.heap.size w W4 ∧ Row W4 b4 [v0, v1, v2, v3, v4, v5, v6, v7, v8] 47 ∧ Row W3 b4 [.string ⟨#[]⟩, .string ⟨#[]⟩, .string ⟨#[]⟩, .string ⟨#[]⟩, .int .i64 0, .int .i64 0, .string ⟨#[]⟩, .slice none 0 0, .string ⟨#[]⟩] 47 := by
 subst h3 hb h4
 have r := Row.new w [.string ⟨#[]⟩, .string ⟨#[]⟩, .string ⟨#[]⟩, .string ⟨#[]⟩, .int .i64 0, .int .i64 0, .string ⟨#[]⟩, .slice none 0 0, .string ⟨#[]⟩] 47
 exact ⟨(below_alloc w _).trans (One.st9.below (Nat.le_refl _) (by rw [World.size_alloc]; omega)), r.st9 rfl, r⟩
set_option maxRecDepth 100000 in
set_option maxHeartbeats 3200000 in
theorem parse10 (T : List UInt8) (hs : List (List UInt8)) (w0 w : World) (hL : Ldz w0 w) (ho : HpL hs) (hB : T.length ≤ 32768) :
  Calls Tryz.prog 10 #[.string (tx (msT hs T))] w fun e w' => ∃ A n c, e = .returned (.tuple #[.agg (aMs A n c (tx T)), .int .i64 0, .int .i64 0]) ∧ HpS w' (.slice A n c) hs ∧ Below w.heap.size w w' := by
 obtain ⟨u1, h1⟩ : ∃ x : ByteArray, (⟨#[100, 105, 103, 101, 115, 116]⟩ : ByteArray) = x := ⟨_, rfl⟩
 obtain ⟨y1, h2⟩ : ∃ x : ByteArray, (⟨#[97]⟩ : ByteArray) = x := ⟨_, rfl⟩
 obtain ⟨u2, h3⟩ : ∃ x : ByteArray, (⟨#[114, 101, 97, 100, 101, 114]⟩ : ByteArray) = x := ⟨_, rfl⟩
 obtain ⟨y2, h4⟩ : ∃ x : ByteArray, (⟨#[98]⟩ : ByteArray) = x := ⟨_, rfl⟩
 obtain ⟨sb, h5⟩ : ∃ x : ByteArray, (⟨#[66, 111, 97, 116, 115]⟩ : ByteArray) = x := ⟨_, rfl⟩
 obtain ⟨S, hS⟩ : ∃ x, tx (msT hs T) = x := ⟨_, rfl⟩
 obtain ⟨B, hBT⟩ : ∃ x, tx T = x := ⟨_, rfl⟩
 obtain ⟨HD, hHD⟩ : ∃ x, tx (hdT (flds hs)) = x := ⟨_, rfl⟩
 obtain ⟨m, hm, hix⟩ := hd_index _ _ T (fldsOk ho)
 have hmT : (msT hs T).length = m + 1 + 1 + T.length := by
  show (hdT (flds hs) ++ 10 :: T).length = _
  rw [List.length_append, List.length_cons]
  show (hdT (flds hs)).length + _ = _
  rw [show (hdT (flds hs)).length = m + 1 from hm]
  omega
 have hHl := hdT_len (flds hs) (fldsOk ho)
 have hm5 : (m : Int) ≤ 500 := by
  have h6 : (flds hs).length = 6 := rfl
  rw [show (hdT (flds hs)).length = m + 1 from hm, h6] at hHl
  omega
 have hzS : S.size = m + 2 + T.length := by rw [← hS, tx_size, hmT]
 have hx1 : S.extract 0 (m + 1) = HD := by
  have := ext_part (msT hs T) 0 (hdT (flds hs)) (10 :: T) rfl
  rwa [Nat.zero_add, show (hdT (flds hs)).length = m + 1 from hm, hS, hHD] at this
 have hx2 : S.extract (m + 2) S.size = B := by
  have := ext_from (msT hs T) (m + 2) T (by
   show (hdT (flds hs) ++ 10 :: T).drop (m + 2) = T
   rw [show m + 2 = (hdT (flds hs) ++ [10]).length by rw [List.length_append, show (hdT (flds hs)).length = m + 1 from hm]; rfl, show hdT (flds hs) ++ 10 :: T = (hdT (flds hs) ++ [10]) ++ T by simp, List.drop_left])
  rwa [hS, hBT] at this
 have hIx := fun (u : World) (hu : Ldz w0 u) => (by
  obtain ⟨k, hk⟩ := hu.len
  have := Tryz.strings_Index S ⟨#[10, 10]⟩ k u (by rw [hzS]; omega) hk
  rw [show S.data.toList = hdT (flds hs) ++ 10 :: T by rw [← hS, tx_data]; rfl] at this
  rw [show Lib.index (hdT (flds hs) ++ 10 :: T) (⟨#[10, 10]⟩ : ByteArray).data.toList = (m : Int) from hix] at this
  exact this : Calls Tryz.prog 27 #[.string S, .string ⟨#[10, 10]⟩] u fun e w' => e = .returned (.int .i64 (m : Int)) ∧ w' = u)
 have hPs := fun u : World => parse28 (flds hs) u (fldsOk ho) (Nat.le_refl 6)
 rw [hHD] at hPs
 have hRd := fun (v : Value) (base : Nat) (u : World) (hu : Ldz w0 u) (h : Own u base 67 2 cF2 v (fbs (flds hs))) => read29 v base hs w0 u hu h ho
 have HMg := Lib.hid (show ∀ (A : Option Addr) (n c : Nat) (B : ByteArray), Value.agg (aMs A n c B) = .agg #[.string u1, .string y1, .string u2, .string y2, .int .i64 0, .int .i64 100, .string sb, .slice A n c, .string B] from fun A n c B => by unfold aMs; rw [h1, h2, h3, h4, h5])
 have hPr := fun (A : Option Addr) (n c : Nat) (u : World) (hu : Ldz w0 u) (h : HpS u (.slice A n c) hs) => print9 A n c T hs w0 u hu h ho hB
 simp only [hBT, hS, HMg.out] at hPr
 simp only [HMg.out] at hRd
 have HC := Lib.hid (And.intro hIx (And.intro hPs (And.intro hRd (And.intro hPr (show ∀ x ∈ hs, x ≠ [] from fun x hx e => by have := (ho.two x hx).1; rw [e] at this; cases this)))))
 rw [hS, hBT]
 have g0 : (m : Int) + 1 ≤ (S.size : Int) := by omega
 have g1 : (m : Int) + 2 ≤ (S.size : Int) := by omega
 have g2 : ((m : Int) + 1).toNat = m + 1 := by omega
 have g3 : ((m : Int) + 2).toNat = m + 2 := by omega
 have g4 : 0 ≤ (m : Int) + 1 := by omega
 have g5 : 0 ≤ (m : Int) + 2 := by omega
 clear hIx hPs hRd hPr h1 h2 h3 h4 h5 hS hBT hHD hm hix hmT hHl hzS ho hB
 obtain ⟨b, hb⟩ : ∃ b, w.heap.size = b := ⟨_, rfl⟩
 obtain ⟨W1, hW1⟩ : ∃ W, w.alloc (.cells #[.string ⟨#[]⟩, .string ⟨#[]⟩, .string ⟨#[]⟩, .string ⟨#[]⟩, .int .i64 0, .int .i64 0, .string ⟨#[]⟩, .slice none 0 0, .string ⟨#[]⟩] 47) = W := ⟨_, rfl⟩
 have r1 := Row.new w [.string ⟨#[]⟩, .string ⟨#[]⟩, .string ⟨#[]⟩, .string ⟨#[]⟩, .int .i64 0, .int .i64 0, .string ⟨#[]⟩, .slice none 0 0, .string ⟨#[]⟩] 47
 have b1 := below_alloc w (.cells #[.string ⟨#[]⟩, .string ⟨#[]⟩, .string ⟨#[]⟩, .string ⟨#[]⟩, .int .i64 0, .int .i64 0, .string ⟨#[]⟩, .slice none 0 0, .string ⟨#[]⟩] 47)
 rw [hW1] at b1
 rw [show w.alloc (.cells [.string ⟨#[]⟩, .string ⟨#[]⟩, .string ⟨#[]⟩, .string ⟨#[]⟩, .int .i64 0, .int .i64 0, .string ⟨#[]⟩, .slice none 0 0, .string ⟨#[]⟩].toArray 47) = W1 from hW1, hb] at r1
 have S1 := Lib.hid (And.intro (hL.keep b1) (And.intro b1 r1))
 clear hL b1 r1
 go_enter Tryz.func10, Tryz.ntmps10
 go_wp2_with (first
  | (go_at_call 27; refine (HC.out.1 _ S1.out.1).mono ?_; rintro e w2 ⟨rfl, rfl⟩)
  | (go_at_call 28; refine (HC.out.2.1 _).mono ?_; rintro e w3 ⟨v3, rfl, ho3, hb3⟩; have S3 := Lib.hid (And.intro ho3 (And.intro (S1.out.1.keep hb3) (And.intro (Below.step S1.out.2.1 hb3) (S1.out.2.2.keep hb3)))); clear ho3 hb3 S1)
  | (go_at_call 29; refine (HC.out.2.2.1 _ _ _ S3.out.2.1 S3.out.1).mono ?_; rintro e w4 ⟨A4, n4, c4, rfl, hh4, hb4⟩; obtain ⟨b5, hb5⟩ : ∃ b, w4.heap.size = b := ⟨_, rfl⟩; obtain ⟨W5, hW5⟩ : ∃ W, w4.alloc (.cells #[.string ⟨#[]⟩, .string ⟨#[]⟩, .string ⟨#[]⟩, .string ⟨#[]⟩, .int .i64 0, .int .i64 0, .string ⟨#[]⟩, .slice none 0 0, .string ⟨#[]⟩] 47) = W := ⟨_, rfl⟩; obtain ⟨W6, hW6⟩ : ∃ W, (((((((((W5.setCell ⟨b5, 0, none⟩ (.string u1)).setCell ⟨b5, 1, none⟩ (.string y1)).setCell ⟨b5, 2, none⟩ (.string u2)).setCell ⟨b5, 3, none⟩ (.string y2)).setCell ⟨b5, 4, none⟩ (.int .i64 0)).setCell ⟨b5, 5, none⟩ (.int .i64 100)).setCell ⟨b5, 6, none⟩ (.string sb)).setCell ⟨b5, 7, none⟩ (.slice A4 n4 c4)).setCell ⟨b5, 8, none⟩ (.string ⟨#[]⟩)) = W := ⟨_, rfl⟩; have S6 := Lib.hid (msg_made (v0 := .string u1) (v1 := .string y1) (v2 := .string u2) (v3 := .string y2) (v4 := .int .i64 0) (v5 := .int .i64 100) (v6 := .string sb) (v7 := .slice A4 n4 c4) (v8 := .string ⟨#[]⟩) hW5 hb5 hW6); have i0 := S6.out.2.2.cell 0; have j0 := S6.out.2.2.fz 0; have i1 := S6.out.2.2.cell 1; have j1 := S6.out.2.2.fz 1; have i2 := S6.out.2.2.cell 2; have j2 := S6.out.2.2.fz 2; have i3 := S6.out.2.2.cell 3; have j3 := S6.out.2.2.fz 3; have i4 := S6.out.2.2.cell 4; have j4 := S6.out.2.2.fz 4; have i5 := S6.out.2.2.cell 5; have j5 := S6.out.2.2.fz 5; have i6 := S6.out.2.2.cell 6; have j6 := S6.out.2.2.fz 6; have i7 := S6.out.2.2.cell 7; have j7 := S6.out.2.2.fz 7; have i8 := S6.out.2.2.cell 8; have j8 := S6.out.2.2.fz 8; obtain ⟨W7, hW7⟩ : ∃ W, W6.setCell ⟨b5, 8, none⟩ (.string B) = W := ⟨_, rfl⟩; have r7 := S6.out.2.1.set 8 (.string B); rw [hW7] at r7; have o7 : One b5 W6 W7 := hW7 ▸ One.set 8 _; have p7 := S6.out.2.1.fz 8; have p8 := S6.out.2.1.cell 8; have d0 := r7.cell 0; have d1 := r7.cell 1; have d2 := r7.cell 2; have d3 := r7.cell 3; have d4 := r7.cell 4; have d5 := r7.cell 5; have d6 := r7.cell 6; have d7 := r7.cell 7; have d8 := r7.cell 8; have hb7 : Below w4.heap.size w4 W7 := S6.out.1.trans (o7.below (Nat.le_of_eq hb5) S6.out.1.size); have S7 := Lib.hid (show HpS W7 (.slice A4 n4 c4) hs ∧ Ldz w0 W7 ∧ Below w.heap.size w W7 ∧ Row W7 b [.string ⟨#[]⟩, .string ⟨#[]⟩, .string ⟨#[]⟩, .string ⟨#[]⟩, .int .i64 0, .int .i64 0, .string ⟨#[]⟩, .slice none 0 0, .string ⟨#[]⟩] 47 ∧ Row W7 b5 [.string u1, .string y1, .string u2, .string y2, .int .i64 0, .int .i64 100, .string sb, .slice A4 n4 c4, .string B] 47 from ⟨hh4.keep hb7, (S3.out.2.1.keep hb4).keep hb7, Below.step (Below.step S3.out.2.2.1 hb4) hb7, (S3.out.2.2.2.keep hb4).keep hb7, r7⟩); clear hh4 hb4 hb7 o7 r7)
  | (go_at_call 9; refine (HC.out.2.2.2.1 A4 n4 c4 _ S7.out.2.1 S7.out.1).mono ?_; rintro e w8 ⟨rfl, hb8⟩; have r8 := S7.out.2.2.2.2.keep hb8; have z8 := S7.out.2.2.2.1.keep hb8; have k0 := r8.cell 0; have k1 := r8.cell 1; have k2 := r8.cell 2; have k3 := r8.cell 3; have k4 := r8.cell 4; have k5 := r8.cell 5; have k6 := r8.cell 6; have k7 := r8.cell 7; have k8 := r8.cell 8; have l0 := z8.cell 0; have q0 := z8.fz 0; have l1 := z8.cell 1; have q1 := z8.fz 1; have l2 := z8.cell 2; have q2 := z8.fz 2; have l3 := z8.cell 3; have q3 := z8.fz 3; have l4 := z8.cell 4; have q4 := z8.fz 4; have l5 := z8.cell 5; have q5 := z8.fz 5; have l6 := z8.cell 6; have q6 := z8.fz 6; have l7 := z8.cell 7; have q7 := z8.fz 7; have l8 := z8.cell 8; have q8 := z8.fz 8; have S8 := Lib.hid (And.intro (S7.out.1.keep hb8) (And.intro (Below.step S7.out.2.2.1 hb8) z8)); clear hb8 r8 z8))
 have r9 := S8.out.2.2.st9 (v0 := .string u1) (v1 := .string y1) (v2 := .string u2) (v3 := .string y2) (v4 := .int .i64 0) (v5 := .int .i64 100) (v6 := .string sb) (v7 := .slice A4 n4 c4) (v8 := .string B) rfl
 refine bodyPost_ret (results_c3 (ad := ⟨b, 0, none⟩) rfl rfl (ldMs r9) rfl rfl) rfl ⟨A4, n4, c4, (by rw [HMg.out]; rfl), S8.out.1.st9 S8.out.2.2 HC.out.2.2.2.2, ?_⟩
 rw [hb]
 exact (hb ▸ S8.out.2.1).trans (One.st9.below (Nat.le_refl _) (hb ▸ S8.out.2.1.size))
end Go.Proofs.YtibelollgdnidaaGreatDoor
