/- mail: Equal, Pass. -/
import Derived.Test.YtibelollgdnidaaGreatDoorMMl3
namespace Go.Proofs.YtibelollgdnidaaGreatDoor
open Go.RowKit
theorem equalS30 (A A' : Option Addr) (n c n' c' : Nat) (hs : List (List UInt8)) (w : World) (h : HpS w (.slice A n c) hs) (h' : HpS w (.slice A' n' c') hs) (hl : hs.length ≤ 100) :
  Calls Tryz.prog 30 #[.slice A n c, .slice A' n' c'] w fun e w' => e = .returned (.bool true) ∧ Below w.heap.size w w' := by
 rcases h with ⟨rfl, X, y, h⟩ | ⟨h0, g, d, h, h1, h2, h3⟩
 ·rcases h' with ⟨-, X', y', h'⟩ | ⟨h0, -⟩
  ·injection h with e1 e2 e3
   injection h' with e4 e5 e6
   subst e1 e2 e3 e4 e5 e6
   exact (Tryz.slices_Equal_string_empty A A' c 0 c' w (by omega)).mono fun e w' ⟨h1, h2⟩ => ⟨h1, by rw [h2]; exact Below.refl _ _⟩
  ·exact absurd rfl h0
 ·rcases h' with ⟨h0', -⟩ | ⟨h0', g', d', h', h1', h2', h3'⟩
  ·exact absurd h0' h0
  ·injection h with e1 e2 e3
   injection h' with e4 e5 e6
   subst e1 e2 e3 e4 e5 e6
   refine (Tryz.slices_Equal_string g 0 hs.length c g' 0 hs.length c' (hs.map tx) (hs.map tx) w (by simp) (by simp) (by omega) (by omega) (hop_zs h3) (hop_zs h3')).mono ?_
   rintro e w' ⟨rfl, q, rfl⟩
   exact ⟨by rw [decide_eq_true rfl], below_drewN _ _⟩
set_option maxRecDepth 100000 in
set_option maxHeartbeats 1600000 in
theorem equal11 (A A' : Option Addr) (n c n' c' : Nat) (B : ByteArray) (hs : List (List UInt8)) (w : World) (h : HpS w (.slice A n c) hs) (h' : HpS w (.slice A' n' c') hs) (hl : hs.length ≤ 100) :
  Calls Tryz.prog 11 #[.agg (aMs A n c B), .agg (aMs A' n' c' B)] w fun e w' => e = .returned (.bool true) ∧ Below w.heap.size w w' := by
 obtain ⟨u1, h1⟩ : ∃ x : ByteArray, (⟨#[100, 105, 103, 101, 115, 116]⟩ : ByteArray) = x := ⟨_, rfl⟩
 obtain ⟨s1, h2⟩ : ∃ x : ByteArray, (⟨#[97]⟩ : ByteArray) = x := ⟨_, rfl⟩
 obtain ⟨u2, h3⟩ : ∃ x : ByteArray, (⟨#[114, 101, 97, 100, 101, 114]⟩ : ByteArray) = x := ⟨_, rfl⟩
 obtain ⟨s2, h4⟩ : ∃ x : ByteArray, (⟨#[98]⟩ : ByteArray) = x := ⟨_, rfl⟩
 obtain ⟨sb, h5⟩ : ∃ x : ByteArray, (⟨#[66, 111, 97, 116, 115]⟩ : ByteArray) = x := ⟨_, rfl⟩
 unfold aMs
 rw [h1, h2, h3, h4, h5]
 clear h1 h2 h3 h4 h5
 obtain ⟨W1, hW1⟩ : ∃ W, w.alloc (.cells #[.string u1, .string s1, .string u2, .string s2, .int .i64 0, .int .i64 100, .string sb, .slice A n c, .string B] 47) = W := ⟨_, rfl⟩
 have r1 := Row.new w [.string u1, .string s1, .string u2, .string s2, .int .i64 0, .int .i64 100, .string sb, .slice A n c, .string B] 47
 have b1 := below_alloc w (.cells #[.string u1, .string s1, .string u2, .string s2, .int .i64 0, .int .i64 100, .string sb, .slice A n c, .string B] 47)
 have z1 : W1.heap.size = w.heap.size + 1 := by rw [← hW1, World.size_alloc]
 rw [show w.alloc (.cells #[.string u1, .string s1, .string u2, .string s2, .int .i64 0, .int .i64 100, .string sb, .slice A n c, .string B] 47) = W1 from hW1] at b1
 rw [show w.alloc (.cells [.string u1, .string s1, .string u2, .string s2, .int .i64 0, .int .i64 100, .string sb, .slice A n c, .string B].toArray 47) = W1 from hW1] at r1
 obtain ⟨W2, hW2⟩ : ∃ W, W1.alloc (.cells #[.string u1, .string s1, .string u2, .string s2, .int .i64 0, .int .i64 100, .string sb, .slice A' n' c', .string B] 47) = W := ⟨_, rfl⟩
 have r2 := Row.new W1 [.string u1, .string s1, .string u2, .string s2, .int .i64 0, .int .i64 100, .string sb, .slice A' n' c', .string B] 47
 have b2 := below_alloc W1 (.cells #[.string u1, .string s1, .string u2, .string s2, .int .i64 0, .int .i64 100, .string sb, .slice A' n' c', .string B] 47)
 have z2 : W2.heap.size = W1.heap.size + 1 := by rw [← hW2, World.size_alloc]
 rw [show W1.alloc (.cells #[.string u1, .string s1, .string u2, .string s2, .int .i64 0, .int .i64 100, .string sb, .slice A' n' c', .string B] 47) = W2 from hW2] at b2
 rw [show W1.alloc (.cells [.string u1, .string s1, .string u2, .string s2, .int .i64 0, .int .i64 100, .string sb, .slice A' n' c', .string B].toArray 47) = W2 from hW2] at r2
 have rr1 := r1.keep b2
 have d0 := rr1.cell 0
 have d1 := rr1.cell 1
 have d2 := rr1.cell 2
 have d3 := rr1.cell 3
 have d4 := rr1.cell 4
 have d5 := rr1.cell 5
 have d6 := rr1.cell 6
 have d7 := rr1.cell 7
 have d8 := rr1.cell 8
 have e0 := r2.cell 0
 have e1 := r2.cell 1
 have e2 := r2.cell 2
 have e3 := r2.cell 3
 have e4 := r2.cell 4
 have e5 := r2.cell 5
 have e6 := r2.cell 6
 have e7 := r2.cell 7
 have e8 := r2.cell 8
 have e1' : (u1.toList == u1.toList) = true := beq_self_eq_true _
 have e2' : (s1.toList == s1.toList) = true := beq_self_eq_true _
 have e3' : (u2.toList == u2.toList) = true := beq_self_eq_true _
 have e4' : (s2.toList == s2.toList) = true := beq_self_eq_true _
 have e5' : (sb.toList == sb.toList) = true := beq_self_eq_true _
 have e6' : (B.toList == B.toList) = true := beq_self_eq_true _
 have S := Lib.hid (And.intro ((h.keep b1).keep b2) (And.intro ((h'.keep b1).keep b2) (And.intro (Below.step b1 b2) (And.intro rr1 r2))))
 clear b1 b2 r1 rr1 r2 h h'
 rw [z1] at e0 e1 e2 e3 e4 e5 e6 e7 e8
 go_enter Tryz.func11, Tryz.ntmps11
 go_wp2_with (go_at_call 30; refine (equalS30 A A' n c n' c' hs _ S.out.1 S.out.2.1 hl).mono ?_; rintro e w3 ⟨rfl, hb3⟩; have f8 := (S.out.2.2.2.1.keep hb3).cell 8; have g8 := (S.out.2.2.2.2.keep hb3).cell 8; rw [z1] at g8; have S3 := Lib.hid (Below.step S.out.2.2.1 hb3); clear hb3)
 go_ret
 exact ⟨rfl, S3.out⟩
def vZM : Value := .agg #[.string ⟨#[]⟩, .string ⟨#[]⟩, .string ⟨#[]⟩, .string ⟨#[]⟩, .int .i64 0, .int .i64 0, .string ⟨#[]⟩, .slice none 0 0, .string ⟨#[]⟩]
section
set_option maxRecDepth 100000
set_option maxHeartbeats 3200000
theorem pass12_loop (A : Option Addr) (n c : Nat) (B : ByteArray) (hs : List (List UInt8)) (x : List UInt8) (w : World) (h : HpS w (.slice A n c) hs) (ho : HpOk hs) (hB : B.size ≤ 32768) (hx : siteB x = true) (hx2 : x.length ≤ 30) (hm : x ∈ hs) :
  Calls Tryz.prog 12 #[.agg (aMs A n c B), .string (tx x)] w fun e w' => e = .returned (.tuple #[vZM, .int .i64 24]) ∧ Below w.heap.size w w' := by
 have hd := Lib.hid (show decide (x ∈ hs) = true from decide_eq_true hm)
 obtain ⟨u1, h1⟩ : ∃ x : ByteArray, (⟨#[100, 105, 103, 101, 115, 116]⟩ : ByteArray) = x := ⟨_, rfl⟩
 obtain ⟨s1, h2⟩ : ∃ x : ByteArray, (⟨#[97]⟩ : ByteArray) = x := ⟨_, rfl⟩
 obtain ⟨u2, h3⟩ : ∃ x : ByteArray, (⟨#[114, 101, 97, 100, 101, 114]⟩ : ByteArray) = x := ⟨_, rfl⟩
 obtain ⟨s2, h4⟩ : ∃ x : ByteArray, (⟨#[98]⟩ : ByteArray) = x := ⟨_, rfl⟩
 obtain ⟨sb, h5⟩ : ∃ x : ByteArray, (⟨#[66, 111, 97, 116, 115]⟩ : ByteArray) = x := ⟨_, rfl⟩
 have HMg := Lib.hid (show ∀ (A : Option Addr) (n c : Nat), Value.agg (aMs A n c B) = .agg #[.string u1, .string s1, .string u2, .string s2, .int .i64 0, .int .i64 100, .string sb, .slice A n c, .string B] from fun A n c => by unfold aMs; rw [h1, h2, h3, h4, h5])
 have HM := Lib.hid (HMg.out A n c)
 rw [HM.out]
 clear h1 h2 h3 h4 h5
 obtain ⟨W1, hW1⟩ : ∃ W, w.alloc (.cells #[.string u1, .string s1, .string u2, .string s2, .int .i64 0, .int .i64 100, .string sb, .slice A n c, .string B] 47) = W := ⟨_, rfl⟩
 have r1 := Row.new w [.string u1, .string s1, .string u2, .string s2, .int .i64 0, .int .i64 100, .string sb, .slice A n c, .string B] 47
 have b1 := below_alloc w (.cells #[.string u1, .string s1, .string u2, .string s2, .int .i64 0, .int .i64 100, .string sb, .slice A n c, .string B] 47)
 have z1 : W1.heap.size = w.heap.size + 1 := by rw [← hW1, World.size_alloc]
 rw [show w.alloc (.cells #[.string u1, .string s1, .string u2, .string s2, .int .i64 0, .int .i64 100, .string sb, .slice A n c, .string B] 47) = W1 from hW1] at b1
 rw [show w.alloc (.cells [.string u1, .string s1, .string u2, .string s2, .int .i64 0, .int .i64 100, .string sb, .slice A n c, .string B].toArray 47) = W1 from hW1] at r1
 obtain ⟨W2, hW2⟩ : ∃ W, W1.alloc (.cells #[.string ⟨#[]⟩, .string ⟨#[]⟩, .string ⟨#[]⟩, .string ⟨#[]⟩, .int .i64 0, .int .i64 0, .string ⟨#[]⟩, .slice none 0 0, .string ⟨#[]⟩] 47) = W := ⟨_, rfl⟩
 have r2 := Row.new W1 [.string ⟨#[]⟩, .string ⟨#[]⟩, .string ⟨#[]⟩, .string ⟨#[]⟩, .int .i64 0, .int .i64 0, .string ⟨#[]⟩, .slice none 0 0, .string ⟨#[]⟩] 47
 have b2 := below_alloc W1 (.cells #[.string ⟨#[]⟩, .string ⟨#[]⟩, .string ⟨#[]⟩, .string ⟨#[]⟩, .int .i64 0, .int .i64 0, .string ⟨#[]⟩, .slice none 0 0, .string ⟨#[]⟩] 47)
 have z2 : W2.heap.size = W1.heap.size + 1 := by rw [← hW2, World.size_alloc]
 rw [show W1.alloc (.cells #[.string ⟨#[]⟩, .string ⟨#[]⟩, .string ⟨#[]⟩, .string ⟨#[]⟩, .int .i64 0, .int .i64 0, .string ⟨#[]⟩, .slice none 0 0, .string ⟨#[]⟩] 47) = W2 from hW2] at b2
 rw [show W1.alloc (.cells [.string ⟨#[]⟩, .string ⟨#[]⟩, .string ⟨#[]⟩, .string ⟨#[]⟩, .int .i64 0, .int .i64 0, .string ⟨#[]⟩, .slice none 0 0, .string ⟨#[]⟩].toArray 47) = W2 from hW2] at r2
 have rr1 := r1.keep b2
 have d0 := rr1.cell 0
 have d1 := rr1.cell 1
 have d2 := rr1.cell 2
 have d3 := rr1.cell 3
 have d4 := rr1.cell 4
 have d5 := rr1.cell 5
 have d6 := rr1.cell 6
 have d7 := rr1.cell 7
 have d8 := rr1.cell 8
 have HX := Lib.hid (And.intro ho (And.intro hB (And.intro hx hx2)))
 have HN := Lib.hid h.un.1
 have S := Lib.hid (And.intro ((h.keep b1).keep b2) (And.intro rr1 (And.intro r2 (And.intro (Below.step b1 b2) (show W2.heap.size = w.heap.size + 2 by omega)))))
 clear b1 b2 r1 rr1 r2 h ho hB hx hx2 z2
 go_enter Tryz.func12, Tryz.ntmps12
 go_wp2_with (first
  | (go_at_call 22; rw [← HM.out]; refine (check22 A n c B hs _ S.out.1 HX.out.1 HX.out.2.1).mono ?_; rintro e w3 ⟨rfl, hb3⟩; have r3 := S.out.2.1.keep hb3; have r4 := S.out.2.2.1.keep hb3; rw [z1] at r4; have c0 := r3.cell 0; have c1 := r3.cell 1; have c2 := r3.cell 2; have c3 := r3.cell 3; have c4 := r3.cell 4; have c5 := r3.cell 5; have c6 := r3.cell 6; have c7 := r3.cell 7; have c8 := r3.cell 8; have k0 := r4.cell 0; have f0 := r4.fz 0; have k1 := r4.cell 1; have f1 := r4.fz 1; have k2 := r4.cell 2; have f2 := r4.fz 2; have k3 := r4.cell 3; have f3 := r4.fz 3; have k4 := r4.cell 4; have f4 := r4.fz 4; have k5 := r4.cell 5; have f5 := r4.fz 5; have k6 := r4.cell 6; have f6 := r4.fz 6; have k7 := r4.cell 7; have f7 := r4.fz 7; have k8 := r4.cell 8; have f8 := r4.fz 8; have S3 := Lib.hid (And.intro (S.out.1.keep hb3) (And.intro r3 (And.intro r4 (And.intro (Below.step S.out.2.2.2.1 hb3) (show w.heap.size + 2 ≤ w3.heap.size by have := hb3.size; have := S.out.2.2.2.2; omega))))); clear S hb3 r3 r4)
  | (go_at_call 31; refine (site_yes (tx x) HX.out.2.2.1 _ (by rw [tx_size]; have := HX.out.2.2.2; omega)).mono ?_; rintro e w4 ⟨⟨a1, rfl⟩, rfl⟩)
  | (go_at_call 32; refine (contains32 _ hs x _ S3.out.1 (by have := HX.out.1.len; omega)).mono ?_; rintro e w4 ⟨rfl, rfl⟩; rw [hd.out]))
 have r7 := Row.st9 (v0 := .string ⟨#[]⟩) (v1 := .string ⟨#[]⟩) (v2 := .string ⟨#[]⟩) (v3 := .string ⟨#[]⟩) (v4 := .int .i64 0) (v5 := .int .i64 0) (v6 := .string ⟨#[]⟩) (v7 := .slice none 0 0) (v8 := .string ⟨#[]⟩) S3.out.2.2.1 rfl
 exact bodyPost_ret (results_c2 (ad := ⟨w.heap.size + 1, 0, none⟩) rfl rfl (ldMs r7) rfl) rfl ⟨rfl, S3.out.2.2.2.1.trans (One.st9.below (by omega) (by have := S3.out.2.2.2.2; omega))⟩
theorem pass12_limit (A : Option Addr) (n c : Nat) (B : ByteArray) (hs : List (List UInt8)) (x : List UInt8) (w : World) (h : HpS w (.slice A n c) hs) (ho : HpOk hs) (hB : B.size ≤ 32768) (hx : siteB x = true) (hx2 : x.length ≤ 30) (hm : x ∉ hs) (hl : hs.length = 16) :
  Calls Tryz.prog 12 #[.agg (aMs A n c B), .string (tx x)] w fun e w' => e = .returned (.tuple #[vZM, .int .i64 9]) ∧ Below w.heap.size w w' := by
 have hd := Lib.hid (show decide (x ∈ hs) = false from decide_eq_false hm)
 have hn16 : 16 ≤ (n : Int) := by have := h.un.1; omega
 clear hl
 obtain ⟨u1, h1⟩ : ∃ x : ByteArray, (⟨#[100, 105, 103, 101, 115, 116]⟩ : ByteArray) = x := ⟨_, rfl⟩
 obtain ⟨s1, h2⟩ : ∃ x : ByteArray, (⟨#[97]⟩ : ByteArray) = x := ⟨_, rfl⟩
 obtain ⟨u2, h3⟩ : ∃ x : ByteArray, (⟨#[114, 101, 97, 100, 101, 114]⟩ : ByteArray) = x := ⟨_, rfl⟩
 obtain ⟨s2, h4⟩ : ∃ x : ByteArray, (⟨#[98]⟩ : ByteArray) = x := ⟨_, rfl⟩
 obtain ⟨sb, h5⟩ : ∃ x : ByteArray, (⟨#[66, 111, 97, 116, 115]⟩ : ByteArray) = x := ⟨_, rfl⟩
 have HMg := Lib.hid (show ∀ (A : Option Addr) (n c : Nat), Value.agg (aMs A n c B) = .agg #[.string u1, .string s1, .string u2, .string s2, .int .i64 0, .int .i64 100, .string sb, .slice A n c, .string B] from fun A n c => by unfold aMs; rw [h1, h2, h3, h4, h5])
 have HM := Lib.hid (HMg.out A n c)
 rw [HM.out]
 clear h1 h2 h3 h4 h5
 obtain ⟨W1, hW1⟩ : ∃ W, w.alloc (.cells #[.string u1, .string s1, .string u2, .string s2, .int .i64 0, .int .i64 100, .string sb, .slice A n c, .string B] 47) = W := ⟨_, rfl⟩
 have r1 := Row.new w [.string u1, .string s1, .string u2, .string s2, .int .i64 0, .int .i64 100, .string sb, .slice A n c, .string B] 47
 have b1 := below_alloc w (.cells #[.string u1, .string s1, .string u2, .string s2, .int .i64 0, .int .i64 100, .string sb, .slice A n c, .string B] 47)
 have z1 : W1.heap.size = w.heap.size + 1 := by rw [← hW1, World.size_alloc]
 rw [show w.alloc (.cells #[.string u1, .string s1, .string u2, .string s2, .int .i64 0, .int .i64 100, .string sb, .slice A n c, .string B] 47) = W1 from hW1] at b1
 rw [show w.alloc (.cells [.string u1, .string s1, .string u2, .string s2, .int .i64 0, .int .i64 100, .string sb, .slice A n c, .string B].toArray 47) = W1 from hW1] at r1
 obtain ⟨W2, hW2⟩ : ∃ W, W1.alloc (.cells #[.string ⟨#[]⟩, .string ⟨#[]⟩, .string ⟨#[]⟩, .string ⟨#[]⟩, .int .i64 0, .int .i64 0, .string ⟨#[]⟩, .slice none 0 0, .string ⟨#[]⟩] 47) = W := ⟨_, rfl⟩
 have r2 := Row.new W1 [.string ⟨#[]⟩, .string ⟨#[]⟩, .string ⟨#[]⟩, .string ⟨#[]⟩, .int .i64 0, .int .i64 0, .string ⟨#[]⟩, .slice none 0 0, .string ⟨#[]⟩] 47
 have b2 := below_alloc W1 (.cells #[.string ⟨#[]⟩, .string ⟨#[]⟩, .string ⟨#[]⟩, .string ⟨#[]⟩, .int .i64 0, .int .i64 0, .string ⟨#[]⟩, .slice none 0 0, .string ⟨#[]⟩] 47)
 have z2 : W2.heap.size = W1.heap.size + 1 := by rw [← hW2, World.size_alloc]
 rw [show W1.alloc (.cells #[.string ⟨#[]⟩, .string ⟨#[]⟩, .string ⟨#[]⟩, .string ⟨#[]⟩, .int .i64 0, .int .i64 0, .string ⟨#[]⟩, .slice none 0 0, .string ⟨#[]⟩] 47) = W2 from hW2] at b2
 rw [show W1.alloc (.cells [.string ⟨#[]⟩, .string ⟨#[]⟩, .string ⟨#[]⟩, .string ⟨#[]⟩, .int .i64 0, .int .i64 0, .string ⟨#[]⟩, .slice none 0 0, .string ⟨#[]⟩].toArray 47) = W2 from hW2] at r2
 have rr1 := r1.keep b2
 have d0 := rr1.cell 0
 have d1 := rr1.cell 1
 have d2 := rr1.cell 2
 have d3 := rr1.cell 3
 have d4 := rr1.cell 4
 have d5 := rr1.cell 5
 have d6 := rr1.cell 6
 have d7 := rr1.cell 7
 have d8 := rr1.cell 8
 have HX := Lib.hid (And.intro ho (And.intro hB (And.intro hx hx2)))
 have HN := Lib.hid h.un.1
 have S := Lib.hid (And.intro ((h.keep b1).keep b2) (And.intro rr1 (And.intro r2 (And.intro (Below.step b1 b2) (show W2.heap.size = w.heap.size + 2 by omega)))))
 clear b1 b2 r1 rr1 r2 h ho hB hx hx2 z2
 go_enter Tryz.func12, Tryz.ntmps12
 go_wp2_with (first
  | (go_at_call 22; rw [← HM.out]; refine (check22 A n c B hs _ S.out.1 HX.out.1 HX.out.2.1).mono ?_; rintro e w3 ⟨rfl, hb3⟩; have r3 := S.out.2.1.keep hb3; have r4 := S.out.2.2.1.keep hb3; rw [z1] at r4; have c0 := r3.cell 0; have c1 := r3.cell 1; have c2 := r3.cell 2; have c3 := r3.cell 3; have c4 := r3.cell 4; have c5 := r3.cell 5; have c6 := r3.cell 6; have c7 := r3.cell 7; have c8 := r3.cell 8; have k0 := r4.cell 0; have f0 := r4.fz 0; have k1 := r4.cell 1; have f1 := r4.fz 1; have k2 := r4.cell 2; have f2 := r4.fz 2; have k3 := r4.cell 3; have f3 := r4.fz 3; have k4 := r4.cell 4; have f4 := r4.fz 4; have k5 := r4.cell 5; have f5 := r4.fz 5; have k6 := r4.cell 6; have f6 := r4.fz 6; have k7 := r4.cell 7; have f7 := r4.fz 7; have k8 := r4.cell 8; have f8 := r4.fz 8; have S3 := Lib.hid (And.intro (S.out.1.keep hb3) (And.intro r3 (And.intro r4 (And.intro (Below.step S.out.2.2.2.1 hb3) (show w.heap.size + 2 ≤ w3.heap.size by have := hb3.size; have := S.out.2.2.2.2; omega))))); clear S hb3 r3 r4)
  | (go_at_call 31; refine (site_yes (tx x) HX.out.2.2.1 _ (by rw [tx_size]; have := HX.out.2.2.2; omega)).mono ?_; rintro e w4 ⟨⟨a1, rfl⟩, rfl⟩)
  | (go_at_call 32; refine (contains32 _ hs x _ S3.out.1 (by have := HX.out.1.len; omega)).mono ?_; rintro e w4 ⟨rfl, rfl⟩; rw [hd.out]))
 have r7 := Row.st9 (v0 := .string ⟨#[]⟩) (v1 := .string ⟨#[]⟩) (v2 := .string ⟨#[]⟩) (v3 := .string ⟨#[]⟩) (v4 := .int .i64 0) (v5 := .int .i64 0) (v6 := .string ⟨#[]⟩) (v7 := .slice none 0 0) (v8 := .string ⟨#[]⟩) S3.out.2.2.1 rfl
 exact bodyPost_ret (results_c2 (ad := ⟨w.heap.size + 1, 0, none⟩) rfl rfl (ldMs r7) rfl) rfl ⟨rfl, S3.out.2.2.2.1.trans (One.st9.below (by omega) (by have := S3.out.2.2.2.2; omega))⟩
theorem pass12 (A : Option Addr) (n c : Nat) (B : ByteArray) (hs : List (List UInt8)) (x : List UInt8) (w : World) (h : HpS w (.slice A n c) hs) (ho : HpOk hs) (hB : B.size ≤ 32768) (hx : siteB x = true) (hx2 : x.length ≤ 30) (hm : x ∉ hs) (hl : hs.length < 16) :
  Calls Tryz.prog 12 #[.agg (aMs A n c B), .string (tx x)] w fun e w' => ∃ A' n' c', e = .returned (.tuple #[.agg (aMs A' n' c' B), .int .i64 0]) ∧ Own w' w.heap.size 9 1 cS (.slice A' n' c') ((hs ++ [x]).map tx) ∧ Below w.heap.size w w' := by
 have hd := Lib.hid (show decide (x ∈ hs) = false from decide_eq_false hm)
 have hn16 : (n : Int) < 16 := by have := h.un.1; omega
 clear hl
 obtain ⟨u1, h1⟩ : ∃ x : ByteArray, (⟨#[100, 105, 103, 101, 115, 116]⟩ : ByteArray) = x := ⟨_, rfl⟩
 obtain ⟨s1, h2⟩ : ∃ x : ByteArray, (⟨#[97]⟩ : ByteArray) = x := ⟨_, rfl⟩
 obtain ⟨u2, h3⟩ : ∃ x : ByteArray, (⟨#[114, 101, 97, 100, 101, 114]⟩ : ByteArray) = x := ⟨_, rfl⟩
 obtain ⟨s2, h4⟩ : ∃ x : ByteArray, (⟨#[98]⟩ : ByteArray) = x := ⟨_, rfl⟩
 obtain ⟨sb, h5⟩ : ∃ x : ByteArray, (⟨#[66, 111, 97, 116, 115]⟩ : ByteArray) = x := ⟨_, rfl⟩
 have HMg := Lib.hid (show ∀ (A : Option Addr) (n c : Nat), Value.agg (aMs A n c B) = .agg #[.string u1, .string s1, .string u2, .string s2, .int .i64 0, .int .i64 100, .string sb, .slice A n c, .string B] from fun A n c => by unfold aMs; rw [h1, h2, h3, h4, h5])
 have HM := Lib.hid (HMg.out A n c)
 rw [HM.out]
 clear h1 h2 h3 h4 h5
 obtain ⟨W1, hW1⟩ : ∃ W, w.alloc (.cells #[.string u1, .string s1, .string u2, .string s2, .int .i64 0, .int .i64 100, .string sb, .slice A n c, .string B] 47) = W := ⟨_, rfl⟩
 have r1 := Row.new w [.string u1, .string s1, .string u2, .string s2, .int .i64 0, .int .i64 100, .string sb, .slice A n c, .string B] 47
 have b1 := below_alloc w (.cells #[.string u1, .string s1, .string u2, .string s2, .int .i64 0, .int .i64 100, .string sb, .slice A n c, .string B] 47)
 have z1 : W1.heap.size = w.heap.size + 1 := by rw [← hW1, World.size_alloc]
 rw [show w.alloc (.cells #[.string u1, .string s1, .string u2, .string s2, .int .i64 0, .int .i64 100, .string sb, .slice A n c, .string B] 47) = W1 from hW1] at b1
 rw [show w.alloc (.cells [.string u1, .string s1, .string u2, .string s2, .int .i64 0, .int .i64 100, .string sb, .slice A n c, .string B].toArray 47) = W1 from hW1] at r1
 obtain ⟨W2, hW2⟩ : ∃ W, W1.alloc (.cells #[.string ⟨#[]⟩, .string ⟨#[]⟩, .string ⟨#[]⟩, .string ⟨#[]⟩, .int .i64 0, .int .i64 0, .string ⟨#[]⟩, .slice none 0 0, .string ⟨#[]⟩] 47) = W := ⟨_, rfl⟩
 have r2 := Row.new W1 [.string ⟨#[]⟩, .string ⟨#[]⟩, .string ⟨#[]⟩, .string ⟨#[]⟩, .int .i64 0, .int .i64 0, .string ⟨#[]⟩, .slice none 0 0, .string ⟨#[]⟩] 47
 have b2 := below_alloc W1 (.cells #[.string ⟨#[]⟩, .string ⟨#[]⟩, .string ⟨#[]⟩, .string ⟨#[]⟩, .int .i64 0, .int .i64 0, .string ⟨#[]⟩, .slice none 0 0, .string ⟨#[]⟩] 47)
 have z2 : W2.heap.size = W1.heap.size + 1 := by rw [← hW2, World.size_alloc]
 rw [show W1.alloc (.cells #[.string ⟨#[]⟩, .string ⟨#[]⟩, .string ⟨#[]⟩, .string ⟨#[]⟩, .int .i64 0, .int .i64 0, .string ⟨#[]⟩, .slice none 0 0, .string ⟨#[]⟩] 47) = W2 from hW2] at b2
 rw [show W1.alloc (.cells [.string ⟨#[]⟩, .string ⟨#[]⟩, .string ⟨#[]⟩, .string ⟨#[]⟩, .int .i64 0, .int .i64 0, .string ⟨#[]⟩, .slice none 0 0, .string ⟨#[]⟩].toArray 47) = W2 from hW2] at r2
 have rr1 := r1.keep b2
 have d0 := rr1.cell 0
 have d1 := rr1.cell 1
 have d2 := rr1.cell 2
 have d3 := rr1.cell 3
 have d4 := rr1.cell 4
 have d5 := rr1.cell 5
 have d6 := rr1.cell 6
 have d7 := rr1.cell 7
 have d8 := rr1.cell 8
 have HX := Lib.hid (And.intro ho (And.intro hB (And.intro hx hx2)))
 have HN := Lib.hid h.un.1
 have S := Lib.hid (And.intro ((h.keep b1).keep b2) (And.intro rr1 (And.intro r2 (And.intro (Below.step b1 b2) (show W2.heap.size = w.heap.size + 2 by omega)))))
 clear b1 b2 r1 rr1 r2 h ho hB hx hx2 z2
 go_enter Tryz.func12, Tryz.ntmps12
 go_wp2_with (first
  | (go_at_call 22; rw [← HM.out]; refine (check22 A n c B hs _ S.out.1 HX.out.1 HX.out.2.1).mono ?_; rintro e w3 ⟨rfl, hb3⟩; have r3 := S.out.2.1.keep hb3; have r4 := S.out.2.2.1.keep hb3; rw [z1] at r4; have c0 := r3.cell 0; have c1 := r3.cell 1; have c2 := r3.cell 2; have c3 := r3.cell 3; have c4 := r3.cell 4; have c5 := r3.cell 5; have c6 := r3.cell 6; have c7 := r3.cell 7; have c8 := r3.cell 8; have k0 := r4.cell 0; have f0 := r4.fz 0; have k1 := r4.cell 1; have f1 := r4.fz 1; have k2 := r4.cell 2; have f2 := r4.fz 2; have k3 := r4.cell 3; have f3 := r4.fz 3; have k4 := r4.cell 4; have f4 := r4.fz 4; have k5 := r4.cell 5; have f5 := r4.fz 5; have k6 := r4.cell 6; have f6 := r4.fz 6; have k7 := r4.cell 7; have f7 := r4.fz 7; have k8 := r4.cell 8; have f8 := r4.fz 8; have S3 := Lib.hid (And.intro (S.out.1.keep hb3) (And.intro r3 (And.intro r4 (And.intro (Below.step S.out.2.2.2.1 hb3) (show w.heap.size + 2 ≤ w3.heap.size by have := hb3.size; have := S.out.2.2.2.2; omega))))); clear S hb3 r3 r4)
  | (go_at_call 31; refine (site_yes (tx x) HX.out.2.2.1 _ (by rw [tx_size]; have := HX.out.2.2.2; omega)).mono ?_; rintro e w4 ⟨⟨a1, rfl⟩, rfl⟩)
  | (go_at_call 32; refine (contains32 _ hs x _ S3.out.1 (by have := HX.out.1.len; omega)).mono ?_; rintro e w4 ⟨rfl, rfl⟩; rw [hd.out])
  | (go_at_call 33; rw [← HM.out]; refine (clone33 A n c B hs _ S3.out.1 (by have := HX.out.1.len; omega)).mono ?_; rintro e w5 ⟨A2, n2, c2, rfl, ho5, hb5⟩; rw [HMg.out A2 n2 c2]; have S5 := Lib.hid (And.intro ho5 (And.intro (S3.out.2.1.keep hb5) (And.intro (S3.out.2.2.1.keep hb5) (And.intro (Below.step S3.out.2.2.2.1 hb5) (show w.heap.size + 2 ≤ w5.heap.size by have := hb5.size; have := S3.out.2.2.2.2; omega))))); have hb5z := Lib.hid hb5.size; clear ho5 hb5; obtain ⟨W6, hW6⟩ : ∃ W, w5.alloc (.cells #[.string ⟨#[]⟩, .string ⟨#[]⟩, .string ⟨#[]⟩, .string ⟨#[]⟩, .int .i64 0, .int .i64 0, .string ⟨#[]⟩, .slice none 0 0, .string ⟨#[]⟩] 47) = W := ⟨_, rfl⟩; have r6 := Row.new w5 [.string ⟨#[]⟩, .string ⟨#[]⟩, .string ⟨#[]⟩, .string ⟨#[]⟩, .int .i64 0, .int .i64 0, .string ⟨#[]⟩, .slice none 0 0, .string ⟨#[]⟩] 47; have b6 := below_alloc w5 (.cells #[.string ⟨#[]⟩, .string ⟨#[]⟩, .string ⟨#[]⟩, .string ⟨#[]⟩, .int .i64 0, .int .i64 0, .string ⟨#[]⟩, .slice none 0 0, .string ⟨#[]⟩] 47); have z6 : W6.heap.size = w5.heap.size + 1 := (by rw [← hW6, World.size_alloc]); rw [show w5.alloc (.cells #[.string ⟨#[]⟩, .string ⟨#[]⟩, .string ⟨#[]⟩, .string ⟨#[]⟩, .int .i64 0, .int .i64 0, .string ⟨#[]⟩, .slice none 0 0, .string ⟨#[]⟩] 47) = W6 from hW6] at b6; rw [show w5.alloc (.cells [.string ⟨#[]⟩, .string ⟨#[]⟩, .string ⟨#[]⟩, .string ⟨#[]⟩, .int .i64 0, .int .i64 0, .string ⟨#[]⟩, .slice none 0 0, .string ⟨#[]⟩].toArray 47) = W6 from hW6] at r6; have p0 := r6.cell 0; have q0 := r6.fz 0; have p1 := r6.cell 1; have q1 := r6.fz 1; have p2 := r6.cell 2; have q2 := r6.fz 2; have p3 := r6.cell 3; have q3 := r6.fz 3; have p4 := r6.cell 4; have q4 := r6.fz 4; have p5 := r6.cell 5; have q5 := r6.fz 5; have p6 := r6.cell 6; have q6 := r6.fz 6; have p7 := r6.cell 7; have q7 := r6.fz 7; have p8 := r6.cell 8; have q8 := r6.fz 8; have r7 := Row.st9 (v0 := .string u1) (v1 := .string s1) (v2 := .string u2) (v3 := .string s2) (v4 := .int .i64 0) (v5 := .int .i64 100) (v6 := .string sb) (v7 := .slice A2 n2 c2) (v8 := .string B) r6 rfl; have o7 := (One.st9 (W := W6) (b := w5.heap.size) (v0 := .string u1) (v1 := .string s1) (v2 := .string u2) (v3 := .string s2) (v4 := .int .i64 0) (v5 := .int .i64 100) (v6 := .string sb) (v7 := .slice A2 n2 c2) (v8 := .string B)); obtain ⟨W7, hW7⟩ : ∃ W, st9 W6 w5.heap.size (.string u1) (.string s1) (.string u2) (.string s2) (.int .i64 0) (.int .i64 100) (.string sb) (.slice A2 n2 c2) (.string B) = W := ⟨_, rfl⟩; rw [hW7] at r7 o7; unfold st9 at hW7; have t7 := r7.cell 7; have hne := (fun k (hk : (Value.slice A2 n2 c2).ownBlock = some k) => (Own.lt S5.out.1 k hk).2); have ho7 := Own.same (Own.keep S5.out.1 b6) (fun k hk => o7.out k (by have := hne k hk; omega) (by have := hne k hk; omega)); have S7 := Lib.hid (And.intro r7 (And.intro o7 (And.intro b6 (And.intro z6 (And.intro hne ho7))))); clear r6 b6 r7 o7 hne ho7 z6)
  | (at_builtin; go_loud (refine wpList_append_sl_at _ rfl (.tmp 38) (.tmp 40) 29 rfl _ 9 1 16 cS underSs rowS (by decide) cS_length cS_one (.slice A2 n2 c2) (hs.map tx) rfl (Own.keep S7.out.2.2.2.2.2 (below_alloc _ _)) _ 1 _ [tx x] rfl (by simp) rfl (sl_newS _ _) (by rw [List.length_map]; have := HX.out.1.len; omega) (by rw [List.length_map]; have := HX.out.1.len; omega) (by have := S5.out.1; have := S7.out.2.1.size; have := S7.out.2.2.1.size; have := S5.out.2.2.2.1.size; rw [World.size_alloc]; have := hb5z.out; omega) ?_)))
 intro v3 w8 ho8 hg8 hat8
 obtain ⟨A3, c3, e3, -, -⟩ := ho8.sl
 obtain ⟨n3, hn3⟩ : ∃ n3, (hs.map tx ++ [tx x]).length = n3 := ⟨_, rfl⟩
 rw [hn3] at e3
 subst e3
 have hown7 : Own (W7.alloc (.cells #[.string (tx x)] 9)) w4.heap.size 9 1 cS (.slice A2 n2 c2) (hs.map tx) := Own.keep S7.out.2.2.2.2.2 (below_alloc _ _)
 have hz5 := S5.out.2.2.2.2
 have hz6 := S7.out.2.2.2.1
 have hz7 := S7.out.2.1.size
 have h54 := hb5z.out
 have h4 := S3.out.2.2.2.2
 have hp3 : ∀ k, (Value.slice A3 n3 c3).ownBlock = some k → k ≠ w5.heap.size := by
  intro k hk
  rcases hat8 with e | e
  ·have := S7.out.2.2.2.2.1 k (e.symm.trans hk)
   omega
  ·rw [e] at hk
   injection hk with hk
   omega
 have r8 := (S7.out.1.keep (below_alloc W7 (.cells #[.string (tx x)] 9))).same (hg8.block w5.heap.size (by rw [World.size_alloc]; omega) (fun e => by have := S7.out.2.2.2.2.1 _ e.symm; omega))
 have z8 := ((((S5.out.2.2.1.keep S7.out.2.2.1).same (S7.out.2.1.out (w.heap.size + 1) (by omega) (by omega))).keep (below_alloc W7 (.cells #[.string (tx x)] 9)))).grew hown7 hg8 (by omega)
 have hB8 := Own.grew hown7 hg8 (B := w.heap.size) (w0 := w) (((S5.out.2.2.2.1.trans (S7.out.2.2.1.mono (by omega))).trans (S7.out.2.1.below (by omega) (by omega))).trans ((below_alloc W7 (.cells #[.string (tx x)] 9)).mono (by omega))) (by omega) (by rw [World.size_alloc]; omega)
 have t8 := r8.cell 7
 have g8 := r8.fz 7
 obtain ⟨W9, hW9⟩ : ∃ W, w8.setCell ⟨w5.heap.size, 7, none⟩ (.slice A3 n3 c3) = W := ⟨_, rfl⟩
 have r9 := r8.set 7 (.slice A3 n3 c3)
 have z9 := z8.same (heap_set_other w8 w5.heap.size 7 (.slice A3 n3 c3) (w.heap.size + 1) (by omega))
 have hB9 := hB8.setCell (p := ⟨w5.heap.size, 7, none⟩) (by show w.heap.size ≤ w5.heap.size; omega) (.slice A3 n3 c3)
 have o9 := Own.same ho8 (fun k hk => heap_set_other w8 w5.heap.size 7 (.slice A3 n3 c3) k (hp3 k hk))
 rw [hW9] at r9 z9 hB9 o9
 have x0 := r9.cell 0
 have y0 := z9.cell 0
 have m0 := z9.fz 0
 have x1 := r9.cell 1
 have y1 := z9.cell 1
 have m1 := z9.fz 1
 have x2 := r9.cell 2
 have y2 := z9.cell 2
 have m2 := z9.fz 2
 have x3 := r9.cell 3
 have y3 := z9.cell 3
 have m3 := z9.fz 3
 have x4 := r9.cell 4
 have y4 := z9.cell 4
 have m4 := z9.fz 4
 have x5 := r9.cell 5
 have y5 := z9.cell 5
 have m5 := z9.fz 5
 have x6 := r9.cell 6
 have y6 := z9.cell 6
 have m6 := z9.fz 6
 have x7 := r9.cell 7
 have y7 := z9.cell 7
 have m7 := z9.fz 7
 have x8 := r9.cell 8
 have y8 := z9.cell 8
 have m8 := z9.fz 8
 have S9 := Lib.hid (And.intro r9 (And.intro z9 (And.intro hB9 o9)))
 clear r9 z9 hB9 o9 r8 z8 hB8 hg8 hown7 hat8 hp3 ho8 hz5 hz6 hz7
 go_wp2
 have r10 := Row.st9 (v0 := .string u1) (v1 := .string s1) (v2 := .string u2) (v3 := .string s2) (v4 := .int .i64 0) (v5 := .int .i64 100) (v6 := .string sb) (v7 := .slice A3 n3 c3) (v8 := .string B) S9.out.2.1 rfl
 refine bodyPost_ret (results_c2 (ad := ⟨w.heap.size + 1, 0, none⟩) rfl rfl (ldMs r10) rfl) rfl ⟨A3, n3, c3, (by rw [HMg.out A3 n3 c3]; rfl), ?_, S9.out.2.2.1.trans (One.st9.below (by omega) S9.out.2.2.1.size)⟩
 rw [List.map_append]
 exact (Own.one S9.out.2.2.2 One.st9 (by have := S3.out.2.2.2.1.size; omega)).mono S3.out.2.2.2.1.size
end
end Go.Proofs.YtibelollgdnidaaGreatDoor
