/- date: the scanner: read. -/
import Derived.Test.YtibelollgdnidaaGreatDoorMZo3
import Derived.Test.YtibelollgdnidaaGreatDoorMDt5
namespace Go.Proofs.YtibelollgdnidaaGreatDoor
open Go.RowKit
structure DtOk (s : ByteArray) (h m : Nat) : Prop where
 len : s.size = 28
 a0 : ∃ c, s[0]'(by omega) = c ∧ 65 ≤ c.toNat ∧ c.toNat ≤ 90
 day : capL (bl (s.extract 0 3)) = [83, 65, 84]
 a3 : s[3]'(by omega) = 44
 a4 : blC (s[4]'(by omega)) = true
 a5 : blC (s[5]'(by omega)) = false
 d5 : DgAt s 5 2
 v5 : valD s 5 2 = 1
 a7 : blC (s[7]'(by omega)) = true
 a8 : blC (s[8]'(by omega)) = false
 mon : capL (bl (s.extract 8 11)) = [74, 65, 78]
 a11 : blC (s[11]'(by omega)) = true
 a12 : blC (s[12]'(by omega)) = false
 d12 : DgAt s 12 4
 v12 : valD s 12 4 = 2000
 a16 : blC (s[16]'(by omega)) = true
 a17 : blC (s[17]'(by omega)) = false
 d17 : DgAt s 17 2
 v17 : valD s 17 2 = h
 a19 : s[19]'(by omega) = 58
 d20 : DgAt s 20 2
 v20 : valD s 20 2 = m
 a22 : s[22]'(by omega) = 32
 a23 : blC (s[23]'(by omega)) = false
 zn : s.extract 23 s.size = z5
structure RdS (w0 : World) (b : Nat) (s : ByteArray) (i g : Nat) (cs : List Value) (D M R : Nat) (w : World) : Prop where
 sc : ScR w b s i
 row : Row w g cs 147
 res : Row w R [.int .i64 0, .int .i64 0, .int .i64 0, .int .i64 0, .int .i64 0, .int .i64 0, .int .i64 0, .int .i64 0, .int .i64 0, .int .i64 0, .int .i64 0, .int .i64 0, .int .i64 0] 147
 ds : Row w D [.string ⟨#[77, 111, 110]⟩, .string ⟨#[84, 117, 101]⟩, .string ⟨#[87, 101, 100]⟩, .string ⟨#[84, 104, 117]⟩, .string ⟨#[70, 114, 105]⟩, .string ⟨#[83, 97, 116]⟩, .string ⟨#[83, 117, 110]⟩] 173
 ms : Row w M [.string ⟨#[74, 97, 110]⟩, .string ⟨#[70, 101, 98]⟩, .string ⟨#[77, 97, 114]⟩, .string ⟨#[65, 112, 114]⟩, .string ⟨#[77, 97, 121]⟩, .string ⟨#[74, 117, 110]⟩, .string ⟨#[74, 117, 108]⟩, .string ⟨#[65, 117, 103]⟩, .string ⟨#[83, 101, 112]⟩, .string ⟨#[79, 99, 116]⟩, .string ⟨#[78, 111, 118]⟩, .string ⟨#[68, 101, 99]⟩] 175
 one : One b w0 w
 bl : b < w0.heap.size
 gl : w0.heap.size ≤ g
 rl : w0.heap.size ≤ R
 dl : w0.heap.size ≤ D
 ml : w0.heap.size ≤ M
 ne : g ≠ R ∧ g ≠ D ∧ g ≠ M
section
variable {w0 w w' : World} {b : Nat} {s : ByteArray} {i i' g : Nat} {cs : List Value} {D M R : Nat}
theorem RdS.step (h : RdS w0 b s i g cs D M R w) (ho : One b w w') (hs : ScR w' b s i') : RdS w0 b s i' g cs D M R w' := by
 have h1 := h.bl
 have h2 := h.gl
 have h3 := h.rl
 have h4 := h.dl
 have h5 := h.ml
 exact ⟨hs, ho.row h.row (by omega), ho.row h.res (by omega), ho.row h.ds (by omega), ho.row h.ms (by omega), h.one.trans ho, h.bl, h.gl, h.rl, h.dl, h.ml, h.ne⟩
theorem RdS.put (h : RdS w0 b s i g cs D M R w) (k : Nat) (v : Value) : RdS w0 b s i g (cs.set k v) D M R (w.setCell ⟨g, k, none⟩ v) := by
 have h1 := h.bl
 have h2 := h.gl
 have ho := One.set (w := w) (g := g) k v
 refine ⟨ho.row h.sc (by omega), h.row.set k v, ho.row h.res (fun e => h.ne.1 e.symm), ho.row h.ds (fun e => h.ne.2.1 e.symm), ho.row h.ms (fun e => h.ne.2.2 e.symm), ⟨h.one.os, h.one.tape, h.one.output, Nat.le_trans h.one.size ho.size, fun j hj hb => ?_⟩, h.bl, h.gl, h.rl, h.dl, h.ml, h.ne⟩
 exact (ho.out j (Nat.lt_of_lt_of_le hj h.one.size) (by omega)).trans (h.one.out j hj hb)
structure FinS (w0 : World) (b : Nat) (s : ByteArray) (i R : Nat) (cs : List Value) (w : World) : Prop where
 sc : ScR w b s i
 res : Row w R cs 147
 one : One b w0 w
 bl : b < w0.heap.size
 rl : w0.heap.size ≤ R
theorem FinS.of (h : RdS w0 b s i g cs D M R w) : FinS w0 b s i R [.int .i64 0, .int .i64 0, .int .i64 0, .int .i64 0, .int .i64 0, .int .i64 0, .int .i64 0, .int .i64 0, .int .i64 0, .int .i64 0, .int .i64 0, .int .i64 0, .int .i64 0] w := ⟨h.sc, h.res, h.one, h.bl, h.rl⟩
theorem FinS.put (h : FinS w0 b s i R cs w) (k : Nat) (v : Value) : FinS w0 b s i R (cs.set k v) (w.setCell ⟨R, k, none⟩ v) := by
 have h1 := h.bl
 have h2 := h.rl
 have ho := One.set (w := w) (g := R) k v
 refine ⟨ho.row h.sc (by omega), h.res.set k v, ⟨h.one.os, h.one.tape, h.one.output, Nat.le_trans h.one.size ho.size, fun j hj hb => ?_⟩, h.bl, h.rl⟩
 exact (ho.out j (Nat.lt_of_lt_of_le hj h.one.size) (by omega)).trans (h.one.out j hj hb)
theorem RdS.days (h : RdS w0 b s i g cs D M R w) : Sl w cS (some ⟨D, 0, none⟩) dayS := fun _ => ⟨_, rfl, h.ds.at_ (k := 0) (n := 7) rfl⟩
theorem RdS.mons (h : RdS w0 b s i g cs D M R w) : Sl w cS (some ⟨M, 0, none⟩) monS := fun _ => ⟨_, rfl, h.ms.at_ (k := 0) (n := 12) rfl⟩
end
theorem usee {p q : Prop} (_ : p) (h : q) : q := h
theorem dayS_small : ∀ x ∈ dayS, x.size ≤ 1000 := by decide
theorem monS_small : ∀ x ∈ monS, x.size ≤ 1000 := by decide
theorem day_first : ∀ j (hj : j < dayS.length), j < 5 → capL (bl dayS[j]) ≠ [83, 65, 84] := by
 intro j hj h5
 rcases (show j = 0 ∨ j = 1 ∨ j = 2 ∨ j = 3 ∨ j = 4 by omega) with rfl | rfl | rfl | rfl | rfl
 ·exact (show capL (bl (⟨#[77, 111, 110]⟩ : ByteArray)) ≠ [83, 65, 84] by decide)
 ·exact (show capL (bl (⟨#[84, 117, 101]⟩ : ByteArray)) ≠ [83, 65, 84] by decide)
 ·exact (show capL (bl (⟨#[87, 101, 100]⟩ : ByteArray)) ≠ [83, 65, 84] by decide)
 ·exact (show capL (bl (⟨#[84, 104, 117]⟩ : ByteArray)) ≠ [83, 65, 84] by decide)
 ·exact (show capL (bl (⟨#[70, 114, 105]⟩ : ByteArray)) ≠ [83, 65, 84] by decide)
set_option maxRecDepth 100000 in
set_option maxHeartbeats 1600000 in
theorem read116 (w : World) (b : Nat) (s : ByteArray) (h m : Nat) (hs : ScR w b s 0) (hd : DtOk s h m) : Calls Tryz.prog 116 #[.pointer (some ⟨b, 0, none⟩)] w fun e w' => e = .returned (.agg #[.int .i64 2000, .int .i64 1, .int .i64 1, .int .i64 (h : Int), .int .i64 (m : Int), .int .i64 5, .int .i64 0, .int .i64 0, .int .i64 5, .int .i64 12, .int .i64 17, .int .i64 20, .int .i64 0]) ∧ ScR w' b s 23 ∧ One b w w' := by
 have r1 : Row ((w.alloc (Obj.cells #[.int .i64 0, .int .i64 0, .int .i64 0, .int .i64 0, .int .i64 0, .int .i64 0, .int .i64 0, .int .i64 0, .int .i64 0, .int .i64 0, .int .i64 0, .int .i64 0, .int .i64 0] 147)).alloc (Obj.cells #[.int .i64 0, .int .i64 0, .int .i64 0, .int .i64 0, .int .i64 0, .int .i64 (-1), .int .i64 0, .int .i64 0, .int .i64 0, .int .i64 0, .int .i64 0, .int .i64 0, .int .i64 0] 147)) w.heap.size [.int .i64 0, .int .i64 0, .int .i64 0, .int .i64 0, .int .i64 0, .int .i64 0, .int .i64 0, .int .i64 0, .int .i64 0, .int .i64 0, .int .i64 0, .int .i64 0, .int .i64 0] 147 := Row.keep (Row.new w _ _) (below_alloc _ _)
 have r2 : Row ((w.alloc (Obj.cells #[.int .i64 0, .int .i64 0, .int .i64 0, .int .i64 0, .int .i64 0, .int .i64 0, .int .i64 0, .int .i64 0, .int .i64 0, .int .i64 0, .int .i64 0, .int .i64 0, .int .i64 0] 147)).alloc (Obj.cells #[.int .i64 0, .int .i64 0, .int .i64 0, .int .i64 0, .int .i64 0, .int .i64 (-1), .int .i64 0, .int .i64 0, .int .i64 0, .int .i64 0, .int .i64 0, .int .i64 0, .int .i64 0] 147)) (w.heap.size + 1) [.int .i64 0, .int .i64 0, .int .i64 0, .int .i64 0, .int .i64 0, .int .i64 (-1), .int .i64 0, .int .i64 0, .int .i64 0, .int .i64 0, .int .i64 0, .int .i64 0, .int .i64 0] 147 := by
  have := Row.new (w.alloc (Obj.cells #[.int .i64 0, .int .i64 0, .int .i64 0, .int .i64 0, .int .i64 0, .int .i64 0, .int .i64 0, .int .i64 0, .int .i64 0, .int .i64 0, .int .i64 0, .int .i64 0, .int .i64 0] 147)) [.int .i64 0, .int .i64 0, .int .i64 0, .int .i64 0, .int .i64 0, .int .i64 (-1), .int .i64 0, .int .i64 0, .int .i64 0, .int .i64 0, .int .i64 0, .int .i64 0, .int .i64 0] 147
  rwa [World.size_alloc] at this
 have hb2 : Below w.heap.size w ((w.alloc (Obj.cells #[.int .i64 0, .int .i64 0, .int .i64 0, .int .i64 0, .int .i64 0, .int .i64 0, .int .i64 0, .int .i64 0, .int .i64 0, .int .i64 0, .int .i64 0, .int .i64 0, .int .i64 0] 147)).alloc (Obj.cells #[.int .i64 0, .int .i64 0, .int .i64 0, .int .i64 0, .int .i64 0, .int .i64 (-1), .int .i64 0, .int .i64 0, .int .i64 0, .int .i64 0, .int .i64 0, .int .i64 0, .int .i64 0] 147)) := Below.step (below_alloc _ _) (below_alloc _ _)
 have H2 := Lib.hid (And.intro r1 (And.intro r2 hb2))
 have HS0 := Lib.hid (And.intro hs hd)
 have HS := Lib.hid hd
 have SL0 := (show 65 ≤ (s[0]'(by rw [HS.out.len]; decide)).toNat ∧ (s[0]'(by rw [HS.out.len]; decide)).toNat ≤ 90 from by obtain ⟨c, h1, h2, h3⟩ := HS.out.a0; rw [h1]; exact ⟨h2, h3⟩)
 clear r1 r2 hb2 hs hd
 go_enter Tryz.func116, Tryz.ntmps116
 go_wp2_with (first
  | (go_at_call 146; refine (dayNames146 _).mono ?_; rw [show vDs = .agg #[.string ⟨#[77, 111, 110]⟩, .string ⟨#[84, 117, 101]⟩, .string ⟨#[87, 101, 100]⟩, .string ⟨#[84, 104, 117]⟩, .string ⟨#[70, 114, 105]⟩, .string ⟨#[83, 97, 116]⟩, .string ⟨#[83, 117, 110]⟩] from rfl]; rintro e w3 ⟨rfl, hb3⟩; have H3 := Lib.hid (And.intro (H2.out.1.keep hb3) (And.intro (H2.out.2.1.keep hb3) (Below.step H2.out.2.2 hb3))); clear hb3)
  | (go_at_call 147; refine (monthNames147 _).mono ?_; rw [show vMs = .agg #[.string ⟨#[74, 97, 110]⟩, .string ⟨#[70, 101, 98]⟩, .string ⟨#[77, 97, 114]⟩, .string ⟨#[65, 112, 114]⟩, .string ⟨#[77, 97, 121]⟩, .string ⟨#[74, 117, 110]⟩, .string ⟨#[74, 117, 108]⟩, .string ⟨#[65, 117, 103]⟩, .string ⟨#[83, 101, 112]⟩, .string ⟨#[79, 99, 116]⟩, .string ⟨#[78, 111, 118]⟩, .string ⟨#[68, 101, 99]⟩] from rfl]; rintro e w4 ⟨rfl, hb4⟩; have H4 := Lib.hid (And.intro (H3.out.1.keep hb4) (And.intro (H3.out.2.1.keep hb4) (Below.step H3.out.2.2 hb4))); clear hb4))
 have h5 : RdS w b s 0 (w.heap.size + 1) [.int .i64 0, .int .i64 0, .int .i64 0, .int .i64 0, .int .i64 0, .int .i64 (-1), .int .i64 0, .int .i64 0, .int .i64 0, .int .i64 0, .int .i64 0, .int .i64 0, .int .i64 0] w4.heap.size (w4.heap.size + 1) w.heap.size ((w4.alloc (Obj.cells #[.string ⟨#[77, 111, 110]⟩, .string ⟨#[84, 117, 101]⟩, .string ⟨#[87, 101, 100]⟩, .string ⟨#[84, 104, 117]⟩, .string ⟨#[70, 114, 105]⟩, .string ⟨#[83, 97, 116]⟩, .string ⟨#[83, 117, 110]⟩] 173)).alloc (Obj.cells #[.string ⟨#[74, 97, 110]⟩, .string ⟨#[70, 101, 98]⟩, .string ⟨#[77, 97, 114]⟩, .string ⟨#[65, 112, 114]⟩, .string ⟨#[77, 97, 121]⟩, .string ⟨#[74, 117, 110]⟩, .string ⟨#[74, 117, 108]⟩, .string ⟨#[65, 117, 103]⟩, .string ⟨#[83, 101, 112]⟩, .string ⟨#[79, 99, 116]⟩, .string ⟨#[78, 111, 118]⟩, .string ⟨#[68, 101, 99]⟩] 175)) := by
  have b4 := H4.out.2.2
  have bA := Below.step b4 (below_alloc w4 (Obj.cells #[.string ⟨#[77, 111, 110]⟩, .string ⟨#[84, 117, 101]⟩, .string ⟨#[87, 101, 100]⟩, .string ⟨#[84, 104, 117]⟩, .string ⟨#[70, 114, 105]⟩, .string ⟨#[83, 97, 116]⟩, .string ⟨#[83, 117, 110]⟩] 173))
  have bB := Below.step bA (below_alloc (w4.alloc (Obj.cells #[.string ⟨#[77, 111, 110]⟩, .string ⟨#[84, 117, 101]⟩, .string ⟨#[87, 101, 100]⟩, .string ⟨#[84, 104, 117]⟩, .string ⟨#[70, 114, 105]⟩, .string ⟨#[83, 97, 116]⟩, .string ⟨#[83, 117, 110]⟩] 173)) (Obj.cells #[.string ⟨#[74, 97, 110]⟩, .string ⟨#[70, 101, 98]⟩, .string ⟨#[77, 97, 114]⟩, .string ⟨#[65, 112, 114]⟩, .string ⟨#[77, 97, 121]⟩, .string ⟨#[74, 117, 110]⟩, .string ⟨#[74, 117, 108]⟩, .string ⟨#[65, 117, 103]⟩, .string ⟨#[83, 101, 112]⟩, .string ⟨#[79, 99, 116]⟩, .string ⟨#[78, 111, 118]⟩, .string ⟨#[68, 101, 99]⟩] 175))
  have hm := Row.new (w4.alloc (Obj.cells #[.string ⟨#[77, 111, 110]⟩, .string ⟨#[84, 117, 101]⟩, .string ⟨#[87, 101, 100]⟩, .string ⟨#[84, 104, 117]⟩, .string ⟨#[70, 114, 105]⟩, .string ⟨#[83, 97, 116]⟩, .string ⟨#[83, 117, 110]⟩] 173)) [.string ⟨#[74, 97, 110]⟩, .string ⟨#[70, 101, 98]⟩, .string ⟨#[77, 97, 114]⟩, .string ⟨#[65, 112, 114]⟩, .string ⟨#[77, 97, 121]⟩, .string ⟨#[74, 117, 110]⟩, .string ⟨#[74, 117, 108]⟩, .string ⟨#[65, 117, 103]⟩, .string ⟨#[83, 101, 112]⟩, .string ⟨#[79, 99, 116]⟩, .string ⟨#[78, 111, 118]⟩, .string ⟨#[68, 101, 99]⟩] 175
  rw [World.size_alloc] at hm
  have q1 := H4.out.2.1.lt
  have q2 := b4.size
  exact ⟨Row.keep HS0.out.1 bB, (H4.out.2.1.keep (below_alloc _ _)).keep (below_alloc _ _), (H4.out.1.keep (below_alloc _ _)).keep (below_alloc _ _), (Row.new w4 _ _).keep (below_alloc _ _), hm, One.of_below bB, HS0.out.1.lt, by omega, Nat.le_refl _, by omega, by omega, ⟨by omega, by omega, by omega⟩⟩
 have H5 := Lib.hid h5
 clear h5
 revert H5
 generalize World.alloc (World.alloc w4 _) _ = W5
 intro H5
 go_wp2_with (first
  | (go_at_call 148; refine (sees_letter _ b s 0 _ H5.out.sc (by rw [HS.out.len]; decide) rfl true ⟨rfl, SL0⟩).mono ?_; rintro e w6 ⟨rfl, hb1⟩; have H6 := Lib.hid (H5.out.step (One.of_below hb1) (Row.keep H5.out.sc hb1)); clear hb1; clear H5)
  | (go_at_call 150; refine (name150 _ b s 0 _ 7 dayS 5 H6.out.sc (by rw [HS.out.len]; decide) (by rw [HS.out.len]; decide) H6.out.days (by decide) (by decide) dayS_small (by decide) (by rw [HS.out.day]; decide) (by rw [HS.out.day]; exact day_first)).mono ?_; rintro e w7 ⟨rfl, hs1, ho1⟩; have H7 := Lib.hid (H6.out.step ho1 hs1); clear hs1 ho1; have k5_H7 : w7.cell? ⟨w.heap.size + 1, 5, none⟩ = some (.int .i64 (-1)) := H7.out.row.cell 5; have f5_H7 := H7.out.row.fz 5; have H7p := Lib.hid (H7.out.put 5 (.int .i64 5)); clear H7; clear H6)
  | (go_at_call 152; refine (usee H7p (is152 44 _)).mono ?_; rintro e w8 ⟨rfl, hc1, hb1⟩; try simp only [World.size_setCell] at hc1; have CH8 := Lib.hid hc1; have H8 := Lib.hid (H7p.out.step (One.of_below hb1) (Row.keep H7p.out.sc hb1)); clear hc1 hb1 H7p)
  | (go_at_call 151; refine (need_is _ b s 3 44 H8.out.sc (by rw [HS.out.len]; decide) HS.out.a3 (by rw [HS.out.len]; decide) _ CH8.out).mono ?_; rintro e w10 ⟨rfl, hs1, ho1⟩; have H10 := Lib.hid (H8.out.step ho1 hs1); clear hs1 ho1; clear H8)
  | (go_at_call 153; refine (skip_blank _ b s 4 1 H10.out.sc (fun j hj h1 h2 => by obtain rfl : j = 4 := (by omega); exact HS.out.a4) (by rw [HS.out.len]; decide) HS.out.a5 (by rw [HS.out.len]; decide)).mono ?_; rintro e w11 ⟨rfl, hs1, ho1⟩; have H11 := Lib.hid (H10.out.step ho1 hs1); clear hs1 ho1; clear H10)
  | (go_at_call 155; refine (number155 _ b s 5 1 1 H11.out.sc HS.out.d5 (by decide) (by rw [HS.out.len]; decide)).mono ?_; rintro e w12 ⟨rfl, hs1, ho1⟩; have H12 := Lib.hid (H11.out.step ho1 hs1); clear hs1 ho1; rw [show valD s 5 (1 + 1) = 1 from HS.out.v5]; have k8_H12 : w12.cell? ⟨w.heap.size + 1, 8, none⟩ = some (.int .i64 0) := H12.out.row.cell 8; have f8_H12 := H12.out.row.fz 8; have k2_H12 : w12.cell? ⟨w.heap.size + 1, 2, none⟩ = some (.int .i64 0) := H12.out.row.cell 2; have f2_H12 := H12.out.row.fz 2; have H12p := Lib.hid ((H12.out.put 8 (.int .i64 5)).put 2 (.int .i64 1)); clear H12; clear H11)
  | (go_at_call 156; refine (blanks156 _ b s 7 H12p.out.sc (by rw [HS.out.len]; decide) HS.out.a7 HS.out.a8 (by rw [HS.out.len]; decide)).mono ?_; rintro e w13 ⟨rfl, hs1, ho1⟩; have H13 := Lib.hid (H12p.out.step ho1 hs1); clear hs1 ho1; clear H12p)
  | (go_at_call 150; refine (name150 _ b s 8 _ 12 monS 0 H13.out.sc (by rw [HS.out.len]; decide) (by rw [HS.out.len]; decide) H13.out.mons (by decide) (by decide) monS_small (by decide) (by rw [HS.out.mon]; decide) (fun j hj h0 => absurd h0 (Nat.not_lt_zero _))).mono ?_; rintro e w14 ⟨rfl, hs1, ho1⟩; have H14 := Lib.hid (H13.out.step ho1 hs1); clear hs1 ho1; have k1_H14 : w14.cell? ⟨w.heap.size + 1, 1, none⟩ = some (.int .i64 0) := H14.out.row.cell 1; have f1_H14 := H14.out.row.fz 1; have H14p := Lib.hid (H14.out.put 1 (.int .i64 1)); clear H14; clear H13)
  | (go_at_call 156; refine (blanks156 _ b s 11 H14p.out.sc (by rw [HS.out.len]; decide) HS.out.a11 HS.out.a12 (by rw [HS.out.len]; decide)).mono ?_; rintro e w15 ⟨rfl, hs1, ho1⟩; have H15 := Lib.hid (H14p.out.step ho1 hs1); clear hs1 ho1; clear H14p)
  | (go_at_call 155; refine (number155 _ b s 12 4 0 H15.out.sc HS.out.d12 (by decide) (by rw [HS.out.len]; decide)).mono ?_; rintro e w16 ⟨rfl, hs1, ho1⟩; have H16 := Lib.hid (H15.out.step ho1 hs1); clear hs1 ho1; rw [show valD s 12 (4 + 0) = 2000 from HS.out.v12]; have k9_H16 : w16.cell? ⟨w.heap.size + 1, 9, none⟩ = some (.int .i64 0) := H16.out.row.cell 9; have f9_H16 := H16.out.row.fz 9; have k0_H16 : w16.cell? ⟨w.heap.size + 1, 0, none⟩ = some (.int .i64 0) := H16.out.row.cell 0; have f0_H16 := H16.out.row.fz 0; have H16p := Lib.hid ((H16.out.put 9 (.int .i64 12)).put 0 (.int .i64 2000)); clear H16; clear H15)
  | (go_at_call 156; refine (blanks156 _ b s 16 H16p.out.sc (by rw [HS.out.len]; decide) HS.out.a16 HS.out.a17 (by rw [HS.out.len]; decide)).mono ?_; rintro e w17 ⟨rfl, hs1, ho1⟩; have H17 := Lib.hid (H16p.out.step ho1 hs1); clear hs1 ho1; clear H16p)
  | (go_at_call 155; refine (number155 _ b s 17 2 0 H17.out.sc HS.out.d17 (by decide) (by rw [HS.out.len]; decide)).mono ?_; rintro e w18 ⟨rfl, hs1, ho1⟩; have H18 := Lib.hid (H17.out.step ho1 hs1); clear hs1 ho1; rw [show valD s 17 (2 + 0) = h from HS.out.v17]; have k10_H18 : w18.cell? ⟨w.heap.size + 1, 10, none⟩ = some (.int .i64 0) := H18.out.row.cell 10; have f10_H18 := H18.out.row.fz 10; have k3_H18 : w18.cell? ⟨w.heap.size + 1, 3, none⟩ = some (.int .i64 0) := H18.out.row.cell 3; have f3_H18 := H18.out.row.fz 3; have H18p := Lib.hid ((H18.out.put 10 (.int .i64 17)).put 3 (.int .i64 (h : Int))); clear H18; clear H17)
  | (go_at_call 152; refine (usee H18p (is152 58 _)).mono ?_; rintro e w19 ⟨rfl, hc1, hb1⟩; try simp only [World.size_setCell] at hc1; have CH19 := Lib.hid hc1; have H19 := Lib.hid (H18p.out.step (One.of_below hb1) (Row.keep H18p.out.sc hb1)); clear hc1 hb1 H18p)
  | (go_at_call 151; refine (need_is _ b s 19 58 H19.out.sc (by rw [HS.out.len]; decide) HS.out.a19 (by rw [HS.out.len]; decide) _ CH19.out).mono ?_; rintro e w21 ⟨rfl, hs1, ho1⟩; have H21 := Lib.hid (H19.out.step ho1 hs1); clear hs1 ho1; clear H19)
  | (go_at_call 155; refine (number155 _ b s 20 2 0 H21.out.sc HS.out.d20 (by decide) (by rw [HS.out.len]; decide)).mono ?_; rintro e w22 ⟨rfl, hs1, ho1⟩; have H22 := Lib.hid (H21.out.step ho1 hs1); clear hs1 ho1; rw [show valD s 20 (2 + 0) = m from HS.out.v20]; have k11_H22 : w22.cell? ⟨w.heap.size + 1, 11, none⟩ = some (.int .i64 0) := H22.out.row.cell 11; have f11_H22 := H22.out.row.fz 11; have k4_H22 : w22.cell? ⟨w.heap.size + 1, 4, none⟩ = some (.int .i64 0) := H22.out.row.cell 4; have f4_H22 := H22.out.row.fz 4; have H22p := Lib.hid ((H22.out.put 11 (.int .i64 20)).put 4 (.int .i64 (m : Int))); clear H22; clear H21)
  | (go_at_call 152; refine (usee H22p (is152 58 _)).mono ?_; rintro e w23 ⟨rfl, hc1, hb1⟩; try simp only [World.size_setCell] at hc1; have CH23 := Lib.hid hc1; have H23 := Lib.hid (H22p.out.step (One.of_below hb1) (Row.keep H22p.out.sc hb1)); clear hc1 hb1 H22p)
  | (go_at_call 148; refine (sees_is _ b s 22 32 H23.out.sc (by rw [HS.out.len]; decide) HS.out.a22 false _ 58 ⟨by decide, CH23.out⟩).mono ?_; rintro e w25 ⟨rfl, hb1⟩; have H25 := Lib.hid (H23.out.step (One.of_below hb1) (Row.keep H23.out.sc hb1)); clear hb1; clear H23)
  | (go_at_call 156; refine (blanks156 _ b s 22 H25.out.sc (by rw [HS.out.len]; decide) (by rw [HS.out.a22]; decide) HS.out.a23 (by rw [HS.out.len]; decide)).mono ?_; rintro e w26 ⟨rfl, hs1, ho1⟩; have H26 := Lib.hid (H25.out.step ho1 hs1); clear hs1 ho1; clear H25)
  | (go_at_call 157; refine (zone157 _ b s 23 H26.out.sc (by rw [HS.out.len]; decide) (by rw [HS.out.len]; decide) HS.out.zn).mono ?_; rintro e w27 ⟨rfl, hs1, ho1⟩; have H27 := Lib.hid (H26.out.step ho1 hs1); clear hs1 ho1; have z0 : w27.cell? ⟨w.heap.size, 0, none⟩ = some (.int .i64 0) := H27.out.res.cell 0; have y0 := H27.out.res.fz 0; have z1 : w27.cell? ⟨w.heap.size, 1, none⟩ = some (.int .i64 0) := H27.out.res.cell 1; have y1 := H27.out.res.fz 1; have z2 : w27.cell? ⟨w.heap.size, 2, none⟩ = some (.int .i64 0) := H27.out.res.cell 2; have y2 := H27.out.res.fz 2; have z3 : w27.cell? ⟨w.heap.size, 3, none⟩ = some (.int .i64 0) := H27.out.res.cell 3; have y3 := H27.out.res.fz 3; have z4 : w27.cell? ⟨w.heap.size, 4, none⟩ = some (.int .i64 0) := H27.out.res.cell 4; have y4 := H27.out.res.fz 4; have z5 : w27.cell? ⟨w.heap.size, 5, none⟩ = some (.int .i64 0) := H27.out.res.cell 5; have y5 := H27.out.res.fz 5; have z6 : w27.cell? ⟨w.heap.size, 6, none⟩ = some (.int .i64 0) := H27.out.res.cell 6; have y6 := H27.out.res.fz 6; have z7 : w27.cell? ⟨w.heap.size, 7, none⟩ = some (.int .i64 0) := H27.out.res.cell 7; have y7 := H27.out.res.fz 7; have z8 : w27.cell? ⟨w.heap.size, 8, none⟩ = some (.int .i64 0) := H27.out.res.cell 8; have y8 := H27.out.res.fz 8; have z9 : w27.cell? ⟨w.heap.size, 9, none⟩ = some (.int .i64 0) := H27.out.res.cell 9; have y9 := H27.out.res.fz 9; have z10 : w27.cell? ⟨w.heap.size, 10, none⟩ = some (.int .i64 0) := H27.out.res.cell 10; have y10 := H27.out.res.fz 10; have z11 : w27.cell? ⟨w.heap.size, 11, none⟩ = some (.int .i64 0) := H27.out.res.cell 11; have y11 := H27.out.res.fz 11; have z12 : w27.cell? ⟨w.heap.size, 12, none⟩ = some (.int .i64 0) := H27.out.res.cell 12; have y12 := H27.out.res.fz 12; have x0 : w27.cell? ⟨w.heap.size + 1, 0, none⟩ = some (.int .i64 2000) := H27.out.row.cell 0; have x1 : w27.cell? ⟨w.heap.size + 1, 1, none⟩ = some (.int .i64 1) := H27.out.row.cell 1; have x2 : w27.cell? ⟨w.heap.size + 1, 2, none⟩ = some (.int .i64 1) := H27.out.row.cell 2; have x3 : w27.cell? ⟨w.heap.size + 1, 3, none⟩ = some (.int .i64 (h : Int)) := H27.out.row.cell 3; have x4 : w27.cell? ⟨w.heap.size + 1, 4, none⟩ = some (.int .i64 (m : Int)) := H27.out.row.cell 4; have x5 : w27.cell? ⟨w.heap.size + 1, 5, none⟩ = some (.int .i64 5) := H27.out.row.cell 5; have x6 : w27.cell? ⟨w.heap.size + 1, 6, none⟩ = some (.int .i64 0) := H27.out.row.cell 6; have x8 : w27.cell? ⟨w.heap.size + 1, 8, none⟩ = some (.int .i64 5) := H27.out.row.cell 8; have x9 : w27.cell? ⟨w.heap.size + 1, 9, none⟩ = some (.int .i64 12) := H27.out.row.cell 9; have x10 : w27.cell? ⟨w.heap.size + 1, 10, none⟩ = some (.int .i64 17) := H27.out.row.cell 10; have x11 : w27.cell? ⟨w.heap.size + 1, 11, none⟩ = some (.int .i64 20) := H27.out.row.cell 11; have x12 : w27.cell? ⟨w.heap.size + 1, 12, none⟩ = some (.int .i64 0) := H27.out.row.cell 12; have k7_H27 : w27.cell? ⟨w.heap.size + 1, 7, none⟩ = some (.int .i64 0) := H27.out.row.cell 7; have f7_H27 := H27.out.row.fz 7; have H27p := Lib.hid (H27.out.put 7 (.int .i64 0)); clear H27; clear H26))
 have FF := ((((((((((((((FinS.of H27p.out).put 0 (.int .i64 2000)).put 1 (.int .i64 1)).put 2 (.int .i64 1)).put 3 (.int .i64 (h : Int))).put 4 (.int .i64 (m : Int))).put 5 (.int .i64 5)).put 6 (.int .i64 0)).put 7 (.int .i64 0)).put 8 (.int .i64 5)).put 9 (.int .i64 12)).put 10 (.int .i64 17)).put 11 (.int .i64 20)).put 12 (.int .i64 0))
 clear z0 y0 z1 y1 z2 y2 z3 y3 z4 y4 z5 y5 z6 y6 z7 y7 z8 y8 z9 y9 z10 y10 z11 y11 z12 y12 x0 x1 x2 x3 x4 x5 x6 x8 x9 x10 x11 x12
 revert FF
 generalize World.setCell (World.setCell (World.setCell _ _ _) _ _) _ _ = WF
 intro FF
 obtain ⟨fs, fr, fo, -, -⟩ := FF
 have u0 : WF.cell? ⟨w.heap.size, 0, none⟩ = some (.int .i64 2000) := fr.cell 0
 have u1 : WF.cell? ⟨w.heap.size, 1, none⟩ = some (.int .i64 1) := fr.cell 1
 have u2 : WF.cell? ⟨w.heap.size, 2, none⟩ = some (.int .i64 1) := fr.cell 2
 have u3 : WF.cell? ⟨w.heap.size, 3, none⟩ = some (.int .i64 (h : Int)) := fr.cell 3
 have u4 : WF.cell? ⟨w.heap.size, 4, none⟩ = some (.int .i64 (m : Int)) := fr.cell 4
 have u5 : WF.cell? ⟨w.heap.size, 5, none⟩ = some (.int .i64 5) := fr.cell 5
 have u6 : WF.cell? ⟨w.heap.size, 6, none⟩ = some (.int .i64 0) := fr.cell 6
 have u7 : WF.cell? ⟨w.heap.size, 7, none⟩ = some (.int .i64 0) := fr.cell 7
 have u8 : WF.cell? ⟨w.heap.size, 8, none⟩ = some (.int .i64 5) := fr.cell 8
 have u9 : WF.cell? ⟨w.heap.size, 9, none⟩ = some (.int .i64 12) := fr.cell 9
 have u10 : WF.cell? ⟨w.heap.size, 10, none⟩ = some (.int .i64 17) := fr.cell 10
 have u11 : WF.cell? ⟨w.heap.size, 11, none⟩ = some (.int .i64 20) := fr.cell 11
 have u12 : WF.cell? ⟨w.heap.size, 12, none⟩ = some (.int .i64 0) := fr.cell 12
 exact bodyPost_ret (v := .agg #[.int .i64 2000, .int .i64 1, .int .i64 1, .int .i64 (h : Int), .int .i64 (m : Int), .int .i64 5, .int .i64 0, .int .i64 0, .int .i64 5, .int .i64 12, .int .i64 17, .int .i64 20, .int .i64 0]) (results_c1 (ad := ⟨w.heap.size, 0, none⟩) rfl rfl (by go_simp)) rfl ⟨rfl, fs, fo⟩
end Go.Proofs.YtibelollgdnidaaGreatDoor
