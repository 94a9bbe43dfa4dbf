/- bulletinlaw34.TakeErrors: whatever the operations, the law returns true. -/
import Derived.Test.YtgojaelkdpabkaaGreatDoorMClS
namespace Go.Proofs.YtgojaelkdpabkaaGreatDoor
open Go.RowKit
section
variable (w : World)
def aOs (xs : List Opn) : Array Value := (xs.flatMap cO).toArray
theorem rowOP : (Tryz.prog.info? 37).map (fun i => (i.zero.map (·.cells.size), i.size, i.bytes)) = some (some 41, 41, 120) := by kernel_rfl
@[go_sem ↓] theorem bsOP (n : Nat) (parts : Array (Nat × Value)) : Instr.buildSlice 22 n parts = bsA 22 n parts := rfl
theorem run_bsOP (xs : List Opn) (h : xs.length ≤ 100) : (bsA 22 xs.length (xs.zipIdx.map fun x => (x.2, vO x.1)).toArray).run Tryz.prog w = .ok (.slice (some ⟨w.heap.size, 0, none⟩) xs.length xs.length) (w.alloc (.cells (aOs xs) 37)) := by
 obtain ⟨i, z, h1, h2, h3⟩ := info_of rowOP
 exact run_bsA w vO 22 37 i z 41 Tryz.underlying22 h1 h2 h3 (fun x => cO_length x) xs (by omega)
@[go_sem] theorem run_bsOP_1 (x : Opn) : (bsA 22 1 #[(0, vO x)]).run Tryz.prog w = .ok (.slice (some ⟨w.heap.size, 0, none⟩) 1 1) (w.alloc (.cells (aOs [x]) 37)) := run_bsOP w [x] (by simp)
end
theorem sl_op1 (w : World) (o : Opn) : Sl (w.alloc (.cells (aOs [o]) 37)) cO (some ⟨w.heap.size, 0, none⟩) [o] := fun _ => ⟨_, rfl, at_new w _ _ _ rfl⟩
theorem err_hear (s : Tk) (c : Cm) (h : (hearT s c).2.2.2 ≠ 0) : (hearT s c).1 = s := by
 unfold hearT at h ⊢
 split
 ·rfl
 rename_i h1
 rw [if_neg h1] at h
 split
 ·rfl
 rename_i h2
 rw [if_neg h2] at h
 split
 ·rename_i h3
  rw [if_pos h3] at h
  dsimp only at h ⊢
  unfold offerT at h ⊢
  split at h
  ·rfl
  ·split at h
   ·rename_i h4
    rw [if_pos h4]
   ·exact absurd rfl h
 rename_i h3
 rw [if_neg h3] at h
 split
 ·rename_i h4
  rw [if_pos h4] at h
  dsimp only at h ⊢
  unfold dataT at h ⊢
  split at h
  ·rfl
  ·split at h
   ·rename_i h5
    rw [if_pos h5]
   ·rename_i h5
    rw [if_neg h5]
    split at h
    ·rename_i h6
     rw [if_pos h6]
    ·exact absurd rfl h
 rename_i h4
 rw [if_neg h4] at h
 split
 ·rename_i h5
  rw [if_pos h5] at h
  dsimp only at h ⊢
  unfold doneT at h ⊢
  split at h
  ·rfl
  ·split at h
   ·rename_i h6
    rw [if_pos h6]
   ·exact absurd rfl h
 ·rfl
theorem err_answer (s : Tk) (c : Cm) (h : (answerT s c).2.2 ≠ 0) : (answerT s c).1 = s := by
 unfold answerT at h ⊢
 split
 ·rfl
 rename_i h1
 rw [if_neg h1] at h
 split
 ·rfl
 rename_i h2
 rw [if_neg h2] at h
 split at h
 ·rfl
 ·split at h
  ·rename_i h3
   rw [if_pos h3]
  ·rename_i h3
   split at h
   ·rename_i h4
    rw [if_neg h3, if_pos h4]
   ·split at h
    ·exact absurd rfl h
    ·split at h
     ·exact absurd rfl h
     ·exact absurd rfl h
theorem err_accepted (s : Tk) (x : Id) (n : Int) (h : (acceptedT s x n).2.2 ≠ 0) : (acceptedT s x n).1 = s := by
 unfold acceptedT at h ⊢
 split
 ·rfl
 rename_i h1
 rw [if_neg h1] at h
 split at h
 ·rfl
 ·split at h
  ·rename_i h3
   rw [if_pos h3]
  ·exact absurd rfl h
theorem err_cancel (s : Tk) (x : Id) (h : (cancelT s x).2.2 ≠ 0) : (cancelT s x).1 = s := by
 unfold cancelT at h ⊢
 split at h
 ·rfl
 ·split at h
  ·rename_i h3
   rw [if_pos h3]
  ·exact absurd rfl h
theorem err_open (s : Tk) (h : (openT s).2 ≠ 0) : (openT s).1 = s := by
 unfold openT at h ⊢
 split at h
 ·rename_i h1
  rw [if_pos h1]
 ·exact absurd rfl h
theorem err_drop (s : Tk) (h : (dropT s).2 ≠ 0) : (dropT s).1 = s := by
 unfold dropT at h ⊢
 split at h
 ·exact absurd rfl h
 ·rename_i h1
  rw [if_neg h1]
theorem TkAt.other {k : Nat} {s : Tk} {F F1 F2 : List Nat} {u u' : World} (h : TkAt k s F2 u) (hk : Kp F F1 u u') (hd : ∀ j ∈ F2, j < u.heap.size ∧ j ∉ F) : TkAt k s F2 u' := by
 obtain ⟨va, vk, h⟩ := h
 exact ⟨va, vk, h.same fun j hj => (hk.out j (hd j hj).1 (hd j hj).2).2⟩
section
set_option maxRecDepth 100000
set_option maxHeartbeats 3200000
theorem law6_small1 (A : Option Addr) (cap : Nat) (l : List Opn) (p : Opn) (w : World) (hs : Sl w cO A l) (hc : l.length ≤ cap) (hm : cap ≤ 9223372036854775807) (hL : Laid w) (h1 : smallL l = false) :
  Calls Tryz.prog 6 #[.slice A l.length cap, vO p] w fun e w' => e = .returned (.bool true) ∧ Below w.heap.size w w' := by
 obtain ⟨ob, W0, hob, hW0, hrow, hb0⟩ : ∃ ob W0, w.heap.size = ob ∧ w.alloc (.cells (aO p) 37) = W0 ∧ Row W0 ob (cO p) 37 ∧ Below w.heap.size w W0 := ⟨_, _, rfl, rfl, Row.new w (cO p) _, below_alloc _ _⟩
 have HL := Lib.hid (And.intro hL (And.intro hs (show l.length ≤ 9223372036854775807 by omega)))
 have H0 := Lib.hid (And.intro hrow hb0)
 clear hL hs hrow hb0
 have HS1 := Lib.hid h1
 clear h1
 go_enter Tryz.func6, Tryz.ntmps6
 go_wp2_with (first
  | (go_at_call 11; refine (known34 w2 (HL.out.1.keep H2.out)).mono ?_; rintro e w9 ⟨rfl, hb9⟩; have H9 := Lib.hid (Below.step H2.out hb9); clear hb9)
  | (go_at_call 12; refine (small12 A cap l w1 (HL.out.2.1.keep H1.out.2) HL.out.2.2).mono ?_; rw [HS1.out]; rintro e w2 ⟨rfl, hb2⟩; have H2 := Lib.hid (Below.step H1.out.2 hb2); clear hb2)
  | (go_at_call 11; refine (known34 W0 (HL.out.1.keep H0.out.2)).mono ?_; rintro e w1 ⟨rfl, hb1⟩; have H1 := Lib.hid (And.intro (H0.out.1.keep hb1) (Below.step H0.out.2 hb1)); clear hb1))
 go_ret
 exact ⟨rfl, H9.out⟩
theorem law6_small2 (A : Option Addr) (cap : Nat) (l : List Opn) (p : Opn) (w : World) (hs : Sl w cO A l) (hc : l.length ≤ cap) (hm : cap ≤ 9223372036854775807) (hL : Laid w) (h1 : smallL l = true) (h2 : smallL [p] = false) :
  Calls Tryz.prog 6 #[.slice A l.length cap, vO p] w fun e w' => e = .returned (.bool true) ∧ Below w.heap.size w w' := by
 obtain ⟨ob, W0, hob, hW0, hrow, hb0⟩ : ∃ ob W0, w.heap.size = ob ∧ w.alloc (.cells (aO p) 37) = W0 ∧ Row W0 ob (cO p) 37 ∧ Below w.heap.size w W0 := ⟨_, _, rfl, rfl, Row.new w (cO p) _, below_alloc _ _⟩
 have HL := Lib.hid (And.intro hL (And.intro hs (show l.length ≤ 9223372036854775807 by omega)))
 have H0 := Lib.hid (And.intro hrow hb0)
 clear hL hs hrow hb0
 have HS1 := Lib.hid h1
 have HS2 := Lib.hid h2
 clear h1 h2
 go_enter Tryz.func6, Tryz.ntmps6
 go_wp2_with (first
  | (go_at_call 11; refine (known34 w4 (HL.out.1.keep H4.out.2)).mono ?_; rintro e w9 ⟨rfl, hb9⟩; have H9 := Lib.hid (Below.step H4.out.2 hb9); clear hb9)
  | (go_at_call 12; refine (small12 (some ⟨sb, 0, none⟩) 1 [p] W3 H3.out.2.2 (by simp)).mono ?_; rw [HS2.out]; rintro e w4 ⟨rfl, hb4⟩; have H4 := Lib.hid (And.intro (H3.out.1.keep hb4) (Below.step H3.out.2.1 hb4)); clear hb4)
  | (go_at_call 12; refine (small12 A cap l w1 (HL.out.2.1.keep H1.out.2) HL.out.2.2).mono ?_; rw [HS1.out]; rintro e w2 ⟨rfl, hb2⟩; have lk := Row.okw (H1.out.1.keep hb2) (cO_length p); have k1 := lk.1; have k2 : rdA w2 ⟨ob, 0, none⟩ 41 = vO p := lk.2; obtain ⟨sb, W3, hsb, hW3, hs3, hb3⟩ : ∃ sb W3, w2.heap.size = sb ∧ w2.alloc (.cells (aOs [p]) 37) = W3 ∧ Sl W3 cO (some ⟨sb, 0, none⟩) [p] ∧ Below w2.heap.size w2 W3 := ⟨_, _, rfl, rfl, sl_op1 w2 p, below_alloc _ _⟩; have H3 := Lib.hid (And.intro ((H1.out.1.keep hb2).keep hb3) (And.intro (Below.step (Below.step H1.out.2 hb2) hb3) hs3)); clear hb2 hb3 hs3 lk)
  | (go_at_call 11; refine (known34 W0 (HL.out.1.keep H0.out.2)).mono ?_; rintro e w1 ⟨rfl, hb1⟩; have H1 := Lib.hid (And.intro (H0.out.1.keep hb1) (Below.step H0.out.2 hb1)); clear hb1))
 go_ret
 exact ⟨rfl, H9.out⟩
theorem law6_yes (A : Option Addr) (cap : Nat) (l : List Opn) (p : Opn) (w : World) (hs : Sl w cO A l) (hc : l.length ≤ cap) (hm : cap ≤ 9223372036854775807) (hL : Laid w) (h1 : smallL l = true) (h2 : smallL [p] = true) :
  Calls Tryz.prog 6 #[.slice A l.length cap, vO p] w fun e w' => e = .returned (.bool true) ∧ Below w.heap.size w w' := by
 obtain ⟨ob, W0, hob, hW0, hrow, hb0⟩ : ∃ ob W0, w.heap.size = ob ∧ w.alloc (.cells (aO p) 37) = W0 ∧ Row W0 ob (cO p) 37 ∧ Below w.heap.size w W0 := ⟨_, _, rfl, rfl, Row.new w (cO p) _, below_alloc _ _⟩
 have HL := Lib.hid (And.intro hL (And.intro hs (show l.length ≤ 9223372036854775807 by omega)))
 have H0 := Lib.hid (And.intro hrow hb0)
 clear hL hs hrow hb0
 have HS1 := Lib.hid h1
 have HS2 := Lib.hid h2
 have HM := Lib.hid (small_mem h1)
 have HP := Lib.hid ((small_mem h2).2 p (by simp))
 obtain ⟨s, hs0⟩ : ∃ s, runT (Tk.new 2) l = s := ⟨_, rfl⟩
 have HRT := Lib.hid hs0
 clear h1 h2 hs0
 go_enter Tryz.func6, Tryz.ntmps6
 go_upto_region 8 with (first
  | (go_at_call 27; refine (clone27 b s F W7 H7.out.1.tk H7.out.1.inv.a100 H7.out.1.inv.k100).mono ?_; rintro e w8 ⟨kc, F2, rfl, hT8, hF8, hb8⟩; have hr8 := H7.out.2.keep hb8; obtain ⟨x1, x2, x3⟩ := hr8.opC; obtain ⟨x4, x5⟩ := hr8.opI; have x6 := hr8.opR; have H8 := Lib.hid (And.intro (H7.out.1.keep hb8) (And.intro hT8 (show ∀ j ∈ F2, j < w8.heap.size ∧ j ∉ F from fun j hj => ⟨(hF8 j hj).2, fun h => by have := H7.out.1.lt j h; have := (hF8 j hj).1; omega⟩))); clear hb8 hT8 hF8 hr8)
  | (go_at_call 26; refine (run26 2 (by decide) (by decide) w A cap l w4 HL.out.1 H4.out.2 (HL.out.2.1.keep H4.out.2) HM.out.2 HM.out.1).mono ?_; rw [HRT.out]; rintro e w5 ⟨b, r, F, rfl, ht5, -, hk5⟩; obtain ⟨nx, W6, W7, hnx, hW6, rokn, hW7, -, hb7, -⟩ := row_made (ds := cT r) (t := 60) w5 (cT_length zT); rw [show w5.alloc (.cells (cT zT).toArray 60) = w5.alloc (.cells (aT zT) 60) from rfl] at hW6; rw [show W6.setRow nx (cT r).toArray = W6.setRow nx (aT r) from rfl] at hW7; have H7 := Lib.hid (And.intro (ht5.keep hb7) (show Row W7 ob (cO p) 37 from (H4.out.1.same (hk5.out ob H4.out.1.lt (fun h => by cases h)).2).keep hb7)); clear ht5 hk5 hb7)
  | (go_at_call 12; refine (small12 (some ⟨sb, 0, none⟩) 1 [p] W3 H3.out.2.2 (by simp)).mono ?_; rw [HS2.out]; rintro e w4 ⟨rfl, hb4⟩; have H4 := Lib.hid (And.intro (H3.out.1.keep hb4) (Below.step H3.out.2.1 hb4)); clear hb4)
  | (go_at_call 12; refine (small12 A cap l w1 (HL.out.2.1.keep H1.out.2) HL.out.2.2).mono ?_; rw [HS1.out]; rintro e w2 ⟨rfl, hb2⟩; have lk := Row.okw (H1.out.1.keep hb2) (cO_length p); have k1 := lk.1; have k2 : rdA w2 ⟨ob, 0, none⟩ 41 = vO p := lk.2; obtain ⟨sb, W3, hsb, hW3, hs3, hb3⟩ : ∃ sb W3, w2.heap.size = sb ∧ w2.alloc (.cells (aOs [p]) 37) = W3 ∧ Sl W3 cO (some ⟨sb, 0, none⟩) [p] ∧ Below w2.heap.size w2 W3 := ⟨_, _, rfl, rfl, sl_op1 w2 p, below_alloc _ _⟩; have H3 := Lib.hid (And.intro ((H1.out.1.keep hb2).keep hb3) (And.intro (Below.step (Below.step H1.out.2 hb2) hb3) hs3)); clear hb2 hb3 hs3 lk)
  | (go_at_call 11; refine (known34 W0 (HL.out.1.keep H0.out.2)).mono ?_; rintro e w1 ⟨rfl, hb1⟩; have H1 := Lib.hid (And.intro (H0.out.1.keep hb1) (Below.step H0.out.2 hb1)); clear hb1))
 obtain ⟨kd0, hkd⟩ : ∃ kd0, p.kind = kd0 := ⟨_, rfl⟩
 rw [hkd] at x3
 clear hkd
 by_cases h0 : kd0 = 0
 ·subst h0
  obtain ⟨no, hno⟩ : ∃ no, (hearT s p.cmd).2.2.2 = no := ⟨_, rfl⟩
  have HNO := Lib.hid hno
  clear hno
  by_cases hz : no = 0
  ·have q1 : (no == 0) = true := by simpa using hz
   clear hz
   go_wp2_with (first
    | (go_at_call 15; refine (H9.out.1.hear HL.out.1 p.cmd (by have := HP.out; omega) (by have := HP.out; omega)).mono ?_; rintro e w10 ⟨qv, lv, rfl, F1, ht1, hk1, -, -⟩; rw [HNO.out]; have H10 := Lib.hid ht1.bel; clear ht1 hk1)
    | (go_at_call 14; refine (own14 p.cmd w8).mono ?_; rintro e w9 ⟨rfl, hb9⟩; have H9 := Lib.hid (And.intro (H8.out.1.keep hb9) (And.intro (H8.out.2.1.keep hb9) (show ∀ j ∈ F2, j < w9.heap.size ∧ j ∉ F from fun j hj => ⟨Nat.lt_of_lt_of_le (H8.out.2.2 j hj).1 hb9.size, (H8.out.2.2 j hj).2⟩))); clear hb9))
   go_ret
   exact ⟨rfl, H10.out⟩
  ·have q1 : (no == 0) = false := by simpa using hz
   have HNZ := Lib.hid hz
   clear hz
   go_wp2_with (first
    | (go_at_call 29; refine (equal29s b kc s F1 F2 w10 H10.out.1.tk H10.out.2 H8.out.1.inv.a100 H8.out.1.inv.k100).mono ?_; rintro e w11 ⟨rfl, hb11⟩; have H11 := Lib.hid (Below.step H10.out.1.bel hb11); clear hb11)
    | (go_at_call 15; refine (H9.out.1.hear HL.out.1 p.cmd (by have := HP.out; omega) (by have := HP.out; omega)).mono ?_; rintro e w10 ⟨qv, lv, rfl, F1, ht1, hk1, -, -⟩; rw [HNO.out]; rw [err_hear s p.cmd (by rw [HNO.out]; exact HNZ.out)] at ht1; have H10 := Lib.hid (And.intro ht1 (H9.out.2.1.other hk1 H9.out.2.2)); clear ht1 hk1)
    | (go_at_call 14; refine (own14 p.cmd w8).mono ?_; rintro e w9 ⟨rfl, hb9⟩; have H9 := Lib.hid (And.intro (H8.out.1.keep hb9) (And.intro (H8.out.2.1.keep hb9) (show ∀ j ∈ F2, j < w9.heap.size ∧ j ∉ F from fun j hj => ⟨Nat.lt_of_lt_of_le (H8.out.2.2 j hj).1 hb9.size, (H8.out.2.2 j hj).2⟩))); clear hb9))
   go_ret
   exact ⟨rfl, H11.out⟩
 by_cases h1 : kd0 = 1
 ·subst h1
  obtain ⟨no, hno⟩ : ∃ no, (answerT s p.cmd).2.2 = no := ⟨_, rfl⟩
  have HNO := Lib.hid hno
  clear hno
  by_cases hz : no = 0
  ·have q1 : (no == 0) = true := by simpa using hz
   clear hz
   go_wp2_with (first
    | (go_at_call 16; refine (H9.out.1.answer HL.out.1 p.cmd (by have := HP.out; omega)).mono ?_; rintro e w10 ⟨rfl, F1, ht1, hk1⟩; rw [HNO.out]; have H10 := Lib.hid ht1.bel; clear ht1 hk1)
    | (go_at_call 14; refine (own14 p.cmd w8).mono ?_; rintro e w9 ⟨rfl, hb9⟩; have H9 := Lib.hid (And.intro (H8.out.1.keep hb9) (And.intro (H8.out.2.1.keep hb9) (show ∀ j ∈ F2, j < w9.heap.size ∧ j ∉ F from fun j hj => ⟨Nat.lt_of_lt_of_le (H8.out.2.2 j hj).1 hb9.size, (H8.out.2.2 j hj).2⟩))); clear hb9))
   go_ret
   exact ⟨rfl, H10.out⟩
  ·have q1 : (no == 0) = false := by simpa using hz
   have HNZ := Lib.hid hz
   clear hz
   go_wp2_with (first
    | (go_at_call 29; refine (equal29s b kc s F1 F2 w10 H10.out.1.tk H10.out.2 H8.out.1.inv.a100 H8.out.1.inv.k100).mono ?_; rintro e w11 ⟨rfl, hb11⟩; have H11 := Lib.hid (Below.step H10.out.1.bel hb11); clear hb11)
    | (go_at_call 16; refine (H9.out.1.answer HL.out.1 p.cmd (by have := HP.out; omega)).mono ?_; rintro e w10 ⟨rfl, F1, ht1, hk1⟩; rw [HNO.out]; rw [err_answer s p.cmd (by rw [HNO.out]; exact HNZ.out)] at ht1; have H10 := Lib.hid (And.intro ht1 (H9.out.2.1.other hk1 H9.out.2.2)); clear ht1 hk1)
    | (go_at_call 14; refine (own14 p.cmd w8).mono ?_; rintro e w9 ⟨rfl, hb9⟩; have H9 := Lib.hid (And.intro (H8.out.1.keep hb9) (And.intro (H8.out.2.1.keep hb9) (show ∀ j ∈ F2, j < w9.heap.size ∧ j ∉ F from fun j hj => ⟨Nat.lt_of_lt_of_le (H8.out.2.2 j hj).1 hb9.size, (H8.out.2.2 j hj).2⟩))); clear hb9))
   go_ret
   exact ⟨rfl, H11.out⟩
 by_cases h2 : kd0 = 2
 ·subst h2
  obtain ⟨no, hno⟩ : ∃ no, (acceptedT s p.cmd.id p.result).2.2 = no := ⟨_, rfl⟩
  have HNO := Lib.hid hno
  clear hno
  by_cases hz : no = 0
  ·have q1 : (no == 0) = true := by simpa using hz
   clear hz
   go_wp2_with (go_at_call 25; refine (H8.out.1.accepted p.cmd.id p.result).mono ?_; rintro e w10 ⟨rfl, F1, ht1, hk1⟩; rw [HNO.out]; have H10 := Lib.hid ht1.bel; clear ht1 hk1)
   go_ret
   exact ⟨rfl, H10.out⟩
  ·have q1 : (no == 0) = false := by simpa using hz
   have HNZ := Lib.hid hz
   clear hz
   go_wp2_with (first
    | (go_at_call 29; refine (equal29s b kc s F1 F2 w10 H10.out.1.tk H10.out.2 H8.out.1.inv.a100 H8.out.1.inv.k100).mono ?_; rintro e w11 ⟨rfl, hb11⟩; have H11 := Lib.hid (Below.step H10.out.1.bel hb11); clear hb11)
    | (go_at_call 25; refine (H8.out.1.accepted p.cmd.id p.result).mono ?_; rintro e w10 ⟨rfl, F1, ht1, hk1⟩; rw [HNO.out]; rw [err_accepted s p.cmd.id p.result (by rw [HNO.out]; exact HNZ.out)] at ht1; have H10 := Lib.hid (And.intro ht1 (H8.out.2.1.other hk1 H8.out.2.2)); clear ht1 hk1))
   go_ret
   exact ⟨rfl, H11.out⟩
 by_cases h3 : kd0 = 3
 ·subst h3
  obtain ⟨no, hno⟩ : ∃ no, (cancelT s p.cmd.id).2.2 = no := ⟨_, rfl⟩
  have HNO := Lib.hid hno
  clear hno
  by_cases hz : no = 0
  ·have q1 : (no == 0) = true := by simpa using hz
   clear hz
   go_wp2_with (go_at_call 28; refine (H8.out.1.cancel p.cmd.id).mono ?_; rintro e w10 ⟨rfl, F1, ht1, hk1⟩; rw [HNO.out]; have H10 := Lib.hid ht1.bel; clear ht1 hk1)
   go_ret
   exact ⟨rfl, H10.out⟩
  ·have q1 : (no == 0) = false := by simpa using hz
   have HNZ := Lib.hid hz
   clear hz
   go_wp2_with (first
    | (go_at_call 29; refine (equal29s b kc s F1 F2 w10 H10.out.1.tk H10.out.2 H8.out.1.inv.a100 H8.out.1.inv.k100).mono ?_; rintro e w11 ⟨rfl, hb11⟩; have H11 := Lib.hid (Below.step H10.out.1.bel hb11); clear hb11)
    | (go_at_call 28; refine (H8.out.1.cancel p.cmd.id).mono ?_; rintro e w10 ⟨rfl, F1, ht1, hk1⟩; rw [HNO.out]; rw [err_cancel s p.cmd.id (by rw [HNO.out]; exact HNZ.out)] at ht1; have H10 := Lib.hid (And.intro ht1 (H8.out.2.1.other hk1 H8.out.2.2)); clear ht1 hk1))
   go_ret
   exact ⟨rfl, H11.out⟩
 by_cases h5 : kd0 = 5
 ·subst h5
  obtain ⟨no, hno⟩ : ∃ no, (openT s).2 = no := ⟨_, rfl⟩
  have HNO := Lib.hid hno
  clear hno
  by_cases hz : no = 0
  ·have q1 : (no == 0) = true := by simpa using hz
   clear hz
   go_wp2_with (go_at_call 17; refine (H8.out.1.open_).mono ?_; rintro e w10 ⟨rfl, F1, ht1, hk1⟩; rw [HNO.out]; have H10 := Lib.hid ht1.bel; clear ht1 hk1)
   go_ret
   exact ⟨rfl, H10.out⟩
  ·have q1 : (no == 0) = false := by simpa using hz
   have HNZ := Lib.hid hz
   clear hz
   go_wp2_with (first
    | (go_at_call 29; refine (equal29s b kc s F1 F2 w10 H10.out.1.tk H10.out.2 H8.out.1.inv.a100 H8.out.1.inv.k100).mono ?_; rintro e w11 ⟨rfl, hb11⟩; have H11 := Lib.hid (Below.step H10.out.1.bel hb11); clear hb11)
    | (go_at_call 17; refine (H8.out.1.open_).mono ?_; rintro e w10 ⟨rfl, F1, ht1, hk1⟩; rw [HNO.out]; rw [err_open s (by rw [HNO.out]; exact HNZ.out)] at ht1; have H10 := Lib.hid (And.intro ht1 (H8.out.2.1.other hk1 H8.out.2.2)); clear ht1 hk1))
   go_ret
   exact ⟨rfl, H11.out⟩
 by_cases h6 : kd0 = 6
 ·subst h6
  obtain ⟨no, hno⟩ : ∃ no, (dropT s).2 = no := ⟨_, rfl⟩
  have HNO := Lib.hid hno
  clear hno
  by_cases hz : no = 0
  ·have q1 : (no == 0) = true := by simpa using hz
   clear hz
   go_wp2_with (go_at_call 18; refine (H8.out.1.drop).mono ?_; rintro e w10 ⟨rfl, F1, ht1, hk1⟩; rw [HNO.out]; have H10 := Lib.hid ht1.bel; clear ht1 hk1)
   go_ret
   exact ⟨rfl, H10.out⟩
  ·have q1 : (no == 0) = false := by simpa using hz
   have HNZ := Lib.hid hz
   clear hz
   go_wp2_with (first
    | (go_at_call 29; refine (equal29s b kc s F1 F2 w10 H10.out.1.tk H10.out.2 H8.out.1.inv.a100 H8.out.1.inv.k100).mono ?_; rintro e w11 ⟨rfl, hb11⟩; have H11 := Lib.hid (Below.step H10.out.1.bel hb11); clear hb11)
    | (go_at_call 18; refine (H8.out.1.drop).mono ?_; rintro e w10 ⟨rfl, F1, ht1, hk1⟩; rw [HNO.out]; rw [err_drop s (by rw [HNO.out]; exact HNZ.out)] at ht1; have H10 := Lib.hid (And.intro ht1 (H8.out.2.1.other hk1 H8.out.2.2)); clear ht1 hk1))
   go_ret
   exact ⟨rfl, H11.out⟩
 have q0 : (kd0 == 0) = false := by simpa using h0
 have q1 : (kd0 == 1) = false := by simpa using h1
 have q2 : (kd0 == 2) = false := by simpa using h2
 have q3 : (kd0 == 3) = false := by simpa using h3
 have q5 : (kd0 == 5) = false := by simpa using h5
 have q6 : (kd0 == 6) = false := by simpa using h6
 clear h0 h1 h2 h3 h5 h6
 go_wp2
 go_ret
 exact ⟨rfl, H8.out.1.bel⟩
end
theorem law6 (A : Option Addr) (cap : Nat) (l : List Opn) (p : Opn) (hpi : p.ints) (w : World) (hs : Sl w cO A l) (hi : ∀ x ∈ l, x.ints) (hc : l.length ≤ cap) (hm : cap ≤ 9223372036854775807) (hL : Laid w) :
  Calls Tryz.prog 6 #[.slice A l.length cap, vO p] w fun e w' => e = .returned (.bool true) ∧ Below w.heap.size w w' := by
 have _ := hpi
 have _ := hi
 cases h1 : smallL l with
 | false => exact law6_small1 A cap l p w hs hc hm hL h1
 | true =>
  cases h2 : smallL [p] with
  | false => exact law6_small2 A cap l p w hs hc hm hL h1 h2
  | true => exact law6_yes A cap l p w hs hc hm hL h1 h2
end Go.Proofs.YtgojaelkdpabkaaGreatDoor
