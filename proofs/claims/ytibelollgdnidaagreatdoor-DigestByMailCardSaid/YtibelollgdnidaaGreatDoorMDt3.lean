/- digest, mail: what is permitted in a part: the contracts where it is. -/
import Derived.Test.YtibelollgdnidaaGreatDoorMDpA
import Derived.Test.YtibelollgdnidaaGreatDoorMSiA
namespace Go.Proofs.YtibelollgdnidaaGreatDoor
open Go.RowKit
structure PlOk (s : ByteArray) : Prop where
 all : ∀ i (h : i < s.size), 32 ≤ s[i].toNat ∧ s[i].toNat ≤ 126
 pre : Lib.hasPrefix s.data.toList [32] = false
 suf : Lib.hasSuffix s.data.toList [32] = false
 len : s.size ≤ 200
section
set_option maxRecDepth 100000
theorem isPlain44 (s : ByteArray) (h : PlOk s) (w : World) : Calls Tryz.prog 44 #[.string s] w fun e w' => e = .returned (.bool true) ∧ w' = w := by
 have hlen := h.len
 have H := Lib.hid h
 clear h
 go_enter Tryz.func44, Tryz.ntmps44
 go_wp2
 go_loopw [3, 6] (fun _ i wr => ∃ k : Nat, k ≤ s.size ∧ i = .int .i64 (k : Int) ∧ wr = w) (fun _ i _ => s.size - (intOf i).toNat)
 case atStart => exact ⟨0, Nat.zero_le _, rfl, rfl⟩
 case round =>
  obtain ⟨k, hk, rfl, hwr⟩ := hrel
  obtain rfl := hwr.symm
  by_cases hlt : k < s.size
  ·have hki : (k : Int) < (s.size : Int) := by omega
   have h1 : ¬ ((s[k].toNat : Nat) : Int) < 32 := by have := H.out.all k hlt; omega
   have h2 : ¬ 126 < ((s[k].toNat : Nat) : Int) := by have := H.out.all k hlt; omega
   go_wp2
   go_roundw
   case rel => exact ⟨k + 1, hlt, by go_num, by first | rfl | trivial⟩
   case measure => simp [intOf]; omega
  ·obtain rfl : k = s.size := by omega
   go_wp2_with (first
    | (go_at_call 39; refine (Tryz.strings_HasPrefix s ⟨#[32]⟩ _).mono ?_; rintro e w2 ⟨rfl, rfl⟩; rw [show Lib.hasPrefix s.data.toList (⟨#[32]⟩ : ByteArray).data.toList = false from H.out.pre])
    | (go_at_call 85; refine (Tryz.strings_HasSuffix s ⟨#[32]⟩ _ (by omega)).mono ?_; rintro e w3 ⟨rfl, rfl⟩; rw [show Lib.hasSuffix s.data.toList (⟨#[32]⟩ : ByteArray).data.toList = false from H.out.suf]))
   go_ret
   exact ⟨rfl, rfl⟩
theorem isTitle15 (s : ByteArray) (h : PlOk s) (h1 : 1 ≤ s.size) (h2 : s.size ≤ 100) (w : World) : Calls Tryz.prog 15 #[.string s] w fun e w' => e = .returned (.bool true) ∧ w' = w := by
 have h1i : 1 ≤ (s.size : Int) := by omega
 have h2i : (s.size : Int) ≤ 100 := by omega
 have H := Lib.hid h
 clear h h1 h2
 go_enter Tryz.func15, Tryz.ntmps15
 go_wp2_with (go_at_call 44; refine (isPlain44 s H.out w).mono ?_; rintro e w2 ⟨rfl, rfl⟩)
 go_ret
 exact ⟨rfl, rfl⟩
theorem isFrom45 (s : ByteArray) (h : PlOk s) (h1 : 1 ≤ s.size) (w : World) : Calls Tryz.prog 45 #[.string s] w fun e w' => e = .returned (.bool true) ∧ w' = w := by
 have h1i : 1 ≤ (s.size : Int) := by omega
 have h2i : (s.size : Int) ≤ 200 := by have := h.len; omega
 have H := Lib.hid h
 clear h h1
 go_enter Tryz.func45, Tryz.ntmps45
 go_wp2_with (go_at_call 44; refine (isPlain44 s H.out w).mono ?_; rintro e w2 ⟨rfl, rfl⟩)
 go_ret
 exact ⟨rfl, rfl⟩
theorem isSubject46 (s : ByteArray) (h : PlOk s) (w : World) : Calls Tryz.prog 46 #[.string s] w fun e w' => e = .returned (.bool true) ∧ w' = w := by
 have h2i : (s.size : Int) ≤ 200 := by have := h.len; omega
 have H := Lib.hid h
 clear h
 go_enter Tryz.func46, Tryz.ntmps46
 go_wp2_with (go_at_call 44; refine (isPlain44 s H.out w).mono ?_; rintro e w2 ⟨rfl, rfl⟩)
 go_ret
 exact ⟨rfl, rfl⟩
end
theorem isOrdinal16 (n : Nat) (h1 : 1 ≤ n) (h2 : n ≤ 1000) (w : World) : Calls Tryz.prog 16 #[.int .i64 (n : Int)] w fun e w' => e = .returned (.bool true) ∧ w' = w := by
 have h1i : 1 ≤ (n : Int) := by omega
 have h2i : (n : Int) ≤ 1000000 := by omega
 clear h1 h2
 go_enter Tryz.func16, Tryz.ntmps16
 go_wp2
 go_ret
 exact ⟨rfl, rfl⟩
theorem isMinute17 (n : Nat) (h2 : n ≤ 1439) (w : World) : Calls Tryz.prog 17 #[.int .i64 (n : Int)] w fun e w' => e = .returned (.bool true) ∧ w' = w := by
 have h1i : 0 ≤ (n : Int) := by omega
 have h2i : (n : Int) ≤ 105190559 := by omega
 clear h2
 go_enter Tryz.func17, Tryz.ntmps17
 go_wp2
 go_ret
 exact ⟨rfl, rfl⟩
theorem mMinute91 (n : Nat) (h2 : n ≤ 1439) (w : World) : Calls Tryz.prog 91 #[.int .i64 (n : Int)] w fun e w' => e = .returned (.bool true) ∧ w' = w := by
 have h1i : 0 ≤ (n : Int) := by omega
 have h2i : (n : Int) ≤ 105190559 := by omega
 clear h2
 go_enter Tryz.func91, Tryz.ntmps91
 go_wp2
 go_ret
 exact ⟨rfl, rfl⟩
theorem dValid120 (n : Nat) (h2 : n ≤ 1439) (w : World) : Calls Tryz.prog 120 #[.int .i64 (n : Int)] w fun e w' => e = .returned (.bool true) ∧ w' = w := by
 have h1i : 0 ≤ (n : Int) := by omega
 have h2i : (n : Int) ≤ 105190559 := by omega
 clear h2
 go_enter Tryz.func120, Tryz.ntmps120
 go_wp2
 go_ret
 exact ⟨rfl, rfl⟩
open Go.RowKit
theorem yearDays158 (w : World) : Calls Tryz.prog 158 #[.int .i64 2000] w fun e w' => e = .returned (.int .i64 366) ∧ w' = w := by
 go_enter Tryz.func158, Tryz.ntmps158
 go_wp2
 go_ret
 exact ⟨rfl, rfl⟩
theorem monthDays117 (w : World) : Calls Tryz.prog 117 #[.int .i64 2000, .int .i64 1] w fun e w' => e = .returned (.int .i64 31) ∧ w' = w := by
 go_enter Tryz.func117, Tryz.ntmps117
 go_wp2
 go_ret
 exact ⟨rfl, rfl⟩
def vCv (y m d h n : Int) : Value := .agg #[.int .i64 y, .int .i64 m, .int .i64 d, .int .i64 h, .int .i64 n]
section
set_option maxRecDepth 100000
theorem calendar187 (w : World) : Calls Tryz.prog 187 #[.int .i64 0] w fun e w' => e = .returned (vCv 2000 1 1 0 0) ∧ Below w.heap.size w w' := by
 go_enter Tryz.func187, Tryz.ntmps187
 go_wp2
 go_loopw [0] (fun d wr => d = .int .i64 0 ∧ wr = (w.alloc (Obj.cells #[.int .i64 0, .int .i64 0, .int .i64 0, .int .i64 0, .int .i64 0] 145)).alloc (Obj.cells #[.int .i64 2000, .int .i64 1, .int .i64 0, .int .i64 0, .int .i64 0] 145)) (fun _ _ => 0)
 case atStart => exact ⟨rfl, rfl⟩
 case round =>
  obtain ⟨rfl, hwr⟩ := hrel
  subst hwr
  go_wp2_with (go_at_call 158; refine (yearDays158 _).mono ?_; rintro e w2 ⟨rfl, rfl⟩)
  go_loopw [0] (fun d wr => d = .int .i64 0 ∧ wr = (w.alloc (Obj.cells #[.int .i64 0, .int .i64 0, .int .i64 0, .int .i64 0, .int .i64 0] 145)).alloc (Obj.cells #[.int .i64 2000, .int .i64 1, .int .i64 0, .int .i64 0, .int .i64 0] 145)) (fun _ _ => 0)
  case atStart => exact ⟨rfl, rfl⟩
  case round =>
   obtain ⟨rfl, hwr⟩ := hrel
   subst hwr
   go_wp2_with (go_at_call 117; refine (monthDays117 _).mono ?_; rintro e w3 ⟨rfl, rfl⟩)
   exact bodyPost_ret (v := vCv 2000 1 1 0 0) (results_c1 (ad := ⟨w.heap.size, 0, none⟩) rfl rfl (by unfold vCv; go_simp)) rfl ⟨rfl, Below.step (below_alloc _ _) (below_alloc _ _)⟩
theorem toCivil164 (n : Nat) (hn : n ≤ 1439) (w : World) : Calls Tryz.prog 164 #[.int .i64 (n : Int)] w fun e w' => e = .returned (.tuple #[vCv 2000 1 1 ((n / 60 : Nat) : Int) ((n % 60 : Nat) : Int), .int .i64 0]) ∧ Below w.heap.size w w' := by
 obtain ⟨W1, hW1⟩ : ∃ W1, w.alloc (Obj.cells #[.int .i64 0, .int .i64 0, .int .i64 0, .int .i64 0, .int .i64 0] 145) = W1 := ⟨_, rfl⟩
 have hq : (n : Int) / 1440 = 0 := by omega
 have hr : (n : Int) % 1440 = (n : Int) := by omega
 have hn2 : (n : Int) ≤ 1439 := by omega
 go_enter Tryz.func164, Tryz.ntmps164
 go_wp2_with (first
  | (go_at_call 120; refine (dValid120 n hn _).mono ?_; rintro e w2 ⟨rfl, rfl⟩)
  | (go_at_call 187; refine (calendar187 _).mono ?_; unfold vCv; rintro e w3 ⟨rfl, hb3⟩; have r3 := Row.keep (by rw [← hW1]; exact Row.new w _ _ : Row w2 w.heap.size [.int .i64 0, .int .i64 0, .int .i64 0, .int .i64 0, .int .i64 0] 145) hb3; have hlt := r3.lt; have c0 : w3.cell? ⟨w.heap.size, 0, none⟩ = some (.int .i64 0) := r3.cell 0; have f0 := r3.fz 0; have c1 : w3.cell? ⟨w.heap.size, 1, none⟩ = some (.int .i64 0) := r3.cell 1; have f1 := r3.fz 1; have c2 : w3.cell? ⟨w.heap.size, 2, none⟩ = some (.int .i64 0) := r3.cell 2; have f2 := r3.fz 2; have c3 : w3.cell? ⟨w.heap.size, 3, none⟩ = some (.int .i64 0) := r3.cell 3; have f3 := r3.fz 3; have c4 : w3.cell? ⟨w.heap.size, 4, none⟩ = some (.int .i64 0) := r3.cell 4; have f4 := r3.fz 4; have HB := Lib.hid (And.intro hb3 r3); clear hb3 r3))
 obtain ⟨hb3, r3⟩ := HB.out
 have hb := (by rw [← hW1]; exact below_alloc _ _ : Below w.heap.size w w2)
 have hone : ∀ (W : World) (k : Nat) (v : Value), Below w.heap.size w W → Below w.heap.size w (W.setCell ⟨w.heap.size, k, none⟩ v) := fun W k v h => Below.trans h ((One.set (w := W) (g := w.heap.size) k v).below (Nat.le_refl _) h.size)
 have hbb := Below.step (hone _ 4 (.int .i64 ((n : Int) % 60)) (hone _ 3 (.int .i64 ((n : Int) / 60)) (hone _ 2 (.int .i64 1) (hone _ 1 (.int .i64 1) (hone w3 0 (.int .i64 2000) (Below.step hb hb3)))))) (below_alloc _ (Obj.cells #[.int .i64 2000, .int .i64 1, .int .i64 1, .int .i64 ((n : Int) / 60), .int .i64 ((n : Int) % 60)] 145))
 have R := ((((((r3.set 0 (.int .i64 2000)).set 1 (.int .i64 1)).set 2 (.int .i64 1)).set 3 (.int .i64 ((n : Int) / 60))).set 4 (.int .i64 ((n : Int) % 60))).keep (below_alloc _ (Obj.cells #[.int .i64 2000, .int .i64 1, .int .i64 1, .int .i64 ((n : Int) / 60), .int .i64 ((n : Int) % 60)] 145)))
 clear c0 c1 c2 c3 c4 f0 f1 f2 f3 f4
 revert hbb R
 generalize World.alloc _ _ = W6
 intro hbb R
 have c0 := R.cell 0
 have c1 := R.cell 1
 have c2 := R.cell 2
 have c3 := R.cell 3
 have c4 := R.cell 4
 exact bodyPost_ret (v := .tuple #[vCv 2000 1 1 ((n / 60 : Nat) : Int) ((n % 60 : Nat) : Int), .int .i64 0]) (results_c2 (ad := ⟨w.heap.size, 0, none⟩) rfl rfl (by unfold vCv; go_simp) rfl) rfl ⟨rfl, hbb⟩
end
theorem weekday119 (n : Nat) (h2 : n ≤ 1439) (w : World) : Calls Tryz.prog 119 #[.int .i64 (n : Int)] w fun e w' => e = .returned (.tuple #[.int .i64 5, .int .i64 0]) ∧ w' = w := by
 have hq : Int.tdiv (n : Int) 1440 = 0 := by rw [Int.tdiv_eq_ediv_of_nonneg (by omega)]; omega
 have hq2 : (n : Int) / 1440 = 0 := by omega
 have hn : (n : Int) ≤ 1439 := by omega
 go_enter Tryz.func119, Tryz.ntmps119
 go_wp2_with (go_at_call 120; refine (dValid120 n h2 w).mono ?_; rintro e w2 ⟨rfl, rfl⟩)
 go_ret2
 exact ⟨rfl, rfl⟩
open Go.RowKit
def padT (k n : Nat) : List UInt8 := Lib.repeatL [48] (k - (Lib.itoa (n : Int)).length) ++ Lib.itoa (n : Int)
theorem rep48_len (j : Nat) : (Lib.repeatL [48] j).length = j := by
 induction j with
 | zero => rfl
 | succ j ih => rw [Lib.repeatL]; simp [ih]; try omega
set_option maxRecDepth 100000 in
theorem padded165 (n k : Nat) (hk : k ≤ 4) (hn : n ≤ 9999) (hl : (Lib.itoa (n : Int)).length ≤ k) (w : World) (htab : Lib.TabIs Tryz.prog w "internal/strconv.uint64pow10" .u64 Lib.pow10Tab) : Calls Tryz.prog 165 #[.int .i64 (n : Int), .int .i64 (k : Int)] w fun e w' => e = .returned (.string ⟨(padT k n).toArray⟩) ∧ Below w.heap.size w w' := by
 obtain ⟨s, hs⟩ : ∃ s : ByteArray, ⟨(Lib.itoa (n : Int)).toArray⟩ = s := ⟨_, rfl⟩
 obtain ⟨L, hL⟩ : ∃ L, s.size = L := ⟨_, rfl⟩
 have hsl : (Lib.itoa (n : Int)).length = L := by rw [← hL, ← hs]; exact List.size_toArray.symm
 have HS := Lib.hid (And.intro hs hL)
 have HT := Lib.hid htab
 have hLk : (L : Int) ≤ (k : Int) := by omega
 have hk4 : (k : Int) ≤ 4 := by omega
 have hn4 : (n : Int) ≤ 9999 := by omega
 obtain ⟨j, hj⟩ : ∃ j : Nat, (k : Int) - (L : Int) = (j : Int) := ⟨k - L, by omega⟩
 have hj4 : j ≤ 4 := by omega
 have HJ := Lib.hid (show k - L = j by omega)
 clear hs htab hl
 go_enter Tryz.func165, Tryz.ntmps165
 go_wp2_with fail
 go_at_call 58
 refine (Tryz.strconv_Itoa (n : Int) (by omega) (by omega) w HT.out).mono ?_
 rintro e w1 ⟨rfl, q, os, rfl⟩
 have HB := Lib.hid (Lib.below_grow w.heap.size w (Nat.le_refl _) q os)
 rw [HS.out.1]
 have hB := HB.out
 clear HB
 revert hB
 generalize Go.Sort.grow _ _ = W1
 intro hB
 have HB := Lib.hid hB
 clear hB
 go_wp2_with fail
 go_at_call 188
 refine (Tryz.strings_Repeat ⟨#[48]⟩ j W1 (by omega) (by show 1 * j ≤ _; omega)).mono ?_
 rintro e w2 ⟨rfl, hb2⟩
 obtain ⟨rp, hrp⟩ : ∃ rp : ByteArray, ⟨(Lib.repeatL (⟨#[48]⟩ : ByteArray).data.toList j).toArray⟩ = rp := ⟨_, rfl⟩
 rw [hrp]
 have hrs : rp.size = j := by
  rw [← hrp]
  show ((Lib.repeatL [48] j).toArray).size = j
  rw [List.size_toArray]
  exact rep48_len j
 have HR := Lib.hid (And.intro hrp hb2)
 have hz : ¬ 9223372036854775807 < rp.size + s.size := by omega
 have HF := Lib.hid (show rp ++ s = ⟨(padT k n).toArray⟩ by
  rw [← HR.out.1, ← HS.out.1]
  unfold padT
  rw [hsl, HJ.out]
  apply ByteArray.ext
  rw [ByteArray.data_append]
  exact List.append_toArray _ _)
 clear hrp hb2
 go_wp2
 go_ret
 exact ⟨by rw [← HF.out]; rfl, Below.step HB.out HR.out.2⟩
open Go.RowKit
def dayS : List ByteArray := [⟨#[77, 111, 110]⟩, ⟨#[84, 117, 101]⟩, ⟨#[87, 101, 100]⟩, ⟨#[84, 104, 117]⟩, ⟨#[70, 114, 105]⟩, ⟨#[83, 97, 116]⟩, ⟨#[83, 117, 110]⟩]
def monS : List ByteArray := [⟨#[74, 97, 110]⟩, ⟨#[70, 101, 98]⟩, ⟨#[77, 97, 114]⟩, ⟨#[65, 112, 114]⟩, ⟨#[77, 97, 121]⟩, ⟨#[74, 117, 110]⟩, ⟨#[74, 117, 108]⟩, ⟨#[65, 117, 103]⟩, ⟨#[83, 101, 112]⟩, ⟨#[79, 99, 116]⟩, ⟨#[78, 111, 118]⟩, ⟨#[68, 101, 99]⟩]
def vDs : Value := .agg (dayS.map Value.string).toArray
def vMs : Value := .agg (monS.map Value.string).toArray
section
set_option maxRecDepth 100000
theorem dayNames146 (w : World) : Calls Tryz.prog 146 #[] w fun e w' => e = .returned vDs ∧ Below w.heap.size w w' := by
 go_enter Tryz.func146, Tryz.ntmps146
 go_wp2
 exact bodyPost_ret (v := vDs) (results_c1 (ad := ⟨w.heap.size, 0, none⟩) rfl rfl (by unfold vDs dayS; go_simp)) rfl ⟨rfl, below_alloc _ _⟩
theorem monthNames147 (w : World) : Calls Tryz.prog 147 #[] w fun e w' => e = .returned vMs ∧ Below w.heap.size w w' := by
 go_enter Tryz.func147, Tryz.ntmps147
 go_wp2
 exact bodyPost_ret (v := vMs) (results_c1 (ad := ⟨w.heap.size, 0, none⟩) rfl rfl (by unfold vMs monS; go_simp)) rfl ⟨rfl, below_alloc _ _⟩
end
end Go.Proofs.YtibelollgdnidaaGreatDoor
