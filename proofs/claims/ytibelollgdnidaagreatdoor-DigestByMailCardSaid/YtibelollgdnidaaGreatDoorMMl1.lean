/- Words: the plain side. -/
import Derived.Test.YtibelollgdnidaaGreatDoorMChk
namespace Go.Proofs.YtibelollgdnidaaGreatDoor
open Go.RowKit
def Good (x : List UInt8) : Prop := x ≠ [] ∧ ∀ c ∈ x, blankB c = false
theorem wl_run : ∀ (x r cur : List UInt8), (∀ c ∈ x, blankB c = false) → wl cur (x ++ r) = wl (cur ++ x) r
 | [], r, cur, _ => by simp
 | b :: x, r, cur, h => by
  rw [List.cons_append, wl, if_neg (by simp [h b (by simp)]), wl_run x r (cur ++ [b]) (fun c hc => h c (by simp [hc])), List.append_assoc]
  rfl
theorem joinTail_cons (y : List UInt8) (r : List (List UInt8)) : Lib.joinTail [32] (y :: r) = 32 :: (y ++ Lib.joinTail [32] r) := by simp [Lib.joinTail]
theorem wl_join : ∀ (ws : List (List UInt8)), (∀ x ∈ ws, Good x) → wl [] (Lib.join ws [32]) = ws
 | [], _ => rfl
 | [x], h => by
  have hx := h x (by simp)
  have := wl_run x [] [] hx.2
  rw [List.append_nil, List.nil_append] at this
  rw [Lib.join_one, this, wl, fl_cons hx.1]
 | x :: y :: r, h => by
  have hx := h x (by simp)
  have ih := wl_join (y :: r) (fun z hz => h z (by simp [List.mem_cons.1 hz]))
  rw [Lib.join_cons] at ih
  rw [Lib.join_cons, joinTail_cons, wl_run x _ [] hx.2, List.nil_append, wl, if_pos (by rfl), fl_cons hx.1, ih]
  rfl
theorem bl_sqz (s : ByteArray) : bl (sqz s) = Lib.join (wl [] (bl s)) [32] := bl_mkS _
open Go.RowKit
set_option maxRecDepth 100000 in
theorem isUser90 (s : ByteArray) (h : ∀ i (hi : i < s.size), loB s[i] = true) (hl : s.size ≤ 40) (w : World) : Calls Tryz.prog 90 #[.string s] w fun e w' => e = .returned (.bool true) ∧ w' = w := by
 have H := Lib.hid h
 have hls : ¬ (40 : Int) < (s.size : Int) := by omega
 clear h
 go_enter Tryz.func90, Tryz.ntmps90
 go_wp2
 go_loopw [3, 9] (fun _ i wr => ∃ k : Nat, k ≤ s.size ∧ i = .int .i64 (k : Int) ∧ wr = w) (fun _ i _ => s.size - (intOf i).toNat)
 case atStart => exact ⟨0, Nat.zero_le _, rfl, rfl⟩
 case round =>
  obtain ⟨k, hk, rfl, hwr⟩ := hrel
  obtain rfl := hwr.symm
  by_cases hlt : k < s.size
  ·have hki : (k : Int) < (s.size : Int) := by omega
   have hb := H.out k hlt
   go_wp2_with (go_at_call 68; refine (isLower_b s[k] _).mono ?_; rintro e w2 ⟨rfl, rfl⟩; rw [hb])
   go_roundw
   case rel => exact ⟨k + 1, hlt, by go_num, by first | rfl | trivial⟩
   case measure => simp [intOf]; omega
  ·obtain rfl : k = s.size := by omega
   go_wp2
   go_ret
   exact ⟨rfl, rfl⟩
theorem uOk (l : List UInt8) (h : l.all loB = true) : ∀ i (hi : i < (tx l).size), loB ((tx l)[i]) = true := by
 intro i hi
 exact List.all_eq_true.1 h _ (List.getElem_mem (l := l) hi)
def wDg : List UInt8 := [100, 105, 103, 101, 115, 116]
def wRe : List UInt8 := [114, 101, 97, 100, 101, 114]
def wBo : List UInt8 := [66, 111, 97, 116, 115]
theorem site_yes (s : ByteArray) (h : siteB (bl s) = true) (w : World) (hs : s.size ≤ 1000000) : Calls Tryz.prog 31 #[.string s] w fun e w' => (∃ a : Int, e = .returned (.tuple #[.int .i64 a, .int .i64 0])) ∧ w' = w := by
 refine (site37 s w hs).mono ?_
 rintro e w' ⟨a, n, rfl, hd, rfl⟩
 rw [h] at hd
 rw [of_decide_eq_true hd]
 exact ⟨⟨a, rfl⟩, rfl⟩
def HpS (w : World) (v : Value) (hs : List (List UInt8)) : Prop :=
 (hs = [] ∧ ∃ A c, v = .slice A 0 c) ∨ (hs ≠ [] ∧ ∃ g c, v = .slice (some ⟨g, 0, none⟩) hs.length c ∧ hs.length ≤ c ∧ g < w.heap.size ∧ ∀ (j : Nat) x, hs[j]? = some x → w.cell? ⟨g, 0 + j, none⟩ = some (.string (tx x)))
theorem HpS.keep {w w' : World} {v : Value} {hs : List (List UInt8)} (h : HpS w v hs) (hb : Below w.heap.size w w') : HpS w' v hs := by
 rcases h with h | ⟨h0, g, c, rfl, h1, h2, h3⟩
 ·exact .inl h
 ·exact .inr ⟨h0, g, c, rfl, h1, Nat.lt_of_lt_of_le h2 hb.size, fun j x hx => (hb.cell h2).trans (h3 j x hx)⟩
theorem hop_zs {w : World} {g : Nat} {hs : List (List UInt8)} (h3 : ∀ (j : Nat) x, hs[j]? = some x → w.cell? ⟨g, 0 + j, none⟩ = some (.string (tx x))) : ∀ j, j < (hs.map tx).length → w.cell? ⟨g, 0 + j, none⟩ = some (.string ((hs.map tx).getD j ByteArray.empty)) := by
 intro j hj
 rw [List.length_map] at hj
 rw [h3 j _ (List.getElem?_eq_getElem hj), List.getD_eq_getElem?_getD, List.getElem?_map, List.getElem?_eq_getElem hj]
 rfl
theorem tx_mem {x : List UInt8} {hs : List (List UInt8)} : tx x ∈ hs.map tx ↔ x ∈ hs := by
 rw [List.mem_map]
 constructor
 ·rintro ⟨y, hy, e⟩
  rw [← show y = x from congrArg bl e]
  exact hy
 ·exact fun h => ⟨x, h, rfl⟩
theorem contains32 (v : Value) (hs : List (List UInt8)) (x : List UInt8) (w : World) (h : HpS w v hs) (hl : hs.length ≤ 100) :
  Calls Tryz.prog 32 #[v, .string (tx x)] w fun e w' => e = .returned (.bool (decide (x ∈ hs))) ∧ w' = w := by
 rcases h with ⟨rfl, A, c, rfl⟩ | ⟨h0, g, c, rfl, h1, h2, h3⟩
 ·exact Tryz.slices_Contains_string_empty A c (tx x) w
 ·have := Tryz.slices_Contains_string g 0 hs.length c (hs.map tx) (tx x) w (by simp) (by omega) (hop_zs h3)
  rw [List.take_of_length_le (by simp), show Lib.containsS (hs.map tx) (tx x) = decide (x ∈ hs) from by
   rw [Bool.eq_iff_iff, decide_eq_true_eq, ← tx_mem (x := x) (hs := hs)]
   exact Lib.containsS_iff _ _] at this
  exact this
theorem contains32t (g c k : Nat) (hs : List (List UInt8)) (x : List UInt8) (w : World) (hk : k ≤ hs.length) (h3 : ∀ (j : Nat) y, hs[j]? = some y → w.cell? ⟨g, 0 + j, none⟩ = some (.string (tx y))) (hl : hs.length ≤ 100) :
  Calls Tryz.prog 32 #[.slice (some ⟨g, 0, none⟩) k c, .string (tx x)] w fun e w' => e = .returned (.bool (decide (x ∈ hs.take k))) ∧ w' = w := by
 have := Tryz.slices_Contains_string g 0 k c (hs.map tx) (tx x) w (by simpa using hk) (by omega) (hop_zs h3)
 rw [← List.map_take, show Lib.containsS ((hs.take k).map tx) (tx x) = decide (x ∈ hs.take k) from by
  rw [Bool.eq_iff_iff, decide_eq_true_eq, ← tx_mem (x := x) (hs := hs.take k)]
  exact Lib.containsS_iff _ _] at this
 exact this
def aMs (A : Option Addr) (n c : Nat) (B : ByteArray) : Array Value := #[.string ⟨#[100, 105, 103, 101, 115, 116]⟩, .string ⟨#[97]⟩, .string ⟨#[114, 101, 97, 100, 101, 114]⟩, .string ⟨#[98]⟩, .int .i64 0, .int .i64 100, .string ⟨#[66, 111, 97, 116, 115]⟩, .slice A n c, .string B]
structure EnvOk (u1 s1 u2 s2 : ByteArray) : Prop where
 c1 : ∀ w : World, Calls Tryz.prog 90 #[.string u1] w fun e w' => e = .returned (.bool true) ∧ w' = w
 c2 : ∀ w : World, Calls Tryz.prog 31 #[.string s1] w fun e w' => (∃ a : Int, e = .returned (.tuple #[.int .i64 a, .int .i64 0])) ∧ w' = w
 c3 : ∀ w : World, Calls Tryz.prog 90 #[.string u2] w fun e w' => e = .returned (.bool true) ∧ w' = w
 c4 : ∀ w : World, Calls Tryz.prog 31 #[.string s2] w fun e w' => (∃ a : Int, e = .returned (.tuple #[.int .i64 a, .int .i64 0])) ∧ w' = w
 ne : u2.toList.isEmpty = false
theorem envOk : EnvOk ⟨#[100, 105, 103, 101, 115, 116]⟩ ⟨#[97]⟩ ⟨#[114, 101, 97, 100, 101, 114]⟩ ⟨#[98]⟩ where
 c1 w := isUser90 (tx wDg) (uOk _ (by decide +kernel)) (by decide +kernel) w
 c2 w := site_yes (tx [97]) (by decide +kernel) w (by decide +kernel)
 c3 w := isUser90 (tx wRe) (uOk _ (by decide +kernel)) (by decide +kernel) w
 c4 w := site_yes (tx [98]) (by decide +kernel) w (by decide +kernel)
 ne := by rw [ByteArray.toList_eq]; rfl
set_option maxRecDepth 100000 in
set_option maxHeartbeats 1600000 in
theorem checkEnvelope53 (A : Option Addr) (n c : Nat) (B : ByteArray) (w : World) : Calls Tryz.prog 53 #[.agg (aMs A n c B)] w fun e w' => e = .returned (.int .i64 0) ∧ Below w.heap.size w w' := by
 have hE := envOk
 unfold aMs
 generalize (⟨#[100, 105, 103, 101, 115, 116]⟩ : ByteArray) = u1, (⟨#[97]⟩ : ByteArray) = s1, (⟨#[114, 101, 97, 100, 101, 114]⟩ : ByteArray) = u2, (⟨#[98]⟩ : ByteArray) = s2, (⟨#[66, 111, 97, 116, 115]⟩ : ByteArray) = sb at hE ⊢
 have hne := hE.ne
 have HE := Lib.hid hE
 have HB := Lib.hid (below_alloc w (.cells #[.string u1, .string s1, .string u2, .string s2, .int .i64 0, .int .i64 100, .string sb, .slice A n c, .string B] 47))
 have T1 := Lib.hid True.intro
 have T2 := Lib.hid True.intro
 clear hE
 go_enter Tryz.func53, Tryz.ntmps53
 go_wp2_with (first
  | (go_at_call 90; refine (usee T1 (HE.out.c1 _)).mono ?_; rintro e w2 ⟨rfl, rfl⟩; clear T1)
  | (go_at_call 31; refine (usee T2 (HE.out.c2 _)).mono ?_; rintro e w2 ⟨⟨a1, rfl⟩, rfl⟩; clear T2)
  | (go_at_call 90; refine (HE.out.c3 _).mono ?_; rintro e w2 ⟨rfl, rfl⟩)
  | (go_at_call 31; refine (HE.out.c4 _).mono ?_; rintro e w2 ⟨⟨a2, rfl⟩, rfl⟩)
  | (go_at_call 91; refine (mMinute91 100 (by omega) _).mono ?_; rintro e w2 ⟨rfl, rfl⟩))
 go_ret
 exact ⟨rfl, HB.out⟩
end Go.Proofs.YtibelollgdnidaaGreatDoor
