/- The three functions that compare two slices of identities element by element: they return whether the lists are equal and change nothing. -/
import Derived.Test.YtcchpenaiomeeaaLaws
import Derived.Deep.QuietTactic
import Derived.BigQuiet
namespace Go.Proofs.Ytcchpenaiomeeaa
open Go.RowKit
theorem take_succ_congr {α : Type} {xs ys : List α} {k : Nat} (h1 : k < xs.length) (h2 : k < ys.length) (ht : xs.take k = ys.take k) (he : xs[k] = ys[k]) : xs.take (k + 1) = ys.take (k + 1) := by
  rw [List.take_succ_eq_append_getElem h1, List.take_succ_eq_append_getElem h2, ht, he]
set_option maxHeartbeats 400000 in
theorem same16 (A B : Option Addr) (c d : Nat) (xs ys : List Id) (w : World) (hx : Sl w cI A xs) (hy : Sl w cI B ys) (hn : xs.length ≤ 4294967296) (hm : ys.length ≤ 4294967296) :
    Calls Try.prog 16 #[.slice A xs.length c, .slice B ys.length d] w fun e w' => e = .returned (.bool (decide (xs = ys))) ∧ ∃ n, w' = w.drewN n := by
  by_cases hl : xs.length = ys.length
  · go_enter Try.func16, Try.ntmps16
    have hl1 : ((xs.length : Int) != (ys.length : Int)) = false := by simp [hl]
    have HL := Lib.hid hl; clear hl
    go_wp2
    go_loopw [5] (fun i wr => ∃ k m : Nat, k ≤ xs.length ∧ i = .int .i64 k ∧ xs.take k = ys.take k ∧ wr = w.drewN m) (fun i _ => xs.length - (intOf i).toNat)
    case atStart => exact ⟨0, 0, Nat.zero_le _, rfl, rfl, rfl⟩
    case round =>
      obtain ⟨k, m, hk, rfl, ht, rfl⟩ := hrel
      by_cases hlt : k < xs.length
      · have hlt2 : k < ys.length := by have := HL.out; omega
        obtain ⟨ad, rfl, hok, hrd⟩ := Sl.rd hx hlt
        obtain ⟨bd, rfl, hok', hrd'⟩ := Sl.rd hy hlt2
        have H := Lib.hid ht; clear ht hx hy
        have h1 : (0 : Int) ≤ (k : Int) := by omega
        have h2 : (k : Int) < (xs.length : Int) := by omega
        have h3 : (k : Int) < (ys.length : Int) := by omega
        by_cases he : xs[k] = ys[k]
        · have hd : decide (xs[k] = ys[k]) = true := by simp [he]
          have HE := Lib.hid he; clear he
          go_wp2
          go_quiet (fail)
          go_wp2
          go_roundw
          case rel => exact ⟨k + 1, m + nq, hlt, by go_num, take_succ_congr hlt hlt2 H.out HE.out, by first | rfl | exact World.drewN_drewN _ _ _⟩
          case measure => simp [intOf]; omega
        · have hd : decide (xs[k] = ys[k]) = false := by simp [he]
          have HE := Lib.hid he; clear he
          go_wp2
          go_quiet (fail)
          go_wp2
          go_ret
          refine ⟨?_, m + nq, by first | rfl | exact World.drewN_drewN _ _ _⟩
          have : ¬ xs = ys := fun e => HE.out (by subst e; rfl)
          simp [this]
      · have hkn : k = xs.length := by omega
        subst hkn
        have H := Lib.hid ht; clear ht hx hy
        go_wp2
        go_ret
        refine ⟨?_, m, rfl⟩
        have e1 := H.out
        rw [List.take_length, HL.out, List.take_length] at e1
        simp [e1]
  · have hl1 : ((xs.length : Int) != (ys.length : Int)) = true := by simp; omega
    have HL := Lib.hid hl; clear hl hx hy
    go_enter Try.func16, Try.ntmps16
    go_wp2
    go_ret
    refine ⟨?_, 0, rfl⟩
    have : ¬ xs = ys := fun e => HL.out (by rw [e])
    simp [this]
set_option maxHeartbeats 400000 in
theorem equal38 (A B : Option Addr) (c d : Nat) (xs ys : List Id) (w : World) (hx : Sl w cI A xs) (hy : Sl w cI B ys) (hn : xs.length ≤ 4294967296) (hm : ys.length ≤ 4294967296) :
    Calls Try.prog 38 #[.slice A xs.length c, .slice B ys.length d] w fun e w' => e = .returned (.bool (decide (xs = ys))) ∧ ∃ n, w' = w.drewN n := by
  by_cases hl : xs.length = ys.length
  · go_enter Try.func38, Try.ntmps38
    have hl1 : ((xs.length : Int) != (ys.length : Int)) = false := by simp [hl]
    have HL := Lib.hid hl; clear hl
    go_wp2
    go_loopw [13] (fun i wr => ∃ k m : Nat, k ≤ xs.length ∧ i = .int .i64 k ∧ xs.take k = ys.take k ∧ wr = w.drewN m) (fun i _ => xs.length - (intOf i).toNat)
    case atStart => exact ⟨0, 0, Nat.zero_le _, rfl, rfl, rfl⟩
    case round =>
      obtain ⟨k, m, hk, rfl, ht, rfl⟩ := hrel
      by_cases hlt : k < xs.length
      · have hlt2 : k < ys.length := by have := HL.out; omega
        obtain ⟨ad, rfl, hok, hrd⟩ := Sl.rd hx hlt
        obtain ⟨bd, rfl, hok', hrd'⟩ := Sl.rd hy hlt2
        have H := Lib.hid ht; clear ht hx hy
        have h1 : (0 : Int) ≤ (k : Int) := by omega
        have h2 : (k : Int) < (xs.length : Int) := by omega
        have h3 : (k : Int) < (ys.length : Int) := by omega
        by_cases he : xs[k] = ys[k]
        · have hd : decide (xs[k] = ys[k]) = true := by simp [he]
          have HE := Lib.hid he; clear he
          go_wp2
          go_quiet (fail)
          go_wp2
          go_roundw
          case rel => exact ⟨k + 1, m + nq, hlt, by go_num, take_succ_congr hlt hlt2 H.out HE.out, by first | rfl | exact World.drewN_drewN _ _ _⟩
          case measure => simp [intOf]; omega
        · have hd : decide (xs[k] = ys[k]) = false := by simp [he]
          have HE := Lib.hid he; clear he
          go_wp2
          go_quiet (fail)
          go_wp2
          go_ret
          refine ⟨?_, m + nq, by first | rfl | exact World.drewN_drewN _ _ _⟩
          have : ¬ xs = ys := fun e => HE.out (by subst e; rfl)
          simp [this]
      · have hkn : k = xs.length := by omega
        subst hkn
        have H := Lib.hid ht; clear ht hx hy
        go_wp2
        go_ret
        refine ⟨?_, m, rfl⟩
        have e1 := H.out
        rw [List.take_length, HL.out, List.take_length] at e1
        simp [e1]
  · have hl1 : ((xs.length : Int) != (ys.length : Int)) = true := by simp; omega
    have HL := Lib.hid hl; clear hl hx hy
    go_enter Try.func38, Try.ntmps38
    go_wp2
    go_ret
    refine ⟨?_, 0, rfl⟩
    have : ¬ xs = ys := fun e => HL.out (by rw [e])
    simp [this]
set_option maxHeartbeats 400000 in
theorem same39 (A B : Option Addr) (c d : Nat) (xs ys : List Id) (w : World) (hx : Sl w cI A xs) (hy : Sl w cI B ys) (hn : xs.length ≤ 4294967296) (hm : ys.length ≤ 4294967296) :
    Calls Try.prog 39 #[.slice A xs.length c, .slice B ys.length d] w fun e w' => e = .returned (.bool (decide (xs = ys))) ∧ ∃ n, w' = w.drewN n := by
  by_cases hl : xs.length = ys.length
  · go_enter Try.func39, Try.ntmps39
    have hl1 : ((xs.length : Int) != (ys.length : Int)) = false := by simp [hl]
    have HL := Lib.hid hl; clear hl
    go_wp2
    go_loopw [5] (fun i wr => ∃ k m : Nat, k ≤ xs.length ∧ i = .int .i64 k ∧ xs.take k = ys.take k ∧ wr = w.drewN m) (fun i _ => xs.length - (intOf i).toNat)
    case atStart => exact ⟨0, 0, Nat.zero_le _, rfl, rfl, rfl⟩
    case round =>
      obtain ⟨k, m, hk, rfl, ht, rfl⟩ := hrel
      by_cases hlt : k < xs.length
      · have hlt2 : k < ys.length := by have := HL.out; omega
        obtain ⟨ad, rfl, hok, hrd⟩ := Sl.rd hx hlt
        obtain ⟨bd, rfl, hok', hrd'⟩ := Sl.rd hy hlt2
        have H := Lib.hid ht; clear ht hx hy
        have h1 : (0 : Int) ≤ (k : Int) := by omega
        have h2 : (k : Int) < (xs.length : Int) := by omega
        have h3 : (k : Int) < (ys.length : Int) := by omega
        by_cases he : xs[k] = ys[k]
        · have hd : decide (xs[k] = ys[k]) = true := by simp [he]
          have HE := Lib.hid he; clear he
          go_wp2
          go_quiet (fail)
          go_wp2
          go_roundw
          case rel => exact ⟨k + 1, m + nq, hlt, by go_num, take_succ_congr hlt hlt2 H.out HE.out, by first | rfl | exact World.drewN_drewN _ _ _⟩
          case measure => simp [intOf]; omega
        · have hd : decide (xs[k] = ys[k]) = false := by simp [he]
          have HE := Lib.hid he; clear he
          go_wp2
          go_quiet (fail)
          go_wp2
          go_ret
          refine ⟨?_, m + nq, by first | rfl | exact World.drewN_drewN _ _ _⟩
          have : ¬ xs = ys := fun e => HE.out (by subst e; rfl)
          simp [this]
      · have hkn : k = xs.length := by omega
        subst hkn
        have H := Lib.hid ht; clear ht hx hy
        go_wp2
        go_ret
        refine ⟨?_, m, rfl⟩
        have e1 := H.out
        rw [List.take_length, HL.out, List.take_length] at e1
        simp [e1]
  · have hl1 : ((xs.length : Int) != (ys.length : Int)) = true := by simp; omega
    have HL := Lib.hid hl; clear hl hx hy
    go_enter Try.func39, Try.ntmps39
    go_wp2
    go_ret
    refine ⟨?_, 0, rfl⟩
    have : ¬ xs = ys := fun e => HL.out (by rw [e])
    simp [this]
end Go.Proofs.Ytcchpenaiomeeaa
