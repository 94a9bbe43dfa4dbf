/- Print of the reference of package references: the same text, or the number of the error. -/
import Derived.Test.YtcchpenaiomeeaaPrint
namespace Go.Proofs.Ytcchpenaiomeeaa
open Go.RowKit
def pS (xs : List Id) : ByteArray := ⟨(printL xs).toArray⟩
theorem pS_size (xs : List Id) : (pS xs).size ≤ 72 * xs.length := by
  rw [show (pS xs).size = (printL xs).length from Lib.size_eq _]
  exact printL_len xs
theorem pS_first (x : Id) : pS [] ++ textS x = pS ([] ++ [x]) := by
  unfold pS textS
  rw [mk_append, List.nil_append, printL_one]
  rfl
theorem pS_snoc (l : List Id) (x : Id) (h : l ≠ []) : (pS l ++ (⟨#[32]⟩ : ByteArray)) ++ textS x = pS (l ++ [x]) := by
  unfold pS textS
  have h1 := mk_append (printL l) [32]
  rw [show (⟨#[32]⟩ : ByteArray) = ⟨[32].toArray⟩ from rfl, h1, mk_append, printL_snoc l x h]
set_option maxRecDepth 100000 in
set_option maxHeartbeats 1600000 in
theorem print_r (A : Option Addr) (c n : Nat) (xs : List Id) (w : World) (hl : xs.length = n) (hc : n ≤ c) (hx : Sl w cI A xs) :
    Calls Try.prog 31 #[.slice A n c] w (OutT w (printE xs)) := by
  subst hl
  have HB := Lib.hid (Below.refl w.heap.size w)
  by_cases h1 : chk xs = 0
  · have q1 : (chk xs != 0) = false := by simp [h1]
    have e : printE xs = (printL xs, 0) := by unfold printE; rw [if_neg (by simp [h1])]
    have h20 : xs.length ≤ 20 := ((chk_zero xs).1 h1).1
    have HX := Lib.hid (And.intro hx (And.intro h20 hc))
    rw [e]
    clear e h1 hx hc
    go_enter Try.func31, Try.ntmps31
    go_wp2_with (go_at_call 37; refine (check37 _ _ _ xs _ rfl HX.out.2.2 HX.out.1).mono ?_; rintro e w0 ⟨rfl, hb1⟩; replace HB := Lib.hid (Below.step HB.out hb1); clear hb1)
    go_loopw [5, 6] (fun v i wr => ∃ k : Nat, k ≤ xs.length ∧ i = .int .i64 k ∧ Below w.heap.size w wr ∧ v = .string (pS (xs.take k))) (fun _ i _ => xs.length - (intOf i).toNat)
    case atStart => exact ⟨0, Nat.zero_le _, rfl, HB.out, rfl⟩
    case round =>
      obtain ⟨k, hk, rfl, hb, rfl⟩ := hrel
      have HO := Lib.hid hb
      have hsz := pS_size (xs.take k)
      rw [List.length_take, Nat.min_eq_left hk] at hsz
      by_cases hlt : k < xs.length
      · obtain ⟨ad, rfl, hok, hrd⟩ := Sl.rd (HX.out.1.keep hb) hlt
        have HT := Lib.hid (show xs.take (k + 1) = xs.take k ++ [xs[k]] from List.take_succ_eq_append_getElem hlt)
        have h4 : (0 : Int) ≤ (k : Int) := by omega
        have h5 : (k : Int) < (xs.length : Int) := by omega
        have h20 := HX.out.2.1
        generalize xs[k] = x at hrd HT
        have htz := textS_size x
        clear hb
        by_cases hk0 : k = 0
        · subst hk0
          have HP := Lib.hid (pS_first x)
          have hz : ¬ 9223372036854775807 < (pS []).size + 71 := by rw [show (pS []).size = 0 from rfl]; omega
          rw [List.take_zero] at hsz HT ⊢
          rw [Nat.zero_mul, show ad.add 0 = ad from rfl] at hok hrd
          clear hsz
          go_wp2_with (go_at_call 51; refine (text_r2 x _).mono ?_; rintro e w1 ⟨rfl, hb1⟩; have H1 := Lib.hid hb1; clear hb1)
          go_roundw
          case rel => exact ⟨1, hlt, rfl, HO.out.trans (H1.out.mono HO.out.size), by rw [HT.out, ← HP.out]⟩
          case measure => simp [intOf]; omega
        · have hk1 : (0 : Int) < (k : Int) := by omega
          have HP := Lib.hid (pS_snoc (xs.take k) x (by intro e; have := congrArg List.length e; rw [List.length_take, List.length_nil] at this; omega))
          obtain ⟨a, ha⟩ : ∃ a, pS (xs.take k) = a := ⟨_, rfl⟩
          rw [ha] at hsz HP ⊢
          have hz : ¬ 9223372036854775807 < a.size + 1 := by omega
          have hz2 : ¬ 9223372036854775807 < a.size + 1 + 71 := by omega
          clear ha hk0 hsz
          go_wp2_with (go_at_call 51; refine (text_r2 x _).mono ?_; rintro e w1 ⟨rfl, hb1⟩; have H1 := Lib.hid hb1; clear hb1)
          go_roundw
          case rel => exact ⟨k + 1, hlt, by go_num, HO.out.trans (H1.out.mono HO.out.size), by rw [HT.out, ← HP.out]⟩
          case measure => simp [intOf]; omega
      · have hkn : k = xs.length := by omega
        subst hkn
        rw [List.take_length]
        clear hb hsz
        go_wp2
        go_ret2
        exact ⟨rfl, HO.out⟩
  · have q1 : (chk xs != 0) = true := by simp [h1]
    have e : printE xs = ([], chk xs) := by unfold printE; rw [if_pos h1]
    have HX := Lib.hid (And.intro hx hc)
    rw [e]
    clear e h1 hx hc
    go_enter Try.func31, Try.ntmps31
    go_wp2_with (go_at_call 37; refine (check37 _ _ _ xs _ rfl HX.out.2 HX.out.1).mono ?_; rintro e w0 ⟨rfl, hb1⟩; replace HB := Lib.hid (Below.step HB.out hb1); clear hb1)
    go_ret2
    exact ⟨rfl, HB.out⟩
end Go.Proofs.Ytcchpenaiomeeaa
