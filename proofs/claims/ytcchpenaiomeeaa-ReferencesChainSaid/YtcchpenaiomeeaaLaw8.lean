/- The law of a chain of answers. -/
import Derived.Test.YtcchpenaiomeeaaNearC
import Derived.Test.YtcchpenaiomeeaaKnown
import Derived.Test.YtcchpenaiomeeaaLaw7
import Derived.Test.YtcchpenaiomeeaaLaw6
import Derived.Test.YtcchpenaiomeeaaCheck
namespace Go.Proofs.Ytcchpenaiomeeaa
open Go.RowKit
/-- The list behind i answers. -/
def lst (i : Nat) : List Id := trimL ((List.range i).map fun j => bI (UInt8.ofNat (j + 1))) 20
def chainOK (i : Nat) : Bool :=
  decide (replyE (lst i) (bI (UInt8.ofNat (i + 1))) = (lst (i + 1), 0)) && decide (chk (lst (i + 1)) = 0) && decide ((lst (i + 1)).getD ((lst (i + 1)).length - 1) zI = bI (UInt8.ofNat (i + 1))) && decide ((lst (i + 1)).getD 0 zI = bI 1) &&
    (List.range (lst (i + 1)).length).all (fun k => k == 0 || decide ((lst (i + 1)).getD ((lst (i + 1)).length - k) zI = bI (UInt8.ofNat (i + 2 - k)))) && decide ((lst (i + 1)).length = min (i + 1) 20)
set_option maxRecDepth 100000 in
theorem chain_all : (List.range 60).all chainOK = true := by decide +kernel
theorem lst_len (i : Nat) : (lst i).length ≤ 20 := by
  have := trimL_len ((List.range i).map fun j => bI (UInt8.ofNat (j + 1))) 20 (by decide)
  unfold lst
  rw [this]
  exact Nat.min_le_right _ _
theorem chain_at {i : Nat} (hi : i < 60) : replyE (lst i) (bI (UInt8.ofNat (i + 1))) = (lst (i + 1), 0) ∧ chk (lst (i + 1)) = 0 ∧ (lst (i + 1)).getD ((lst (i + 1)).length - 1) zI = bI (UInt8.ofNat (i + 1)) ∧ (lst (i + 1)).getD 0 zI = bI 1 ∧
    (∀ k, 1 ≤ k → k < (lst (i + 1)).length → (lst (i + 1)).getD ((lst (i + 1)).length - k) zI = bI (UInt8.ofNat (i + 2 - k))) ∧ (lst (i + 1)).length = min (i + 1) 20 := by
  have h := List.all_eq_true.1 chain_all i (List.mem_range.2 hi)
  unfold chainOK at h
  simp only [Bool.and_eq_true, decide_eq_true_eq] at h
  obtain ⟨⟨⟨⟨⟨h1, h2⟩, h3⟩, h4⟩, h5⟩, h6⟩ := h
  refine ⟨h1, h2, h3, h4, fun k hk1 hk2 => ?_, h6⟩
  have := List.all_eq_true.1 h5 k (List.mem_range.2 hk2)
  simp only [Bool.or_eq_true, beq_iff_eq, decide_eq_true_eq] at this
  exact this.resolve_left (by omega)
theorem build_n (n : Nat) (hn : n < 256) (w : World) : (blA 33 #[(0, .int .u8 (n : Int))]).run Try.prog w = .ok (vI (bI (UInt8.ofNat n))) w := by
  have h := build33_b w (UInt8.ofNat n)
  rwa [show (UInt8.ofNat n).toNat = n by rw [UInt8.toNat_ofNat']; omega] at h
/-- The law's list. -/
def LS (w : World) (k : Nat) (v : Value) : Prop := ∃ A n c, v = .slice A n c ∧ (lst k).length = n ∧ n ≤ c ∧ Sl w cI A (lst k)
set_option maxRecDepth 100000 in
set_option maxHeartbeats 4000000 in
theorem law8 (n : Int) (hn0 : 0 ≤ n) (hn1 : n ≤ 255) (w : World) :
    Calls Try.prog 8 #[.int .u8 n] w fun e w' => e = .returned (.bool true) ∧ Below w.heap.size w w' := by
  have h60 : n % 60 < 60 := by omega
  have h00 : 0 ≤ n % 60 := by omega
  go_enter Try.func8, Try.ntmps8
  go_wp2_with (go_at_call 12; refine (known12 _).mono ?_; rintro e W1 ⟨rfl, hb1⟩; have H1 := Lib.hid hb1; clear hb1)
  go_loopw [3, 4] (fun v i wr => ∃ k : Nat, (k : Int) ≤ n % 60 ∧ i = .int .i64 k ∧ LS wr k v ∧ Below w.heap.size w wr) (fun _ i _ => (n % 60 - intOf i).toNat)
  case atStart => exact ⟨0, by omega, rfl, ⟨none, 0, 0, rfl, rfl, Nat.le_refl _, Sl.nil _ _ _⟩, H1.out⟩
  case round =>
    obtain ⟨k, hk, rfl, ⟨A, na, c, rfl, hl, hc, hs⟩, hb⟩ := hrel
    have HR := Lib.hid (And.intro hl (And.intro hc (And.intro hs hb)))
    clear hl hc hs hb
    by_cases hlt : (k : Int) < n % 60
    · obtain ⟨q1, q2, q3, q4, q5, q6⟩ := chain_at (i := k) (by omega)
      have hbn := build_n (k + 1) (by omega)
      push_cast at hbn
      obtain ⟨p, hp⟩ : ∃ p, bI (UInt8.ofNat (k + 1)) = p := ⟨_, rfl⟩
      obtain ⟨nx, hnx⟩ : ∃ nx, lst (k + 1) = nx := ⟨_, rfl⟩
      rw [hp] at hbn q1 q3
      rw [hnx] at q1 q2 q3 q4 q5 q6
      have hpos : decide (0 < nx.length) = true := decide_eq_true (by omega)
      have HC := Lib.hid (And.intro q1 (And.intro q2 (And.intro q3 (And.intro q4 (And.intro q5 (And.intro q6 (And.intro hpos (And.intro hp hnx))))))))
      have hn20 : nx.length ≤ 20 := by omega
      clear q1 q2 q3 q4 q5 q6 hpos hp hnx
      go_wp2_with (first
        | (go_at_call 26; refine (reply26b _ _ _ _ _ nx 0 _ HC.out.1 HR.out.1 (HR.out.2.2.1.keep (below_alloc _ _)) (by have := lst_len k; omega)).mono ?_; rintro e W2 ⟨A2, n2, c2, rfl, hl2, hc2, hb2, hs2⟩; have H2 := Lib.hid (And.intro hl2 (And.intro hc2 (And.intro hs2 (And.intro (Below.step (below_alloc wr _) hb2) ((at_new wr (cI p) 33 _ rfl).keep hb2))))); clear hl2 hc2 hb2 hs2)
        | (go_at_call 20; refine (parent20 _ _ _ nx _ H2.out.1 H2.out.2.1 H2.out.2.2.1 (by omega)).mono ?_; rintro e W3 ⟨rfl, hb3⟩; rw [HC.out.2.2.1, HC.out.2.2.2.2.2.2.1]; have H3 := Lib.hid hb3; clear hb3)
        | (go_at_call 25; refine (check25 _ _ _ nx _ H2.out.1 (H2.out.2.2.1.keep (Below.step H3.out (below_alloc _ _)))).mono ?_; rintro e W4 ⟨rfl, hb4⟩; rw [HC.out.2.1]; have hb34 := Below.step H3.out (Below.step (below_alloc W3 (.cells (aI p) 33)) hb4); have hb24 : Below W2.heap.size W2 W4 := hb34; have a8 := (at_new W3 (cI p) 33 _ rfl).keep hb4; have a5 := H2.out.2.2.2.2.keep hb24; have o8 := a8.ok; have r8 := a8.rd; have o5 := a5.ok; have r5 := a5.rd; rw [cI_length] at o8 r8 o5 r5; have hs4 := H2.out.2.2.1.keep hb24; obtain ⟨ad, rfl, e1, e2⟩ := Sl.rd (k := 0) hs4 (of_decide_eq_true HC.out.2.2.2.2.2.2.1); replace e1 : okA W4 ad 32 = true := e1; replace e2 : rdA W4 ad 32 = vI (bI 1) := e2.trans (by have h0 := HC.out.2.2.2.1; rw [List.getD_eq_getElem?_getD, List.getElem?_eq_getElem (of_decide_eq_true HC.out.2.2.2.2.2.2.1)] at h0; exact congrArg vI h0); have h0n : 0 < n2 := (by have h1 := of_decide_eq_true HC.out.2.2.2.2.2.2.1; have h2 := H2.out.1; omega); have h0i : (0 : Int) < (n2 : Int) := (by omega); have H4 := Lib.hid (And.intro hs4 (Below.step H2.out.2.2.2.1 hb24)); clear hb4 hb34 hb24 a8 a5 hs4))
      have hl2 := H2.out.1
      have HL := Lib.hid hl2
      have hn2 : n2 ≤ 20 := by omega
      clear hl2 o8 r8 o5 r5 e1 e2
      go_loop [10] (fun i => ∃ j : Nat, i = .int .i64 j ∧ 1 ≤ j ∧ j ≤ n2) (fun i => (n2 - intOf i).toNat)
      case atStart => exact ⟨1, rfl, by omega, by have := of_decide_eq_true HC.out.2.2.2.2.2.2.1; have := HL.out; omega⟩
      case round =>
        obtain ⟨j, rfl, hj1, hj2⟩ := hrel
        by_cases hjl : j < n2
        · obtain ⟨i2, hi2⟩ : ∃ i2, n2 = i2 + j := ⟨n2 - j, by omega⟩
          have hi3 : i2 < nx.length := by rw [HL.out]; omega
          obtain ⟨ad2, h0, e1, e2⟩ := Sl.rd H4.out.1 hi3
          obtain rfl : ad = ad2 := by injection h0
          have hij : (n2 : Int) - (j : Int) = (i2 : Int) := by omega
          have hi0 : (0 : Int) ≤ (i2 : Int) := by omega
          have hi4 : (i2 : Int) < (n2 : Int) := by omega
          have hg : nx[i2] = bI (UInt8.ofNat (k + 2 - j)) := by
            have h5 := HC.out.2.2.2.2.1 j hj1 (by rw [HL.out]; exact hjl)
            rw [HL.out, show n2 - j = i2 by omega, List.getD_eq_getElem?_getD, List.getElem?_eq_getElem hi3] at h5
            exact h5
          rw [hg] at e2
          have hbj := build_n (k + 2 - j) (by omega)
          rw [show ((k + 2 - j : Nat) : Int) = (k : Int) + 2 - (j : Int) by have := HC.out.2.2.2.2.2.1; have := HL.out; omega] at hbj
          have hjk : (j : Int) ≤ (k : Int) + 1 := by have := HC.out.2.2.2.2.2.1; have := HL.out; omega
          clear h0 hg hi2
          go_wp2_with (fail)
          go_round
          case rel => exact ⟨j + 1, by go_num, by omega, by omega⟩
          case measure => simp [intOf]; omega
        · have hje : j = n2 := by omega
          subst hje
          have hmin := HC.out.2.2.2.2.2.1
          rw [HL.out] at hmin
          have hmb : ((j : Int) != min ((k : Int) + 1) 20) = false := by simp; omega
          have HM := Lib.hid hmin
          clear hbn hmin
          go_wp2_with (fail)
          go_roundw
          case rel => exact ⟨k + 1, by omega, by go_num, ⟨some ad, j, c2, rfl, by rw [HC.out.2.2.2.2.2.2.2.2]; exact HL.out, H2.out.2.1, by rw [HC.out.2.2.2.2.2.2.2.2]; exact H4.out.1⟩, HR.out.2.2.2.trans (H4.out.2.mono HR.out.2.2.2.size)⟩
          case measure => simp [intOf]; omega
    · have hkn : n % 60 = (k : Int) := by omega
      clear h60 h00 hk
      have HK := Lib.hid hkn
      clear hkn
      go_wp2_with (fail)
      go_ret
      exact ⟨rfl, HR.out.2.2.2⟩
end Go.Proofs.Ytcchpenaiomeeaa
