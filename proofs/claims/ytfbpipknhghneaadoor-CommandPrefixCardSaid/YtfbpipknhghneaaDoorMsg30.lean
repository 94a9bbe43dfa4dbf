/- The classes of bytes of message identifiers, and what a text that is one stands for. -/
import Derived.Test.YtfbpipknhghneaaDoorUnhex
import Derived.Test.YtfbpipknhghneaaDoorTy30
namespace Go.Proofs.YtfbpipknhghneaaDoor
open Go.RowKit
/-- A blank. -/
def blkB (c : UInt8) : Bool := decide (c.toNat = 32) || decide (c.toNat = 9)
/-- Which byte can stand at an offset of a message identifier. -/
def okAt (i : Nat) (c : UInt8) : Bool := if i < 1 then decide (c.toNat = 60) else if i < 65 then hexB c else decide (c.toNat = [64, 104, 97, 115, 104, 62].getD (i - 65) 0)
def identB (l : List UInt8) : Bool := decide (l.length = 71) && (List.range 71).all fun i => okAt i (l.getD i 0)
def toId (l : List UInt8) : Id := if h : l.length = 32 then ⟨l, h⟩ else zI
def midL (l : List UInt8) : Id := toId (unhexL ((l.drop 1).take 64))
def identL (l : List UInt8) : Option Id := if identB l = true then some (midL l) else none
set_option maxHeartbeats 400000 in
theorem isDigit_m (c : UInt8) (w : World) : Calls Tryd.prog 101 #[vB c] w fun e w' => e = .returned (.bool (hexB c)) ∧ w = w' := by
  rcases hd : digB c with _ | _
  all_goals
    go_enter Tryd.func101, Tryd.ntmps101
    go_wp2_with (go_at_call 84; refine (isDigit_b _ _).mono ?_; rintro e w' ⟨rfl, rfl⟩)
    all_goals
      go_ret
      exact ⟨ret_bool (by unfold hexB; rw [Bool.eq_iff_iff]; simp [hd]; try omega), rfl⟩
theorem hexI_eq (c : UInt8) : hexI c = if 48 ≤ (c.toNat : Int) ∧ (c.toNat : Int) ≤ 57 then (c.toNat : Int) - 48 else if 97 ≤ (c.toNat : Int) ∧ (c.toNat : Int) ≤ 102 then (c.toNat : Int) - 97 + 10 else -1 := by
  unfold hexI hexB digB hexV
  by_cases h1 : 48 ≤ (c.toNat : Int) ∧ (c.toNat : Int) ≤ 57
  · have a : 48 ≤ c.toNat := by omega
    have b : c.toNat ≤ 57 := by omega
    simp [a, b, h1]
    omega
  · by_cases h2 : 97 ≤ (c.toNat : Int) ∧ (c.toNat : Int) ≤ 102
    · have a : 97 ≤ c.toNat := by omega
      have b : c.toNat ≤ 102 := by omega
      have d : ¬ c.toNat ≤ 57 := by omega
      simp [a, b, d, h1, h2]
      omega
    · have a : ¬ ((48 ≤ c.toNat ∧ c.toNat ≤ 57) ∨ (97 ≤ c.toNat ∧ c.toNat ≤ 102)) := by omega
      simp [h1, h2]
      omega
theorem hexI_dig (c : UInt8) (h1 : 48 ≤ (c.toNat : Int)) (h2 : (c.toNat : Int) ≤ 57) : hexI c = (c.toNat : Int) - 48 := by rw [hexI_eq, if_pos ⟨h1, h2⟩]
theorem hexI_low (c : UInt8) (h1 : 97 ≤ (c.toNat : Int)) (h2 : (c.toNat : Int) ≤ 102) : hexI c = (c.toNat : Int) - 97 + 10 := by rw [hexI_eq, if_neg (by omega), if_pos ⟨h1, h2⟩]
theorem hexI_no (c : UInt8) (h1 : (c.toNat : Int) < 48 ∨ 57 < (c.toNat : Int)) (h2 : (c.toNat : Int) < 97 ∨ 102 < (c.toNat : Int)) : hexI c = -1 := by rw [hexI_eq, if_neg (by omega), if_neg (by omega)]
theorem beq_byte (c : UInt8) (n : Nat) : ((c.toNat : Int) == (n : Int)) = decide (c.toNat = n) := by
  rw [Bool.eq_iff_iff]; simp; omega
set_option maxHeartbeats 400000 in
theorem value_r (c : UInt8) (w : World) : Calls Tryd.prog 80 #[vB c] w fun e w' => e = .returned (.int .i64 (hexI c)) ∧ w = w' := by
  have hc := c.toNat_lt
  go_enter Tryd.func80, Tryd.ntmps80
  go_wp2
  all_goals
    go_ret
    first
      | exact ⟨ret_int (hexI_dig c ‹_› ‹_›).symm, rfl⟩
      | exact ⟨ret_int (hexI_low c ‹_› ‹_›).symm, rfl⟩
      | exact ⟨ret_int (hexI_no c (by first | exact .inl ‹_› | exact .inr ‹_›) (by first | exact .inl ‹_› | exact .inr ‹_›)).symm, rfl⟩
set_option maxHeartbeats 800000 in
theorem fits_b (i : Nat) (c : UInt8) (w : World) (hi : i < 71) : Calls Tryd.prog 90 #[.int .i64 (i : Int), vB c] w fun e w' => e = .returned (.bool (okAt i c)) ∧ w = w' := by
  have hcase : i = 0 ∨ (1 ≤ i ∧ i < 65) ∨ i = 65 ∨ i = 66 ∨ i = 67 ∨ i = 68 ∨ i = 69 ∨ i = 70 := by omega
  clear hi
  rcases hcase with rfl | ⟨h1, h2⟩ | rfl | rfl | rfl | rfl | rfl | rfl
  case inr.inl =>
    have h3 : ¬ (i : Int) < 1 := by omega
    have h4 : (i : Int) < 65 := by omega
    have e : okAt i c = hexB c := by unfold okAt; rw [if_neg (by omega), if_pos h2]
    have H := Lib.hid e; clear e
    go_enter Tryd.func90, Tryd.ntmps90
    go_wp2_with (go_at_call 101; refine (isDigit_m _ _).mono ?_; rintro e w' ⟨rfl, rfl⟩)
    go_ret
    exact ⟨ret_bool H.out.symm, rfl⟩
  all_goals
    go_enter Tryd.func90, Tryd.ntmps90
    go_wp2
    go_ret
    first
      | exact ⟨ret_bool (beq_byte c 60), rfl⟩
      | exact ⟨ret_bool (beq_byte c 64), rfl⟩
      | exact ⟨ret_bool (beq_byte c 104), rfl⟩
      | exact ⟨ret_bool (beq_byte c 97), rfl⟩
      | exact ⟨ret_bool (beq_byte c 115), rfl⟩
      | exact ⟨ret_bool (beq_byte c 62), rfl⟩
end Go.Proofs.YtfbpipknhghneaaDoor
