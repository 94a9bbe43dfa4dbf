/- The library's pieces are those of splitGo. -/
import Derived.Test.YtecalodcbkljoaaDoorMBat
import Derived.Lib.SplitLaws
import Derived.Lib.IndexBytes
namespace Go.Proofs.YtecalodcbkljoaaDoor
open Go.Lib
theorem splitGo_cur (c : UInt8) (s : List UInt8) : ∀ cur, splitGo c cur s = match splitGo c [] s with | [] => [] | h :: t => (cur ++ h) :: t := by
  induction s with
  | nil => intro cur; simp [splitGo]
  | cons x xs ih =>
    intro cur
    rw [splitGo, splitGo]
    by_cases h : x = c
    · rw [if_pos h, if_pos h]; simp
    · rw [if_neg h, if_neg h, ih (cur ++ [x]), ih ([] ++ [x])]
      cases splitGo c [] xs with
      | nil => rfl
      | cons a t => simp
theorem splitK_ne (c b : UInt8) (l : List UInt8) (k : Nat) (h : b ≠ c) : splitK [c] 0 k (b :: l) = match splitK [c] 0 k l with | [] => [] | h :: t => (b :: h) :: t := by
  cases k with
  | zero => rfl
  | succ k =>
    have hp : ([c] : List UInt8).isPrefixOf (b :: l) = false := by simp [List.isPrefixOf, Ne.symm h]
    have hix : index (b :: l) [c] = if index l [c] == -1 then -1 else index l [c] + 1 := by rw [index, hp]; simp
    have hge := index_ge l [c]
    rw [splitK, splitK, hix]
    by_cases hm : index l [c] = -1
    · rw [hm]; rfl
    · obtain ⟨j, hj⟩ : ∃ j : Nat, index l [c] = j := ⟨(index l [c]).toNat, by omega⟩
      rw [hj]
      have e1 : ((j : Int) == -1) = false := by simp only [beq_eq_false_iff_ne]; omega
      have e2 : (((j : Int) + 1) == -1) = false := by simp only [beq_eq_false_iff_ne]; omega
      rw [e1]
      simp only [Bool.false_eq_true, if_false]
      rw [e2]
      simp only [Bool.false_eq_true, if_false]
      rw [show ((j : Int) + 1).toNat = j + 1 by omega, Int.toNat_natCast]
      simp [Nat.add_assoc]
theorem splitK_go (c : UInt8) (s : List UInt8) : splitK [c] 0 (count s [c]) s = splitGo c [] s := by
  induction s with
  | nil => rw [count_one]; rfl
  | cons b l ih =>
    by_cases h : b = c
    · rw [h, count_cons_eq, Nat.add_comm, splitK]
      have hix : index (c :: l) [c] = 0 := by rw [index]; simp [List.isPrefixOf]
      rw [hix, splitGo, if_pos rfl, ← ih]
      rfl
    · rw [count_cons_ne b c l h, splitK_ne c b l _ h, ih, splitGo, if_neg h, splitGo_cur c l ([] ++ [b])]
      rfl
theorem splitB_go (c : UInt8) (s : ByteArray) : (splitB ⟨#[c]⟩ 0 (countB s ⟨#[c]⟩) s).map bl = splitGo c [] (bl s) := by
  have h := splitB_data ⟨#[c]⟩ 0 (countB s ⟨#[c]⟩) s
  exact h.trans (splitK_go c (bl s))
end Go.Proofs.YtecalodcbkljoaaDoor
