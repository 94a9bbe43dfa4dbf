/- Stuffed texts: the plain laws of the reference's loop. -/
import Derived.Test.YtfbpipknhghneaaDoorHas30
import Derived.Test.YtfbpipknhghneaaDoorPl30
namespace Go.Proofs.YtfbpipknhghneaaDoor
open Go.RowKit
/-- The bytes from a to b. -/
def seg (s : ByteArray) (a b : Nat) : List UInt8 := ((bl s).drop a).take (b - a)
theorem seg_self (s : ByteArray) (a : Nat) : seg s a a = [] := by unfold seg; rw [Nat.sub_self, List.take_zero]
theorem seg_more (s : ByteArray) (j k : Nat) (h : k < s.size) (hj : j ≤ k) : seg s j (k + 1) = seg s j k ++ [s[k]] := by
  unfold seg
  rw [show k + 1 - j = (k - j) + 1 by omega, List.take_succ_eq_append_getElem (by rw [List.length_drop, bl_length]; omega), List.getElem_drop]
  congr 2
  show (bl s)[j + (k - j)]'_ = s[k]
  rw [show s[k] = (bl s)[k]'(by rw [bl_length]; exact h) from rfl]
  congr 1
  omega
theorem split_on (s : ByteArray) (c : UInt8) (j k : Nat) (h : k < s.size) (hj : j ≤ k) (hc : s[k] ≠ c) : splitGo c (seg s j k) ((bl s).drop k) = splitGo c (seg s j (k + 1)) ((bl s).drop (k + 1)) := by
  rw [bl_drop s k h, splitGo, if_neg hc, seg_more s j k h hj]
theorem split_at (s : ByteArray) (c : UInt8) (j k : Nat) (h : k < s.size) (hc : s[k] = c) : splitGo c (seg s j k) ((bl s).drop k) = seg s j k :: splitGo c (seg s (k + 1) (k + 1)) ((bl s).drop (k + 1)) := by
  rw [bl_drop s k h, splitGo, if_pos hc, seg_self]
theorem split_end (s : ByteArray) (c : UInt8) (j : Nat) : splitGo c (seg s j s.size) ((bl s).drop s.size) = [seg s j s.size] := by
  rw [List.drop_eq_nil_of_le (by rw [bl_length]; exact Nat.le_refl _), splitGo]
theorem dotL_le (l : List UInt8) : (dotL l).length ≤ l.length + 1 := by
  unfold dotL
  split
  · simp
  · omega
theorem stuffP_le (c : UInt8) (s : List UInt8) : ∀ cur, (stuffP (splitGo c cur s)).length ≤ cur.length + 4 * s.length + 6 := by
  induction s with
  | nil =>
    intro cur
    have := dotL_le cur
    rw [splitGo, stuffP_cons]
    simp only [stuffP, List.map_nil, List.flatten_nil, List.nil_append, List.length_append, List.length_cons, List.length_nil]
    omega
  | cons x xs ih =>
    intro cur
    rw [splitGo]
    split
    · have := dotL_le cur
      have := ih []
      rw [stuffP_cons]
      simp only [List.length_append, List.length_cons, List.length_nil] at this ⊢
      omega
    · have := ih (cur ++ [x])
      simp only [List.length_append, List.length_cons, List.length_nil] at this ⊢
      omega
end Go.Proofs.YtfbpipknhghneaaDoor
