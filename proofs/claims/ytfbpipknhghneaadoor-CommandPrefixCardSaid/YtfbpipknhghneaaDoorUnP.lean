/- Unstuff: the plain steps of its loop. -/
import Derived.Test.YtfbpipknhghneaaDoorFl
import Derived.Test.YtfbpipknhghneaaDoorStf2
import Derived.Test.YtfbpipknhghneaaDoorPlSp
namespace Go.Proofs.YtfbpipknhghneaaDoor
theorem unGo_err (f : Nat) (first : Bool) (text : List UInt8) (n : Nat) (l : List UInt8) (e : Int) (k : Nat) (h : flGo 0 l 0 = (e, k)) (he : e ≠ 0) : unGo (f + 1) first text n l = ([], 0, e) := by
  rw [unGo, h]
  split
  · next heq => exact absurd (Prod.mk.inj heq).1 he
  · next heq => rw [← (Prod.mk.inj heq).1]
def preL (first : Bool) (text : List UInt8) : List UInt8 := if first then text else text ++ [10]
theorem unGo_ok (f : Nat) (first : Bool) (text : List UInt8) (n : Nat) (l : List UInt8) (k : Nat) (h : flGo 0 l 0 = (0, k)) : unGo (f + 1) first text n l =
    if l.take (k - 1) = [46] then (if first then ([], 0, 3) else (text, n + (k + 1), 0))
    else if (l.take (k - 1)).head? = some 46 ∧ (l.take (k - 1))[1]? ≠ some 46 then ([], 0, 3)
    else if 262144 < (preL first text ++ (if (l.take (k - 1)).head? = some 46 then (l.take (k - 1)).drop 1 else l.take (k - 1))).length then ([], 0, 5)
    else unGo f false (preL first text ++ (if (l.take (k - 1)).head? = some 46 then (l.take (k - 1)).drop 1 else l.take (k - 1))) (n + (k + 1)) (l.drop (k + 1)) := by
  rw [unGo, h]
  rfl
theorem flGo_pos (last : UInt8) (s : List UInt8) (i k : Nat) (h : flGo last s i = (0, k)) (hl : last ≠ 13) : i + 1 ≤ k := by
  cases s with
  | nil => simp [flGo] at h
  | cons x xs =>
    simp only [flGo] at h
    split at h
    · split at h
      · simp at h
      · exact (flGo_lt _ _ _ _ h).1
    · split at h
      · simp at h
      · exact (flGo_lt _ _ _ _ h).1
/-- The line: bytes of it, its length. -/
theorem line_of (s : ByteArray) (n k : Nat) (hn : n ≤ s.size) (h : flGo 0 ((bl s).drop n) 0 = (0, k)) : 1 ≤ k ∧ n + k < s.size ∧ bl (s.extract n (n + k - 1)) = ((bl s).drop n).take (k - 1) := by
  have h1 := flGo_lt _ _ _ _ h
  have h2 := flGo_pos _ _ _ _ h (by decide)
  rw [List.length_drop, bl_length] at h1
  refine ⟨by omega, by omega, ?_⟩
  rw [bl_seg s n (n + k - 1) (by omega)]
  unfold seg
  rw [show n + k - 1 - n = k - 1 by omega]
/-- What stands behind a read line. -/
def addL (first : Bool) (text l : List UInt8) : List UInt8 := preL first text ++ l
section
variable {f n k : Nat} {first : Bool} {text : List UInt8} {s L : ByteArray} {X : List UInt8 × Nat × Int}
variable (hk : flGo 0 ((bl s).drop n) 0 = (0, k)) (hL : bl L = ((bl s).drop n).take (k - 1)) (hu : unGo (f + 1) first text n ((bl s).drop n) = X)
include hk hL hu
theorem un_dot (hd : bl L = [46]) : X = if first then ([], 0, 3) else (text, n + (k + 1), 0) := by
  rw [← hu, unGo_ok f first text n _ k hk, ← hL, if_pos hd]
theorem un_bad (hd : bl L ≠ [46]) (h1 : (bl L).head? = some 46) (h2 : (bl L)[1]? ≠ some 46) : X = ([], 0, 3) := by
  rw [← hu, unGo_ok f first text n _ k hk, ← hL, if_neg hd, if_pos ⟨h1, h2⟩]
theorem un_long (hd : bl L ≠ [46]) (l : List UInt8) (h : ((bl L).head? ≠ some 46 ∧ l = bl L) ∨ ((bl L).head? = some 46 ∧ (bl L)[1]? = some 46 ∧ l = (bl L).drop 1)) (h5 : 262144 < (addL first text l).length) : X = ([], 0, 5) := by
  rw [← hu, unGo_ok f first text n _ k hk, ← hL, if_neg hd]
  unfold addL at h5
  rcases h with ⟨h1, rfl⟩ | ⟨h1, h2, rfl⟩
  · rw [if_neg (fun hh => h1 hh.1), if_neg h1, if_pos h5]
  · rw [if_neg (fun hh => hh.2 h2), if_pos h1, if_pos h5]
theorem un_more (hd : bl L ≠ [46]) (l : List UInt8) (h : ((bl L).head? ≠ some 46 ∧ l = bl L) ∨ ((bl L).head? = some 46 ∧ (bl L)[1]? = some 46 ∧ l = (bl L).drop 1)) (h5 : ¬ 262144 < (addL first text l).length) : unGo f false (addL first text l) (n + (k + 1)) ((bl s).drop (n + (k + 1))) = X := by
  rw [← hu, unGo_ok f first text n _ k hk, ← hL, if_neg hd]
  unfold addL at h5 ⊢
  rcases h with ⟨h1, rfl⟩ | ⟨h1, h2, rfl⟩
  · rw [if_neg (fun hh => h1 hh.1), if_neg h1, if_neg h5, List.drop_drop]
  · rw [if_neg (fun hh => hh.2 h2), if_pos h1, if_neg h5, List.drop_drop]
end
end Go.Proofs.YtfbpipknhghneaaDoor
