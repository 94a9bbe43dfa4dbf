/- The plain functions of the commands' texts. -/
import Derived.Test.YtfbpipknhghneaaDoorBase
namespace Go.Proofs.YtfbpipknhghneaaDoor
open Go.RowKit
/-- The pieces of a list between bytes c; cur is what stands of the first one. -/
def splitGo (c : UInt8) : List UInt8 → List UInt8 → List (List UInt8)
  | cur, [] => [cur]
  | cur, x :: xs => if x = c then cur :: splitGo c [] xs else splitGo c (cur ++ [x]) xs
/-- A line with its dot doubled. -/
def dotL (l : List UInt8) : List UInt8 := if l.head? = some 46 then 46 :: l else l
/-- The stuffed form of pieces. -/
def stuffP (ps : List (List UInt8)) : List UInt8 := (ps.map fun l => dotL l ++ [13, 10]).flatten ++ [46, 13, 10]
def stuffL (s : List UInt8) : List UInt8 := stuffP (splitGo 10 [] s)
theorem splitGo_ne (c : UInt8) (cur s : List UInt8) : splitGo c cur s ≠ [] := by
  induction s generalizing cur with
  | nil => simp [splitGo]
  | cons x xs ih =>
    simp only [splitGo]
    split
    · simp
    · exact ih _
theorem stuffP_cons (l : List UInt8) (ps : List (List UInt8)) : stuffP (l :: ps) = dotL l ++ [13, 10] ++ stuffP ps := by
  simp [stuffP, List.append_assoc]
/-- A first line: (0, where its LF stands) or the error's number. -/
def flGo : UInt8 → List UInt8 → Nat → Int × Nat
  | _, [], _ => (4, 0)
  | last, x :: xs, i =>
    if x = 13 then (if xs ≠ [] ∧ xs.head? ≠ some 10 then (6, 0) else flGo 13 xs (i + 1))
    else if x = 10 then (if last = 13 then (0, i) else (6, 0))
    else flGo x xs (i + 1)
theorem flGo_lt (last : UInt8) (s : List UInt8) (i k : Nat) (h : flGo last s i = (0, k)) : i ≤ k ∧ k < i + s.length := by
  induction s generalizing last i with
  | nil => simp [flGo] at h
  | cons x xs ih =>
    simp only [flGo] at h
    split at h
    · split at h
      · simp at h
      · have := ih _ _ h
        simp only [List.length_cons]
        omega
    · split at h
      · split at h
        · simp only [Prod.mk.injEq, true_and] at h
          simp only [List.length_cons]
          omega
        · simp at h
      · have := ih _ _ h
        simp only [List.length_cons]
        omega
/-- What Unstuff says: the text, the bytes, the error; n bytes lie behind, s ahead. -/
def unGo : Nat → Bool → List UInt8 → Nat → List UInt8 → List UInt8 × Nat × Int
  | 0, _, _, _, _ => ([], 0, 4)
  | fuel + 1, first, text, n, s =>
    match flGo 0 s 0 with
    | (0, k) =>
      let l := s.take (k - 1)
      if l = [46] then (if first then ([], 0, 3) else (text, n + (k + 1), 0))
      else if l.head? = some 46 ∧ l[1]? ≠ some 46 then ([], 0, 3)
      else
        let l' := if l.head? = some 46 then l.drop 1 else l
        let text' := (if first then text else text ++ [10]) ++ l'
        if 262144 < text'.length then ([], 0, 5) else unGo fuel false text' (n + (k + 1)) (s.drop (k + 1))
    | (e, _) => ([], 0, e)
def unL (s : List UInt8) : List UInt8 × Nat × Int := unGo (s.length + 1) true [] 0 s
end Go.Proofs.YtfbpipknhghneaaDoor
