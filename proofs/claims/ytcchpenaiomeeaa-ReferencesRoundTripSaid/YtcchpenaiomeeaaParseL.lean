/- What Parse gives, in plain words; what lies apart is kept. -/
import Derived.Test.YtcchpenaiomeeaaRid
namespace Go.Proofs.Ytcchpenaiomeeaa
open Go.RowKit
def nbl (c : UInt8) : Bool := !blkB c
/-- The length of the token at the head. -/
def tokL (l : List UInt8) : Nat := runL nbl l
def parseF : Nat → List UInt8 → Nat → List Id → List Id × Int × Int
  | 0, _, _, out => (out, 0, 0)
  | _ + 1, [], _, out => (out, 0, 0)
  | n + 1, c :: r, i, out =>
    if blkB c = true then parseF n r (i + 1) out
    else if out.length = 20 then ([], (i : Int), 9)
    else if identB ((c :: r).take (tokL (c :: r))) = false then ([], (i : Int), 3)
    else if nextE out (midL ((c :: r).take (tokL (c :: r)))) ≠ 0 then ([], (i : Int), nextE out (midL ((c :: r).take (tokL (c :: r)))))
    else parseF n ((c :: r).drop (tokL (c :: r))) (i + tokL (c :: r)) (out ++ [midL ((c :: r).take (tokL (c :: r)))])
theorem parseF_cons (n : Nat) (c : UInt8) (r : List UInt8) (i : Nat) (out : List Id) : parseF (n + 1) (c :: r) i out =
    (if blkB c = true then parseF n r (i + 1) out
    else if out.length = 20 then ([], (i : Int), 9)
    else if identB ((c :: r).take (tokL (c :: r))) = false then ([], (i : Int), 3)
    else if nextE out (midL ((c :: r).take (tokL (c :: r)))) ≠ 0 then ([], (i : Int), nextE out (midL ((c :: r).take (tokL (c :: r)))))
    else parseF n ((c :: r).drop (tokL (c :: r))) (i + tokL (c :: r)) (out ++ [midL ((c :: r).take (tokL (c :: r)))])) := rfl
def parseL (l : List UInt8) : List Id × Int × Int := parseF (l.length + 1) l 0 []
/-- The text of the token from k on. -/
theorem parseF_end (n : Nat) (s : ByteArray) (k i : Nat) (out : List Id) (h : s.size ≤ k) : parseF n ((bl s).drop k) i out = (out, 0, 0) := by
  rw [List.drop_eq_nil_of_le (by rw [bl_length]; exact h)]
  cases n <;> rfl
section
variable {s : ByteArray} {n k : Nat} {out : List Id} (hk : k < s.size)
theorem parseF_blank (hb : blkB s[k] = true) : parseF (n + 1) ((bl s).drop k) k out = parseF n ((bl s).drop (k + 1)) (k + 1) out := by
  rw [bl_drop s k hk, parseF_cons, if_pos hb]
theorem parseF_nine (hb : blkB s[k] = false) (h : out.length = 20) : parseF (n + 1) ((bl s).drop k) k out = ([], (k : Int), 9) := by
  rw [bl_drop s k hk, parseF_cons, if_neg (by simp [hb]), if_pos h]
theorem tok_extract {m : Nat} (hm : m = k + tokL ((bl s).drop k)) : bl (s.extract k m) = ((bl s).drop k).take (tokL ((bl s).drop k)) := by
  subst hm
  unfold bl
  rw [Lib.extract_data, Nat.add_sub_cancel_left]
theorem parseF_three (hb : blkB s[k] = false) (h : ¬ out.length = 20) {m : Nat} (hm : m = k + tokL ((bl s).drop k)) (hi : identB (bl (s.extract k m)) = false) : parseF (n + 1) ((bl s).drop k) k out = ([], (k : Int), 3) := by
  rw [tok_extract hm] at hi
  rw [bl_drop s k hk] at hi ⊢
  rw [parseF_cons, if_neg (by simp [hb]), if_neg h, if_pos hi]
theorem parseF_next (hb : blkB s[k] = false) (h : ¬ out.length = 20) {m : Nat} (hm : m = k + tokL ((bl s).drop k)) (hi : identB (bl (s.extract k m)) = true) (hn : ¬ nextE out (midL (bl (s.extract k m))) = 0) :
    parseF (n + 1) ((bl s).drop k) k out = ([], (k : Int), nextE out (midL (bl (s.extract k m)))) := by
  rw [tok_extract hm] at hi hn ⊢
  rw [bl_drop s k hk] at hi hn ⊢
  rw [parseF_cons, if_neg (by simp [hb]), if_neg h, if_neg (by simp [hi]), if_pos hn]
theorem parseF_go (hb : blkB s[k] = false) (h : ¬ out.length = 20) {m : Nat} (hm : m = k + tokL ((bl s).drop k)) (hi : identB (bl (s.extract k m)) = true) (hn : nextE out (midL (bl (s.extract k m))) = 0) :
    parseF (n + 1) ((bl s).drop k) k out = parseF n ((bl s).drop m) m (out ++ [midL (bl (s.extract k m))]) := by
  rw [tok_extract hm] at hi hn ⊢
  have e : (bl s).drop m = ((bl s).drop k).drop (tokL ((bl s).drop k)) := by rw [List.drop_drop, hm]
  rw [e, hm]
  rw [bl_drop s k hk] at hi hn ⊢
  rw [parseF_cons, if_neg (by simp [hb]), if_neg h, if_neg (by simp [hi]), if_neg (by simp [hn])]
theorem tokL_pos (hb : blkB s[k] = false) : 1 ≤ tokL ((bl s).drop k) := by
  unfold tokL
  rw [runL_yes nbl s k hk (by simp [nbl, hb])]
  omega
end
theorem tokL_le (s : ByteArray) (k : Nat) : tokL ((bl s).drop k) ≤ s.size - k := by
  have := runL_le nbl ((bl s).drop k)
  rw [List.length_drop, bl_length] at this
  exact this
theorem Own.keptG {α : Type} {w w' : World} {base : Nat} {e : TypeId} {s : Nat} {enc : α → List Value} {v : Value} {xs : List α} {row : Option Nat} (h : Own w base e s enc v xs) (hg : w.grownBy w' row) (hne : ∀ k, row = some k → k < base) : Own w' base e s enc v xs := by
  refine ⟨h.1, h.2.imp id fun ⟨g, cap, cur, a1, a2, a3, r⟩ => ⟨g, cap, cur, a1, a2, ?_, r⟩⟩
  rw [hg.block g (Array.getElem?_eq_some_iff.1 a3).1 (fun e => by have := hne g e.symm; omega)]
  exact a3
theorem At.keptG {w w' : World} {ad : Addr} {cs : List Value} {row : Option Nat} (h : At w ad cs) (hg : w.grownBy w' row) (hne : some ad.block ≠ row) : At w' ad cs := by
  refine ⟨Nat.lt_of_lt_of_le h.1 hg.size, fun j u hu => ?_⟩
  have h1 := h.2 j u hu
  rw [← h1]
  exact World.cell?_of_block (hg.block _ (by rw [block_of_add]; exact h.1) (by rw [block_of_add]; exact hne))
theorem Mp.keptG {w w' : World} {b : Nat} {seen : List Id} {row : Option Nat} (h : Mp w b seen) (hg : w.grownBy w' row) (hne : some b ≠ row) : Mp w' b seen := by
  obtain ⟨D, h1, h2⟩ := h
  exact ⟨D, h1.kept hg hne, h2⟩
/-- A list, an offset and a code. -/
def OutP (w : World) (r : List Id × Int × Int) (e : Ending) (w' : World) : Prop := ∃ A n c, e = .returned (.tuple #[.slice A n c, .int .i64 r.2.1, .int .i64 r.2.2]) ∧ r.1.length = n ∧ n ≤ c ∧ Below w.heap.size w w' ∧ Sl w' cI A r.1
theorem OutP.none {w w' : World} {a n : Int} (hb : Below w.heap.size w w') : OutP w ([], a, n) (.returned (.tuple #[.slice none 0 0, .int .i64 a, .int .i64 n])) w' := ⟨Option.none, 0, 0, rfl, rfl, Nat.le_refl _, hb, Sl.nil _ _ _⟩
end Go.Proofs.Ytcchpenaiomeeaa
