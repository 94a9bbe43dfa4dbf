/- A valid command's bytes, and their beginnings, decoded: plain laws. -/
import Derived.Test.YtfbpipknhghneaaDoorPlR2
import Derived.Test.YtfbpipknhghneaaDoorLaw306
namespace Go.Proofs.YtfbpipknhghneaaDoor
open Go.RowKit
theorem index_line (L r : List UInt8) (h : 10 ∉ L) : Lib.indexByte (L ++ 13 :: 10 :: r) 10 = ((L.length + 1 : Nat) : Int) := by
  induction L with
  | nil => rfl
  | cons x xs ih =>
    have hx : (x == 10) = false := beq_eq_false_iff_ne.2 (fun e => h (by rw [e]; exact List.mem_cons_self))
    rw [List.cons_append, Lib.indexByte, hx, ih (fun hm => h (List.mem_cons_of_mem _ hm))]
    have h1 : ((((xs.length + 1 : Nat) : Int)) == -1) = false := beq_eq_false_iff_ne.2 (by omega)
    rw [h1]
    simp
theorem index_no (L : List UInt8) (h : 10 ∉ L) : Lib.indexByte L 10 = -1 := by
  induction L with
  | nil => rfl
  | cons x xs ih =>
    have hx : (x == 10) = false := beq_eq_false_iff_ne.2 (fun e => h (by rw [e]; exact List.mem_cons_self))
    rw [Lib.indexByte, hx, ih (fun hm => h (List.mem_cons_of_mem _ hm))]
    rfl
theorem line_no (c : Cm) (h : LineOk c) : 10 ∉ lineC c ∧ 13 ∉ lineC c := by
  unfold lineC
  exact ⟨join_mem _ 10 (by decide) fun w hw => (wordB_no w (h.word w hw)).2.1, join_mem _ 13 (by decide) fun w hw => (wordB_no w (h.word w hw)).2.2⟩
def tailC (c : Cm) : List UInt8 := if bits BinOp.and .i64 (formC c).2.1 64 == 0 then [] else stuffL (bl c.text)
theorem encT_eq (c : Cm) (h : chk c = 0) : encT c = lineC c ++ 13 :: 10 :: tailC c := by
  unfold encT tailC
  rw [if_neg (by rw [h]; decide)]
  simp
theorem flOf_form (c : Cm) : flOf c.verb.toNat = (formC c).2.1 := rfl
theorem text_empty (c : Cm) (h : chk c = 0) (hf : (bits BinOp.and .i64 (formC c).2.1 64 == 0) = true) : ({ c with text := ⟨#[]⟩ } : Cm) = c := by
  have h1 := (canon c h).text (by simpa using hf)
  obtain ⟨v, nm, x, sz, fr, co, cd, t⟩ := c
  simp only at h1
  rw [h1]
theorem cut_line (L r : List UInt8) : (L ++ 13 :: 10 :: r).take (L.length + 1 - 1) = L ∧ (L ++ 13 :: 10 :: r).drop (L.length + 1 + 1) = r ∧ (L ++ 13 :: 10 :: r).getD (L.length + 1 - 1) 0 = 13 := by
  refine ⟨?_, ?_, ?_⟩
  · rw [Nat.add_sub_cancel, List.take_left]
  · rw [show L ++ 13 :: 10 :: r = (L ++ [13, 10]) ++ r by simp, show L.length + 1 + 1 = (L ++ [13, 10]).length by simp, List.drop_left]
  · rw [Nat.add_sub_cancel, List.getD_eq_getElem?_getD, List.getElem?_append_right (Nat.le_refl _), Nat.sub_self]
    rfl
/-- The bytes of a command are decoded as the command, whatever follows. -/
theorem dec_round (c : Cm) (h : chk c = 0) (rest : List UInt8) : decL (encT c ++ rest) = (c, (encT c).length, 0) := by
  have hl := line_ok c h
  have hn := line_no c hl
  have hlen := hl.len
  have hp := hl.parse
  rw [encT_eq c h, List.append_assoc, List.cons_append, List.cons_append]
  have hi := index_line (lineC c) (tailC c ++ rest) hn.1
  obtain ⟨c1, c2, c3⟩ := cut_line (lineC c) (tailC c ++ rest)
  generalize hl0 : lineC c ++ 13 :: 10 :: (tailC c ++ rest) = l at hi c1 c2 c3
  by_cases hf : (bits BinOp.and .i64 (formC c).2.1 64 == 0) = true
  · have ht : tailC c = [] := by unfold tailC; rw [if_pos hf]
    rw [dec_plain hi (by omega) (by rw [c3]; simp) (c := { c with text := ⟨#[]⟩ }) (by rw [c1, hp]) hf, text_empty c h hf, ht, List.length_append]
    rfl
  · have hf2 : (bits BinOp.and .i64 (formC c).2.1 64 == 0) = false := by simpa using hf
    have ht : tailC c = stuffL (bl c.text) := by unfold tailC; rw [if_neg hf]
    have he := chk_text c h _ _ _ rfl hf2
    obtain ⟨h1, h2⟩ := stE_zero _ he
    have hu := un_stuff (bl c.text) rest h2 h1
    rw [dec_text hi (by omega) (by rw [c3]; simp) (c := { c with text := ⟨#[]⟩ }) (by rw [c1, hp]) hf2 (t := c.text) (n := (stuffL (bl c.text)).length) (by rw [c2, ht, hu]) (show chk c = 0 from h), ht, List.length_append]
    show (c, _, _) = _
    simp only [List.length_cons]
    congr 2
    omega
/-! ### beginnings -/
theorem flGo_short (l : List UInt8) (hl : plainB l) (r : List UInt8) : ∀ (last : UInt8) (i j : Nat), j ≤ l.length + 1 → flGo last ((l ++ 13 :: 10 :: r).take j) i = (4, 0) := by
  induction l with
  | nil =>
    intro last i j hj
    have : j = 0 ∨ j = 1 := by simp only [List.length_nil] at hj; omega
    rcases this with rfl | rfl <;> simp [flGo]
  | cons x xs ih =>
    intro last i j hj
    have h10 : x ≠ 10 := fun h => hl.1 (by rw [h]; exact List.mem_cons_self)
    have h13 : x ≠ 13 := fun h => hl.2 (by rw [h]; exact List.mem_cons_self)
    cases j with
    | zero => simp [flGo]
    | succ j =>
      rw [List.cons_append, List.take_succ_cons, flGo, if_neg h13, if_neg h10]
      exact ih ⟨fun h => hl.1 (List.mem_cons_of_mem _ h), fun h => hl.2 (List.mem_cons_of_mem _ h)⟩ _ _ _ (by simp only [List.length_cons] at hj; omega)
theorem unGo_short : ∀ (ps : List (List UInt8)) (fuel : Nat) (first : Bool) (text : List UInt8) (n j : Nat), (ps ≠ [] ∨ first = false) → (∀ l ∈ ps, plainB l) → j < (stuffP ps).length →
    (ps ≠ [] → ((if first then text else text ++ [10]) ++ joinP ps).length ≤ 262144) →
    unGo fuel first text n ((stuffP ps).take j) = ([], 0, 4) := by
  intro ps
  induction ps with
  | nil =>
    intro fuel first text n j _ _ hj _
    have hj3 : j < 3 := hj
    cases fuel with
    | zero => rfl
    | succ f =>
      rw [show stuffP [] = [46, 13, 10] from rfl]
      have : j = 0 ∨ j = 1 ∨ j = 2 := by omega
      rcases this with rfl | rfl | rfl <;> simp [unGo, flGo]
  | cons l ps ih =>
    intro fuel first text n j _ hp hj hb
    have hb := hb (by simp)
    have hl := hp l List.mem_cons_self
    cases fuel with
    | zero => rfl
    | succ f =>
      have e1 : stuffP (l :: ps) = dotL l ++ 13 :: 10 :: stuffP ps := by rw [stuffP_cons]; simp
      rw [e1] at hj ⊢
      by_cases hjs : j ≤ (dotL l).length + 1
      · exact unGo_err f first text n _ 4 0 (flGo_short _ (dotL_plain l hl) _ 0 0 j hjs) (by decide)
      · obtain ⟨k, rfl⟩ : ∃ k, j = (dotL l).length + (k + 2) := ⟨j - (dotL l).length - 2, by omega⟩
        rw [List.take_length_add_append, List.take_succ_cons, List.take_succ_cons]
        have hle : l.length ≤ (joinP (l :: ps)).length := by
          cases ps with
          | nil => exact Nat.le_refl _
          | cons a ps => rw [joinP_cons _ _ (by simp), List.length_append]; omega
        rw [unGo_line f first text n l hl _ (by rw [List.length_append] at hb ⊢; omega)]
        refine ih f false _ _ k (Or.inr rfl) (fun x hx => hp x (List.mem_cons_of_mem _ hx)) ?_ (fun hne => ?_)
        · simp only [List.length_append, List.length_cons] at hj
          omega
        · rw [joinP_cons _ _ hne] at hb
          simpa using hb
theorem un_short (s : List UInt8) (h13 : 13 ∉ s) (hs : s.length ≤ 262144) (j : Nat) (hj : j < (stuffL s).length) : unL ((stuffL s).take j) = ([], 0, 4) := by
  unfold unL
  unfold stuffL at hj ⊢
  refine unGo_short _ _ true [] 0 j (Or.inl (splitGo_ne 10 [] s)) (split_plain s [] ⟨by simp, by simp⟩ h13) hj (fun _ => ?_)
  rw [joinP_split]
  simpa using hs
/-- Every proper beginning of a command's bytes needs more. -/
theorem dec_short (c : Cm) (h : chk c = 0) (i : Nat) (hi : i < (encT c).length) : decL ((encT c).take i) = (zC, 0, 4) := by
  have hl := line_ok c h
  have hn := line_no c hl
  have hlen := hl.len
  have hp := hl.parse
  rw [encT_eq c h] at hi ⊢
  by_cases his : i ≤ (lineC c).length + 1
  · have hno : 10 ∉ (lineC c ++ 13 :: 10 :: tailC c).take i := by
      rw [List.take_append]
      intro hm
      rcases List.mem_append.1 hm with h1 | h1
      · exact hn.1 (List.mem_of_mem_take h1)
      · have : i - (lineC c).length = 0 ∨ i - (lineC c).length = 1 := by omega
        rcases this with e | e <;> rw [e] at h1 <;> simp at h1
    rw [dec_no _ (index_no _ hno), if_neg]
    rw [List.length_take]
    omega
  · obtain ⟨k, rfl⟩ : ∃ k, i = (lineC c).length + (k + 2) := ⟨i - (lineC c).length - 2, by omega⟩
    rw [List.take_length_add_append, List.take_succ_cons, List.take_succ_cons]
    have hx := index_line (lineC c) ((tailC c).take k) hn.1
    obtain ⟨c1, c2, c3⟩ := cut_line (lineC c) ((tailC c).take k)
    rw [List.length_append, List.length_cons, List.length_cons] at hi
    generalize hl0 : lineC c ++ 13 :: 10 :: (tailC c).take k = l at hx c1 c2 c3
    by_cases hf : (bits BinOp.and .i64 (formC c).2.1 64 == 0) = true
    · have ht : tailC c = [] := by unfold tailC; rw [if_pos hf]
      rw [ht] at hi
      simp only [List.length_nil] at hi
      omega
    · have hf2 : (bits BinOp.and .i64 (formC c).2.1 64 == 0) = false := by simpa using hf
      have ht : tailC c = stuffL (bl c.text) := by unfold tailC; rw [if_neg hf]
      obtain ⟨h1, h2⟩ := stE_zero _ (chk_text c h _ _ _ rfl hf2)
      have hu := un_short (bl c.text) h2 h1 k (by rw [← ht]; omega)
      exact dec_un hx (by omega) (by rw [c3]; simp) (c := { c with text := ⟨#[]⟩ }) (by rw [c1, hp]) hf2 (t := ⟨#[]⟩) (n := 0) (e := 4) (by rw [c2, ht, hu]) (by decide)
theorem encT_no (c : Cm) (h : chk c ≠ 0) : encT c = [] := by unfold encT; rw [if_pos h]
theorem encT_len (c : Cm) (ht : c.text.size ≤ 600) : (encT c).length ≤ 2598 := by
  by_cases h : chk c = 0
  · have hlen := (line_ok c h).len
    rw [encT_eq c h, List.length_append, List.length_cons, List.length_cons]
    have h1 : (tailC c).length ≤ 2406 := by
      unfold tailC
      split
      · exact Nat.zero_le _
      · have h2 := stuff_le c.text (mkB (stuffL (bl c.text))) ht rfl
        exact Nat.le_trans (Nat.le_of_eq (bl_length (mkB (stuffL (bl c.text))))) h2
    omega
  · rw [encT_no c h]
    exact Nat.zero_le _
end Go.Proofs.YtfbpipknhghneaaDoor
