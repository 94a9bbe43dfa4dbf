/- Stuffed texts: plain laws. -/
import Derived.Test.YtfbpipknhghneaaDoorPl30
namespace Go.Proofs.YtfbpipknhghneaaDoor
/-- Pieces joined by 10. -/
def joinP : List (List UInt8) → List UInt8
  | [] => []
  | [l] => l
  | l :: l2 :: ps => l ++ 10 :: joinP (l2 :: ps)
theorem joinP_cons (l : List UInt8) (ps : List (List UInt8)) (h : ps ≠ []) : joinP (l :: ps) = l ++ 10 :: joinP ps := by
  cases ps with
  | nil => exact absurd rfl h
  | cons a ps => rfl
theorem joinP_split (s : List UInt8) : ∀ cur, joinP (splitGo 10 cur s) = cur ++ s := by
  induction s with
  | nil => intro cur; simp [splitGo, joinP]
  | cons x xs ih =>
    intro cur
    rw [splitGo]
    split
    · next h => rw [joinP_cons _ _ (splitGo_ne _ _ _), ih, h]; rfl
    · rw [ih]; simp
def plainB (l : List UInt8) : Prop := 10 ∉ l ∧ 13 ∉ l
theorem split_plain (s : List UInt8) : ∀ cur, plainB cur → 13 ∉ s → ∀ l ∈ splitGo 10 cur s, plainB l := by
  induction s with
  | nil => intro cur hc _ l hl; simp only [splitGo, List.mem_singleton] at hl; rw [hl]; exact hc
  | cons x xs ih =>
    intro cur hc h13 l hl
    rw [splitGo] at hl
    have h13' : 13 ∉ xs := fun h => h13 (List.mem_cons_of_mem _ h)
    have hx : x ≠ 13 := fun h => h13 (by rw [h]; exact List.mem_cons_self)
    split at hl
    · rcases List.mem_cons.1 hl with h | h
      · rw [h]; exact hc
      · exact ih [] ⟨by simp, by simp⟩ h13' l h
    · next hn =>
      refine ih (cur ++ [x]) ⟨?_, ?_⟩ h13' l hl
      · intro h
        rcases List.mem_append.1 h with h | h
        · exact hc.1 h
        · exact hn (List.mem_singleton.1 h).symm
      · intro h
        rcases List.mem_append.1 h with h | h
        · exact hc.2 h
        · exact hx (List.mem_singleton.1 h).symm
theorem dotL_plain (l : List UInt8) (h : plainB l) : plainB (dotL l) := by
  unfold dotL
  split
  · refine ⟨?_, ?_⟩
    · intro hm
      rcases List.mem_cons.1 hm with h2 | h2
      · exact absurd h2 (by decide)
      · exact h.1 h2
    · intro hm
      rcases List.mem_cons.1 hm with h2 | h2
      · exact absurd h2 (by decide)
      · exact h.2 h2
  · exact h
theorem dotL_ne (l : List UInt8) : dotL l ≠ [46] := by
  unfold dotL
  split
  · next h =>
    intro e
    have : l = [] := (List.cons.inj e).2
    rw [this] at h
    simp at h
  · next h =>
    intro e
    rw [e] at h
    simp at h
theorem dotL_two (l : List UInt8) (h : (dotL l).head? = some 46) : dotL l = 46 :: l ∧ l.head? = some 46 := by
  unfold dotL at h ⊢
  split at h
  · next h2 => rw [if_pos h2]; exact ⟨rfl, h2⟩
  · next h2 => exact absurd h h2
theorem dotL_back (l : List UInt8) : (if (dotL l).head? = some 46 then (dotL l).drop 1 else dotL l) = l := by
  split
  · next h => rw [(dotL_two l h).1]; rfl
  · next h =>
    unfold dotL at h ⊢
    split
    · next h2 => rw [if_pos h2] at h; simp at h
    · rfl
theorem flGo_line (l : List UInt8) (hl : plainB l) (r : List UInt8) : ∀ (last : UInt8) (i : Nat), flGo last (l ++ 13 :: 10 :: r) i = (0, i + l.length + 1) := by
  induction l with
  | nil => intro last i; simp [flGo]
  | cons x xs ih =>
    intro last i
    have h10 : x ≠ 10 := fun h => hl.1 (by rw [h]; exact List.mem_cons_self)
    have h13 : x ≠ 13 := fun h => hl.2 (by rw [h]; exact List.mem_cons_self)
    rw [List.cons_append, flGo, if_neg h13, if_neg h10, ih ⟨fun h => hl.1 (List.mem_cons_of_mem _ h), fun h => hl.2 (List.mem_cons_of_mem _ h)⟩]
    simp only [List.length_cons]
    congr 1
    omega
theorem unGo_last (f : Nat) (text : List UInt8) (n : Nat) (rest : List UInt8) : unGo (f + 1) false text n ([46, 13, 10] ++ rest) = (text, n + 3, 0) := by
  simp [unGo, flGo]
/-- A line read. -/
theorem unGo_line (f : Nat) (first : Bool) (text : List UInt8) (n : Nat) (l : List UInt8) (hl : plainB l) (r : List UInt8)
    (hb : ((if first then text else text ++ [10]) ++ l).length ≤ 262144) :
    unGo (f + 1) first text n (dotL l ++ 13 :: 10 :: r) = unGo f false ((if first then text else text ++ [10]) ++ l) (n + ((dotL l).length + 2)) r := by
  rw [unGo, flGo_line _ (dotL_plain l hl) r]
  simp only [Nat.zero_add, Nat.add_sub_cancel]
  rw [List.take_left, if_neg (dotL_ne l), if_neg (by
    rintro ⟨h1, h2⟩
    obtain ⟨h3, h4⟩ := dotL_two l h1
    rw [h3] at h2
    apply h2
    rw [List.getElem?_cons_succ, ← List.head?_eq_getElem?]
    exact h4), dotL_back, if_neg (by omega)]
  congr 1
  rw [show (dotL l).length + 1 + 1 = (dotL l ++ [13, 10]).length by simp, show dotL l ++ 13 :: 10 :: r = (dotL l ++ [13, 10]) ++ r by simp, List.drop_left]
theorem unGo_all (rest : List UInt8) : ∀ (ps : List (List UInt8)) (fuel : Nat) (first : Bool) (text : List UInt8) (n : Nat), ps ≠ [] → (∀ l ∈ ps, plainB l) → ps.length < fuel →
    ((if first then text else text ++ [10]) ++ joinP ps).length ≤ 262144 →
    unGo fuel first text n (stuffP ps ++ rest) = ((if first then text else text ++ [10]) ++ joinP ps, n + (stuffP ps).length, 0) := by
  intro ps
  induction ps with
  | nil => intro _ _ _ _ h; exact absurd rfl h
  | cons l ps ih =>
    intro fuel first text n _ hp hf hb
    obtain ⟨f, rfl⟩ : ∃ f, fuel = f + 1 := ⟨fuel - 1, by simp only [List.length_cons] at hf; omega⟩
    have hl := hp l List.mem_cons_self
    have e1 : stuffP (l :: ps) ++ rest = dotL l ++ 13 :: 10 :: (stuffP ps ++ rest) := by rw [stuffP_cons]; simp
    have hle : l.length ≤ (joinP (l :: ps)).length := by
      cases ps with
      | nil => exact Nat.le_refl _
      | cons a ps => rw [joinP_cons _ _ (by simp), List.length_append]; omega
    rw [e1, unGo_line f first text n l hl _ (by rw [List.length_append] at hb ⊢; omega)]
    cases ps with
    | nil =>
      obtain ⟨g, rfl⟩ : ∃ g, f = g + 1 := ⟨f - 1, by simp only [List.length_cons, List.length_nil] at hf; omega⟩
      rw [show stuffP [] = [46, 13, 10] from rfl, unGo_last, stuffP_cons, show joinP [l] = l from rfl]
      rw [show stuffP [] = [46, 13, 10] from rfl]
      simp only [List.length_append, List.length_cons, List.length_nil]
      congr 2
    | cons a ps =>
      rw [joinP_cons _ _ (by simp)] at hb ⊢
      rw [ih f false _ _ (by simp) (fun x hx => hp x (List.mem_cons_of_mem _ hx)) (by simp only [List.length_cons] at hf ⊢; omega) (by simpa using hb)]
      rw [stuffP_cons l (a :: ps)]
      simp only [List.length_append, List.length_cons, Bool.false_eq_true, if_false, List.append_assoc, List.cons_append, List.nil_append]
      congr 2
      omega
theorem splitGo_len (s : List UInt8) : ∀ cur, (splitGo 10 cur s).length ≤ s.length + 1 := by
  induction s with
  | nil => intro cur; simp [splitGo]
  | cons x xs ih =>
    intro cur
    rw [splitGo]
    split
    · have := ih []; simp only [List.length_cons]; omega
    · have := ih (cur ++ [x]); simp only [List.length_cons]; omega
theorem stuffP_len (ps : List (List UInt8)) : 2 * ps.length + 3 ≤ (stuffP ps).length := by
  induction ps with
  | nil => simp [stuffP]
  | cons l ps ih => rw [stuffP_cons]; simp only [List.length_append, List.length_cons, List.length_nil]; omega
/-- Unstuff undoes Stuff. -/
theorem un_stuff (s rest : List UInt8) (h13 : 13 ∉ s) (hs : s.length ≤ 262144) : unL (stuffL s ++ rest) = (s, (stuffL s).length, 0) := by
  unfold unL stuffL
  have hj := joinP_split s []
  rw [unGo_all rest _ _ true [] 0 (splitGo_ne _ _ _) (split_plain s [] ⟨by simp, by simp⟩ h13) (by
    have := stuffP_len (splitGo 10 [] s)
    rw [List.length_append]
    omega) (by simp only [if_true, List.nil_append]; rw [hj]; exact hs)]
  simp only [if_true, List.nil_append, Nat.zero_add]
  rw [hj]
  rfl
def bodyP (ps : List (List UInt8)) : List UInt8 := (ps.map fun l => dotL l ++ [13, 10]).flatten
theorem bodyP_cons (l : List UInt8) (ps : List (List UInt8)) : bodyP (l :: ps) = dotL l ++ 13 :: 10 :: bodyP ps := by simp [bodyP]
theorem stuffP_body (ps : List (List UInt8)) : stuffP ps = bodyP ps ++ [46, 13, 10] := rfl
theorem body_dot (ps : List (List UInt8)) (hp : ∀ l ∈ ps, plainB l) : (bodyP ps).take 3 ≠ [46, 13, 10] := by
  cases ps with
  | nil => simp [bodyP]
  | cons l ps =>
    rw [bodyP_cons]
    have hne := dotL_ne l
    have hl := dotL_plain l (hp l List.mem_cons_self)
    cases hd : dotL l with
    | nil => simp
    | cons a t =>
      rw [hd] at hne hl
      cases t with
      | nil =>
        simp only [List.cons_append, List.nil_append, List.take_succ_cons]
        intro e
        exact hne (by rw [(List.cons.inj e).1])
      | cons b t =>
        simp only [List.cons_append, List.take_succ_cons]
        intro e
        exact hl.2 (by rw [(List.cons.inj (List.cons.inj e).2).1]; simp)
theorem body_no (ps : List (List UInt8)) (hp : ∀ l ∈ ps, plainB l) : ∀ i, ((bodyP ps).drop i).take 5 ≠ [13, 10, 46, 13, 10] := by
  induction ps with
  | nil => intro i; simp [bodyP]
  | cons l ps ih =>
    intro i
    rw [bodyP_cons]
    have hl := dotL_plain l (hp l List.mem_cons_self)
    have hps := fun x hx => hp x (List.mem_cons_of_mem l hx)
    rcases Nat.lt_trichotomy i (dotL l).length with h | h | h
    · intro e
      have h0 := congrArg List.head? e
      rw [List.head?_take, List.head?_drop, List.getElem?_append_left h, List.getElem?_eq_getElem h] at h0
      simp at h0
      exact hl.2 (by rw [← h0]; exact List.getElem_mem _)
    · rw [h, List.drop_left]
      intro e
      simp only [List.take_succ_cons, List.cons.injEq, true_and] at e
      exact body_dot ps hps e
    · rcases Nat.eq_or_lt_of_le h with h2 | h2
      · rw [← h2, show dotL l ++ 13 :: 10 :: bodyP ps = (dotL l ++ [13]) ++ 10 :: bodyP ps by simp, show (dotL l).length.succ = (dotL l ++ [13]).length by simp, List.drop_left]
        intro e
        simp only [List.take_succ_cons, List.cons.injEq] at e
        exact absurd e.1 (by decide)
      · have e2 : i = (dotL l ++ [13, 10]).length + (i - (dotL l).length - 2) := by simp; omega
        rw [show dotL l ++ 13 :: 10 :: bodyP ps = (dotL l ++ [13, 10]) ++ bodyP ps by simp, e2, List.drop_append, List.drop_eq_nil_of_le (Nat.le_add_right _ _), List.nil_append]
        exact ih hps _
/-- Only the last line of a stuffed text is a single dot. -/
theorem stuff_no (s : List UInt8) (h13 : 13 ∉ s) (i : Nat) (hi : i + 5 + 3 ≤ (stuffL s).length) : ((stuffL s).drop i).take 5 ≠ [13, 10, 46, 13, 10] := by
  unfold stuffL at hi ⊢
  rw [stuffP_body] at hi ⊢
  rw [List.length_append] at hi
  simp only [List.length_cons, List.length_nil] at hi
  rw [List.drop_append_of_le_length (by omega), List.take_append_of_le_length (by rw [List.length_drop]; omega)]
  exact body_no _ (split_plain s [] ⟨by simp, by simp⟩ h13) i
theorem body_end (ps : List (List UInt8)) (h : ps ≠ []) : ∃ u, bodyP ps = u ++ [13, 10] := by
  induction ps with
  | nil => exact absurd rfl h
  | cons l ps ih =>
    cases ps with
    | nil => exact ⟨dotL l, by simp [bodyP]⟩
    | cons a ps =>
      obtain ⟨u, hu⟩ := ih (by simp)
      exact ⟨dotL l ++ 13 :: 10 :: u, by rw [bodyP_cons, hu]; simp⟩
theorem stuff_end (s : List UInt8) : ∃ u, stuffL s = u ++ [13, 10, 46, 13, 10] := by
  obtain ⟨u, hu⟩ := body_end (splitGo 10 [] s) (splitGo_ne _ _ _)
  exact ⟨u, by unfold stuffL; rw [stuffP_body, hu]; simp⟩
theorem stuff_len5 (s : List UInt8) : 5 ≤ (stuffL s).length := by
  obtain ⟨u, hu⟩ := stuff_end s
  rw [hu]; simp
end Go.Proofs.YtfbpipknhghneaaDoor
