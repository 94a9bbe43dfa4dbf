/- What Salvage finds, and what it finds where one line is damaged. -/
import Derived.Test.YtecalodcbkljoaaGreatDoorMHam
namespace Go.Proofs.YtecalodcbkljoaaGreatDoor
open Go.RowKit

theorem itemP_lt {s : List UInt8} {a : Nat} {x : It} {b : Nat} (h : itemP s a = .ok (x, b)) : a < b ∧ b ≤ s.length := by
  obtain ⟨-, h2, h3, -⟩ := itemP_back h
  unfold itN at h2
  omega
theorem nlAt_lt {s : List UInt8} {a n : Nat} (h : nlAt (s.drop a) = some n) : a + n < s.length := by
  have := (nlAt_spec h).2.2
  rw [List.length_drop] at this
  omega
/-- The items of a damaged text, from an offset on. -/
def salvP (s : List UInt8) (a : Nat) : List It :=
  match _h : itemP s a with
  | .ok (x, b) => x :: salvP s b
  | .error _ => match _h2 : nlAt (s.drop a) with
    | none => []
    | some n => salvP s (a + n + 1)
termination_by s.length - a
decreasing_by
  · have := itemP_lt _h
    omega
  · have := nlAt_lt _h2
    omega
theorem salvP_ok {s : List UInt8} {a : Nat} {x : It} {b : Nat} (h : itemP s a = .ok (x, b)) : salvP s a = x :: salvP s b := by
  rw [salvP]
  split
  · rename_i x' b' h'
    rw [h] at h'
    cases h'
    rfl
  · rename_i e h'
    rw [h] at h'
    cases h'
theorem salvP_none {s : List UInt8} {a : Nat} {e : Int × Nat} (h : itemP s a = .error e) (hn : nlAt (s.drop a) = none) : salvP s a = [] := by
  rw [salvP]
  split
  · rename_i x' b' h'
    rw [h] at h'
    cases h'
  · split
    · rfl
    · rename_i n h'
      rw [hn] at h'
      cases h'
theorem salvP_skip {s : List UInt8} {a : Nat} {e : Int × Nat} {n : Nat} (h : itemP s a = .error e) (hn : nlAt (s.drop a) = some n) : salvP s a = salvP s (a + n + 1) := by
  rw [salvP]
  split
  · rename_i x' b' h'
    rw [h] at h'
    cases h'
  · split
    · rename_i h'
      rw [hn] at h'
      cases h'
    · rename_i m h'
      rw [hn] at h'
      cases h'
      rfl

/-- The same, of what is left of the text. -/
theorem itemP_good (s : List UInt8) (a : Nat) (x : It) (r : List UInt8) (hx : x.text.size ≤ 65536) (ha : a ≤ s.length) (h : s.drop a = itL x ++ r) : itemP s a = .ok (x, a + itN x) := by
  have e : s = s.take a ++ (itL x ++ r) := by rw [← h, List.take_append_drop]
  have hl : (s.take a).length = a := by rw [List.length_take]; omega
  have := itemP_itL (s.take a) r x hx
  rwa [← e, hl] at this
theorem salvP_items (s : List UInt8) : ∀ (l : List It) (a : Nat) (r : List UInt8), (∀ x ∈ l, x.text.size ≤ 65536) → a ≤ s.length → s.drop a = l.flatMap itL ++ r → salvP s a = l ++ salvP s (a + sumN l)
  | [], a, r, _, _, _ => by simp [sumN]
  | x :: xs, a, r, hx, ha, h => by
    rw [List.flatMap_cons, List.append_assoc] at h
    have hg := itemP_good s a x _ (hx x List.mem_cons_self) ha h
    have hlt := itemP_lt hg
    rw [salvP_ok hg, salvP_items s xs (a + itN x) r (fun y hy => hx y (List.mem_cons_of_mem _ hy)) hlt.2 (by
      rw [← List.drop_drop, h, ← itL_len, List.drop_left])]
    simp only [sumN, List.map_cons, List.sum_cons, List.cons_append]
    rw [Nat.add_assoc]
/-- A text that nowhere holds the word of an item. -/
def Plain (t : List UInt8) : Prop := ∀ p r, t ≠ p ++ (artL ++ r)
theorem Plain.drop {t : List UInt8} (h : Plain t) (n : Nat) : Plain (t.drop n) := by
  intro p r e
  refine h (t.take n ++ p) r ?_
  rw [List.append_assoc, ← e, List.take_append_drop]
theorem Plain.parse {t : List UInt8} (h : Plain t) (n : Nat) : parseI (t.take n) = none := by
  cases hp : parseI (t.take n) with
  | none => rfl
  | some v =>
    obtain ⟨id, k, d⟩ := v
    exfalso
    have e := (parseI_back hp).1
    refine h [] (32 :: (Lib.itoa (k : Int) ++ 32 :: (d ++ 32 :: textL id)) ++ t.drop n) ?_
    have := List.take_append_drop n t
    rw [e] at this
    exact this.symm.trans (by simp)
/-- The lines of a text that holds no item are skipped. -/
theorem salvP_plain (s : List UInt8) : ∀ (m : Nat) (t : List UInt8) (a : Nat) (r : List UInt8), t.length ≤ m → Plain t → s.drop a = t ++ 10 :: r → salvP s a = salvP s (a + t.length + 1) := by
  intro m
  induction m with
  | zero =>
    intro t a r hm ht h
    obtain rfl : t = [] := List.eq_nil_of_length_eq_zero (by omega)
    have hn : nlAt (s.drop a) = some 0 := by rw [h]; rfl
    have hi : itemP s a = .error (3, a) := by
      unfold itemP
      rw [hn]
      rfl
    exact salvP_skip hi hn
  | succ m ih =>
    intro t a r hm ht h
    have key : ∃ n, nlAt (s.drop a) = some n ∧ n ≤ t.length := by
      cases hq : nlAt t with
      | none =>
        exact ⟨t.length, by rw [h]; exact nlAt_app _ _ (nlAt_none.1 hq), Nat.le_refl _⟩
      | some n =>
        obtain ⟨h1, h2, h3⟩ := nlAt_spec hq
        refine ⟨n, ?_, by omega⟩
        have := nlAt_app (t.take n) (t.drop (n + 1) ++ 10 :: r) h2
        rw [List.length_take, Nat.min_eq_left (by omega)] at this
        rw [h, ← this]
        congr 1
        conv => lhs; rw [h1]
        simp
    obtain ⟨n, hn, hle⟩ := key
    have hline : (s.drop a).take n = t.take n := by
      rw [h, List.take_append_of_le_length hle]
    have hi : itemP s a = .error (3, a) := by
      unfold itemP
      rw [hn]
      simp only []
      rw [hline, ht.parse n]
    rw [salvP_skip hi hn]
    by_cases hlt : n = t.length
    · rw [hlt]
    · have h2 : s.drop (a + n + 1) = t.drop (n + 1) ++ 10 :: r := by
        rw [show a + n + 1 = a + (n + 1) by omega, ← List.drop_drop, h, List.drop_append_of_le_length (by omega)]
      rw [ih (t.drop (n + 1)) (a + n + 1) r (by rw [List.length_drop]; omega) (ht.drop _) h2]
      congr 1
      rw [List.length_drop]
      omega
theorem headL_len (x : It) : (headL x).length + x.text.size + 2 = itN x := by
  rw [← itL_len]
  unfold itL
  simp only [List.length_append, List.length_cons, List.length_nil, bl_length]
  omega
theorem headL_100 (x : It) : 100 ≤ (headL x).length := by
  have := headL_len x
  unfold itN at this
  have h1 : 0 < (Lib.itoa (x.text.size : Int)).length := by
    rw [Lib.itoa_nonneg]
    exact List.length_pos_iff.2 (dec_ne _)
  omega
theorem head_form (x : It) : headL x = artL ++ 32 :: (Lib.itoa (x.text.size : Int) ++ 32 :: (digT x ++ 32 :: textL x.id)) := rfl
/-- A line that differs from an item's in one byte is no item's, or that of an item with the same digest. -/
theorem damaged (s : List UInt8) (a : Nat) (x : It) (line r : List UInt8) (hx : x.text.size ≤ 65536) (_hl : line.length = (headL x).length) (h1 : ham (headL x) line ≤ 1) (hne : line ≠ headL x) (h10 : 10 ∉ line)
    (h : s.drop a = line ++ 10 :: (bl x.text ++ 10 :: r)) (y : It) (b : Nat) (hy : itemP s a = .ok (y, b)) : x ≠ y ∧ digT x = digT y := by
  obtain ⟨e1, -, -, e4⟩ := itemP_back hy
  have hform : itL y ++ s.drop b = headL y ++ 10 :: (bl y.text ++ 10 :: s.drop b) := by
    unfold itL
    simp
  rw [h, hform] at e1
  have n1 := nlAt_app _ (bl x.text ++ 10 :: r) h10
  have n2 := nlAt_app _ (bl y.text ++ 10 :: s.drop b) (head_no y)
  rw [e1, n2] at n1
  have hlen : (headL y).length = line.length := Option.some.inj n1
  obtain ⟨e5, e6⟩ := List.append_inj e1 hlen.symm
  have e7 : bl x.text ++ 10 :: r = bl y.text ++ 10 :: s.drop b := by injection e6
  have hxy : x ≠ y := by
    rintro rfl
    exact hne e5
  refine ⟨hxy, Classical.byContradiction fun hd => ?_⟩
  rw [e5, head_form, head_form] at h1
  obtain ⟨h2, h3⟩ := head_step _ _ _ _ _ _ hx e4 (digT_len x) (digT_len y) (digT_hex x) (digT_hex y) hd h1
  rw [ham_cons, if_pos rfl, Nat.zero_add] at h3
  have i1 := textL_inj (ham_zero (textL x.id) (textL y.id) (by rw [textL_len, textL_len]) h3)
  have i2 : bl x.text = bl y.text := (List.append_inj e7 (by rw [bl_length, bl_length, h2])).1
  have i3 : x.text = y.text := by
    apply ByteArray.ext
    exact Array.toList_inj.1 i2
  exact hxy (It.ext' i1 i3)
/-- What is found where one byte of one item's line is damaged: all others, or an item that collides. -/
theorem salvP_damage (l1 l2 : List It) (x : It) (line : List UInt8) (h1 : ∀ y ∈ l1, y.text.size ≤ 65536) (h2 : ∀ y ∈ l2, y.text.size ≤ 65536) (hx : x.text.size ≤ 65536) (hp : Plain (bl x.text))
    (hl : line.length = (headL x).length) (hh : ham (headL x) line ≤ 1) (hne : line ≠ headL x) (h10 : 10 ∉ line) :
    salvP ([98, 97, 116, 99, 104, 32, 48, 10] ++ (l1.flatMap itL ++ (line ++ 10 :: (bl x.text ++ 10 :: l2.flatMap itL)))) 0 = l1 ++ l2 ∨
    ∃ y, y ∈ salvP ([98, 97, 116, 99, 104, 32, 48, 10] ++ (l1.flatMap itL ++ (line ++ 10 :: (bl x.text ++ 10 :: l2.flatMap itL)))) 0 ∧ x ≠ y ∧ digT x = digT y := by
  generalize hs : [98, 97, 116, 99, 104, 32, 48, 10] ++ (l1.flatMap itL ++ (line ++ 10 :: (bl x.text ++ 10 :: l2.flatMap itL))) = s
  have d0 : s.drop 0 = [98, 97, 116, 99, 104, 32, 48] ++ 10 :: (l1.flatMap itL ++ (line ++ 10 :: (bl x.text ++ 10 :: l2.flatMap itL))) := by rw [← hs]; rfl
  have n0 : nlAt (s.drop 0) = some 7 := by
    rw [d0]
    exact nlAt_app _ _ (by decide)
  have i0 : itemP s 0 = .error (3, 0) := by
    unfold itemP
    rw [n0]
    simp only []
    rw [d0, show List.take 7 ([98, 97, 116, 99, 104, 32, 48] ++ 10 :: (l1.flatMap itL ++ (line ++ 10 :: (bl x.text ++ 10 :: l2.flatMap itL)))) = [98, 97, 116, 99, 104, 32, 48] from rfl, show parseI [98, 97, 116, 99, 104, 32, 48] = none from rfl]
  have d1 : s.drop 8 = l1.flatMap itL ++ (line ++ 10 :: (bl x.text ++ 10 :: l2.flatMap itL)) := by rw [← hs]; rfl
  have hlen : s.length = 8 + (sumN l1 + (line.length + (1 + (x.text.size + (1 + sumN l2))))) := by
    rw [← hs]
    simp only [List.length_append, List.length_cons, List.length_nil, flat_len, bl_length]
    omega
  rw [salvP_skip i0 n0, salvP_items s l1 8 _ h1 (by omega) d1]
  have d2 : s.drop (8 + sumN l1) = line ++ 10 :: (bl x.text ++ 10 :: l2.flatMap itL) := by
    rw [← List.drop_drop, d1, ← flat_len, List.drop_left]
  rcases hq : itemP s (8 + sumN l1) with e | ⟨y, b⟩
  · left
    have n2 : nlAt (s.drop (8 + sumN l1)) = some line.length := by
      rw [d2]
      exact nlAt_app _ _ h10
    have d3 : s.drop (8 + sumN l1 + line.length + 1) = bl x.text ++ 10 :: l2.flatMap itL := by
      rw [show 8 + sumN l1 + line.length + 1 = (8 + sumN l1) + (line.length + 1) by omega, ← List.drop_drop, d2, ← List.drop_drop, List.drop_left]
      rfl
    have d4 : s.drop (8 + sumN l1 + line.length + 1 + (bl x.text).length + 1) = l2.flatMap itL ++ [] := by
      rw [show 8 + sumN l1 + line.length + 1 + (bl x.text).length + 1 = (8 + sumN l1 + line.length + 1) + ((bl x.text).length + 1) by omega, ← List.drop_drop, d3, ← List.drop_drop, List.drop_left, List.append_nil]
      rfl
    rw [salvP_skip hq n2, salvP_plain s _ (bl x.text) _ _ (Nat.le_refl _) hp d3, salvP_items s l2 _ [] h2 (by rw [bl_length]; omega) d4]
    have d5 : s.drop (8 + sumN l1 + line.length + 1 + (bl x.text).length + 1 + sumN l2) = [] := List.drop_eq_nil_of_le (by rw [bl_length]; omega)
    have i5 : itemP s (8 + sumN l1 + line.length + 1 + (bl x.text).length + 1 + sumN l2) = .error (23, s.length) := by
      unfold itemP
      rw [d5]
      rfl
    rw [salvP_none i5 (by rw [d5]; rfl), List.append_nil]
  · right
    refine ⟨y, ?_, damaged s _ x line _ hx hl hh hne h10 d2 y b hq⟩
    rw [salvP_ok hq]
    exact List.mem_append_right _ List.mem_cons_self
end Go.Proofs.YtecalodcbkljoaaGreatDoor
