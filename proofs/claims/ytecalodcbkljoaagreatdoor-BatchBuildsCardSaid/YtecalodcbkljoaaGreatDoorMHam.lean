/- Texts of batches that differ in one byte: two different items with one digest. -/
import Derived.Test.YtecalodcbkljoaaGreatDoorMCan
namespace Go.Proofs.YtecalodcbkljoaaGreatDoor
open Go.RowKit

/-- At how many places two lists differ. -/
def ham : List UInt8 → List UInt8 → Nat
  | x :: xs, y :: ys => (if x = y then 0 else 1) + ham xs ys
  | _, _ => 0
theorem ham_self : ∀ l, ham l l = 0
  | [] => rfl
  | x :: xs => by
    unfold ham
    rw [if_pos rfl, ham_self xs]
theorem ham_comm : ∀ a b, ham a b = ham b a
  | [], [] => rfl
  | [], _ :: _ => rfl
  | _ :: _, [] => rfl
  | x :: xs, y :: ys => by
    unfold ham
    rw [ham_comm xs ys]
    by_cases h : x = y
    · rw [if_pos h, if_pos h.symm]
    · rw [if_neg h, if_neg (fun e => h e.symm)]
theorem ham_app : ∀ (a b c d : List UInt8), a.length = b.length → ham (a ++ c) (b ++ d) = ham a b + ham c d
  | [], [], c, d, _ => by simp [ham]
  | x :: xs, y :: ys, c, d, h => by
    rw [List.cons_append, List.cons_append, ham, ham, ham_app xs ys c d (by simpa using h), Nat.add_assoc]
  | [], _ :: _, _, _, h => by simp at h
  | _ :: _, [], _, _, h => by simp at h
theorem ham_zero : ∀ (a b : List UInt8), a.length = b.length → ham a b = 0 → a = b
  | [], [], _, _ => rfl
  | x :: xs, y :: ys, h, h0 => by
    unfold ham at h0
    by_cases e : x = y
    · rw [if_pos e] at h0
      rw [e, ham_zero xs ys (by simpa using h) (by omega)]
    · rw [if_neg e] at h0
      omega
  | [], _ :: _, h, _ => by simp at h
  | _ :: _, [], h, _ => by simp at h
theorem ham_one : ∀ (a b : List UInt8) (k : Nat), k < a.length → k < b.length → a[k]? ≠ b[k]? → 1 ≤ ham a b
  | x :: xs, y :: ys, 0, _, _, h => by
    unfold ham
    rw [if_neg (fun e => h (by simp [e]))]
    omega
  | x :: xs, y :: ys, k + 1, h1, h2, h => by
    unfold ham
    have := ham_one xs ys k (by simpa using h1) (by simpa using h2) (by simpa using h)
    omega
  | [], _, _, h, _, _ => by simp at h
  | _ :: _, [], _, _, h, _ => by simp at h
theorem ham_two : ∀ (a b : List UInt8) (j k : Nat), j < k → k < a.length → k < b.length → a[j]? ≠ b[j]? → a[k]? ≠ b[k]? → 2 ≤ ham a b
  | x :: xs, y :: ys, 0, k + 1, _, h1, h2, hj, hk => by
    unfold ham
    have := ham_one xs ys k (by simpa using h1) (by simpa using h2) (by simpa using hk)
    rw [if_neg (fun e => hj (by simp [e]))]
    omega
  | x :: xs, y :: ys, j + 1, k + 1, h0, h1, h2, hj, hk => by
    unfold ham
    have := ham_two xs ys j k (by omega) (by simpa using h1) (by simpa using h2) (by simpa using hj) (by simpa using hk)
    omega
  | [], _, _, _, _, h, _, _, _ => by simp at h
  | _ :: _, [], _, _, _, _, h, _, _ => by simp at h
  | _ :: _, _ :: _, _, 0, h, _, _, _, _ => by simp at h

theorem itoa_inj {a b : Nat} (h : Lib.itoa (a : Int) = Lib.itoa (b : Int)) : a = b := by
  rw [Lib.itoa_nonneg, Lib.itoa_nonneg] at h
  have h1 := dec_val a
  rw [h, dec_val b] at h1
  omega
theorem itoa_dig (a : Nat) : (Lib.itoa (a : Int)).all digB = true := by
  rw [Lib.itoa_nonneg]
  exact dec_all a
theorem dec_len : ∀ (k u : Nat), 0 < k → u < 10 ^ k → (Lib.decDigits u).length ≤ k
  | 0, _, h, _ => by omega
  | k + 1, u, _, hu => by
    rw [Lib.decDigits]
    split
    · simp
    · rename_i h
      have h1 : u / 10 < 10 ^ k := by
        rw [Nat.pow_succ] at hu
        omega
      have hk : 0 < k := by
        rcases Nat.eq_zero_or_pos k with rfl | h
        · simp at h1
          omega
        · exact h
      have := dec_len k (u / 10) hk h1
      rw [List.length_append]
      simp
      omega
theorem itoa_len (k u : Nat) (h0 : 0 < k) (h : u < 10 ^ k) : (Lib.itoa (u : Int)).length ≤ k := by
  rw [Lib.itoa_nonneg]
  exact dec_len k u h0 h
theorem textL_inj {x y : Id} (h : textL x = textL y) : x = y := by rw [← midL_text x, h, midL_text]
theorem digB_of {l : List UInt8} (h : l.all digB = true) {k : Nat} {c : UInt8} (hc : l[k]? = some c) : digB c = true :=
  List.all_eq_true.1 h c (List.mem_of_getElem? hc)

/-- A number before a space and a digest, against a longer number. -/
theorem far (ia ib ra rb : List UInt8) (e : UInt8) (he : digB e = false) (hb : ib.all digB = true) (hlt : ia.length < ib.length)
    (hra : ∃ c, ra[ib.length - ia.length - 1]? = some c ∧ c ≠ e) (hlen : ib.length < (ia ++ e :: ra).length) : 2 ≤ ham (ia ++ e :: ra) (ib ++ e :: rb) := by
  obtain ⟨c, hc, hce⟩ := hra
  refine ham_two _ _ ia.length ib.length hlt hlen (by simp) ?_ ?_
  · rw [List.getElem?_append_right (Nat.le_refl _), Nat.sub_self, List.getElem?_append_left hlt]
    intro h
    have := digB_of hb h.symm
    rw [he] at this
    cases this
  · rw [List.getElem?_append_right (by omega), List.getElem?_append_right (Nat.le_refl _), Nat.sub_self]
    obtain ⟨m, hm⟩ : ∃ m, ib.length - ia.length = m + 1 := ⟨ib.length - ia.length - 1, by omega⟩
    rw [hm, List.getElem?_cons_succ, List.getElem?_cons_zero]
    rw [hm, Nat.add_sub_cancel] at hc
    rw [hc]
    intro h
    exact hce (Option.some.inj h)
theorem hexB_of {l : List UInt8} (h : l.all hexB = true) {k : Nat} {c : UInt8} (hc : l[k]? = some c) : hexB c = true :=
  List.all_eq_true.1 h c (List.mem_of_getElem? hc)
/-- Two lines of items that differ in one byte, and not in their digests' lengths: the digests are the same, or the rest is. -/
theorem head_step (ka kb : Nat) (da db ra rb : List UInt8) (ha : ka ≤ 65536) (hb : kb ≤ 65536) (la : da.length = 32) (lb : db.length = 32) (xa : da.all hexB = true) (xb : db.all hexB = true) (hne : da ≠ db)
    (h : ham (artL ++ 32 :: (Lib.itoa (ka : Int) ++ 32 :: (da ++ ra))) (artL ++ 32 :: (Lib.itoa (kb : Int) ++ 32 :: (db ++ rb))) ≤ 1) : ka = kb ∧ ham ra rb = 0 := by
  have e1 : ham (artL ++ 32 :: (Lib.itoa (ka : Int) ++ 32 :: (da ++ ra))) (artL ++ 32 :: (Lib.itoa (kb : Int) ++ 32 :: (db ++ rb))) = ham (Lib.itoa (ka : Int) ++ 32 :: (da ++ ra)) (Lib.itoa (kb : Int) ++ 32 :: (db ++ rb)) := by
    rw [ham_app _ _ _ _ rfl, ham_self, ham, if_pos rfl]
    omega
  rw [e1] at h
  have l5 := itoa_len 5 ka (by omega) (by omega)
  have m5 := itoa_len 5 kb (by omega) (by omega)
  have hdd : 1 ≤ ham da db := by
    rcases Nat.eq_zero_or_pos (ham da db) with h0 | h0
    · exact absurd (ham_zero da db (by omega) h0) hne
    · exact h0
  rcases Nat.lt_trichotomy (Lib.itoa (ka : Int)).length (Lib.itoa (kb : Int)).length with hl | hl | hl
  · exfalso
    have := far (Lib.itoa (ka : Int)) (Lib.itoa (kb : Int)) (da ++ ra) (db ++ rb) 32 (by decide) (itoa_dig kb) hl (by
      refine ⟨da[(Lib.itoa (kb : Int)).length - (Lib.itoa (ka : Int)).length - 1]'(by omega), ?_, ?_⟩
      · rw [List.getElem?_append_left (by omega), List.getElem?_eq_getElem]
      · intro e
        have := hexB_of xa (List.getElem?_eq_getElem (show (Lib.itoa (kb : Int)).length - (Lib.itoa (ka : Int)).length - 1 < da.length by omega))
        rw [e] at this
        exact absurd this (by decide)) (by simp; omega)
    omega
  · rw [ham_app _ _ _ _ hl, ham, if_pos rfl, ham_app _ _ _ _ (by omega)] at h
    have h0 : ham (Lib.itoa (ka : Int)) (Lib.itoa (kb : Int)) = 0 := by omega
    exact ⟨itoa_inj (ham_zero _ _ hl h0), by omega⟩
  · exfalso
    have := far (Lib.itoa (kb : Int)) (Lib.itoa (ka : Int)) (db ++ rb) (da ++ ra) 32 (by decide) (itoa_dig ka) hl (by
      refine ⟨db[(Lib.itoa (ka : Int)).length - (Lib.itoa (kb : Int)).length - 1]'(by omega), ?_, ?_⟩
      · rw [List.getElem?_append_left (by omega), List.getElem?_eq_getElem]
      · intro e
        have := hexB_of xb (List.getElem?_eq_getElem (show (Lib.itoa (ka : Int)).length - (Lib.itoa (kb : Int)).length - 1 < db.length by omega))
        rw [e] at this
        exact absurd this (by decide)) (by simp; omega)
    rw [ham_comm] at this
    omega
theorem digT_hex (x : It) : (digT x).all hexB = true := hexL_hex _
theorem itL_form (x : It) (r : List UInt8) : itL x ++ r = artL ++ 32 :: (Lib.itoa (x.text.size : Int) ++ 32 :: (digT x ++ 32 :: (textL x.id ++ 10 :: (bl x.text ++ 10 :: r)))) := by
  unfold itL headL
  simp
theorem ham_cons (x y : UInt8) (a b : List UInt8) : ham (x :: a) (y :: b) = (if x = y then 0 else 1) + ham a b := rfl
/-- Two items at the head of texts that differ in one byte. -/
theorem item_step (a b : It) (r s : List UInt8) (ha : a.text.size ≤ 65536) (hb : b.text.size ≤ 65536) (h : ham (itL a ++ r) (itL b ++ s) ≤ 1) : (a ≠ b ∧ digT a = digT b) ∨ (a = b ∧ ham r s ≤ 1) := by
  by_cases hd : digT a = digT b
  · by_cases e : a = b
    · right
      subst e
      rw [ham_app _ _ _ _ rfl, ham_self] at h
      exact ⟨rfl, by omega⟩
    · exact .inl ⟨e, hd⟩
  · exfalso
    rw [itL_form, itL_form] at h
    obtain ⟨h1, h2⟩ := head_step _ _ _ _ _ _ ha hb (digT_len a) (digT_len b) (digT_hex a) (digT_hex b) hd h
    rw [ham_cons, if_pos rfl, ham_app _ _ _ _ (by rw [textL_len, textL_len]), ham_cons, if_pos rfl, ham_app _ _ _ _ (by rw [bl_length, bl_length, h1])] at h2
    have e1 := textL_inj (ham_zero (textL a.id) (textL b.id) (by rw [textL_len, textL_len]) (by omega))
    have e2 := ham_zero (bl a.text) (bl b.text) (by rw [bl_length, bl_length, h1]) (by omega)
    have e3 : a.text = b.text := by
      apply ByteArray.ext
      exact Array.toList_inj.1 e2
    exact hd (by rw [It.ext' e1 e3])
/-- The first byte of what follows the first line. -/
theorem flat_head (l : List It) : ∃ c t, l.flatMap itL ++ endL = c :: t ∧ (c = 97 ∨ c = 101) := by
  cases l with
  | nil => exact ⟨101, [110, 100, 10], rfl, .inr rfl⟩
  | cons x xs =>
    rw [List.flatMap_cons, List.append_assoc, itL_form]
    exact ⟨97, _, rfl, .inl rfl⟩
theorem flat_inj : ∀ (l m : List It), (∀ x ∈ l, x.text.size ≤ 65536) → (∀ x ∈ m, x.text.size ≤ 65536) → l.flatMap itL ++ endL = m.flatMap itL ++ endL → l = m
  | [], [], _, _, _ => rfl
  | [], y :: ys, _, _, h => by
    exfalso
    rw [List.flatMap_cons, List.append_assoc, itL_form] at h
    have := congrArg (fun l => l[0]?) h
    simp [endL, artL] at this
  | x :: xs, [], _, _, h => by
    exfalso
    rw [List.flatMap_cons, List.append_assoc, itL_form] at h
    have := congrArg (fun l => l[0]?) h
    simp [endL, artL] at this
  | x :: xs, y :: ys, hx, hy, h => by
    rw [List.flatMap_cons, List.append_assoc, List.flatMap_cons, List.append_assoc] at h
    have e1 := itemP_itL [] (xs.flatMap itL ++ endL) x (hx x List.mem_cons_self)
    have e2 := itemP_itL [] (ys.flatMap itL ++ endL) y (hy y List.mem_cons_self)
    rw [h, e2] at e1
    injection e1 with e1
    injection e1 with e1 _
    subst e1
    rw [flat_inj xs ys (fun z hz => hx z (List.mem_cons_of_mem _ hz)) (fun z hz => hy z (List.mem_cons_of_mem _ hz)) (List.append_cancel_left h)]
theorem flat_ham : ∀ (l m : List It), (∀ x ∈ l, x.text.size ≤ 65536) → (∀ x ∈ m, x.text.size ≤ 65536) → l.length = m.length → ham (l.flatMap itL ++ endL) (m.flatMap itL ++ endL) ≤ 1 →
    l = m ∨ ∃ (i : Nat) (x y : It), l[i]? = some x ∧ m[i]? = some y ∧ x ≠ y ∧ digT x = digT y
  | [], [], _, _, _, _ => .inl rfl
  | [], _ :: _, _, _, h, _ => by simp at h
  | _ :: _, [], _, _, h, _ => by simp at h
  | x :: xs, y :: ys, hx, hy, hl, h => by
    rw [List.flatMap_cons, List.append_assoc, List.flatMap_cons, List.append_assoc] at h
    rcases item_step x y _ _ (hx x List.mem_cons_self) (hy y List.mem_cons_self) h with ⟨h1, h2⟩ | ⟨rfl, h2⟩
    · exact .inr ⟨0, x, y, rfl, rfl, h1, h2⟩
    · rcases flat_ham xs ys (fun z hz => hx z (List.mem_cons_of_mem _ hz)) (fun z hz => hy z (List.mem_cons_of_mem _ hz)) (by simpa using hl) h2 with rfl | ⟨i, a, b, h3, h4, h5⟩
      · exact .inl rfl
      · exact .inr ⟨i + 1, a, b, by simpa using h3, by simpa using h4, h5⟩
theorem firstL_form (n : Nat) (r : List UInt8) : firstL n ++ r = [98, 97, 116, 99, 104, 32] ++ (Lib.itoa (n : Int) ++ 10 :: r) := by
  unfold firstL
  simp
/-- Two texts of batches that differ in one byte hold two different items with one digest at the same place. -/
theorem batL_ham (l m : List It) (hx : ∀ x ∈ l, x.text.size ≤ 65536) (hy : ∀ x ∈ m, x.text.size ≤ 65536) (hlen : (batL l).length = (batL m).length) (h : ham (batL l) (batL m) ≤ 1) :
    l = m ∨ ∃ (i : Nat) (x y : It), l[i]? = some x ∧ m[i]? = some y ∧ x ≠ y ∧ digT x = digT y := by
  unfold batL at h hlen
  rw [firstL_form, firstL_form] at h hlen
  rw [ham_app _ _ _ _ rfl, ham_self, Nat.zero_add] at h
  have key : ∀ (l m : List It), (Lib.itoa (l.length : Int)).length < (Lib.itoa (m.length : Int)).length → ham (Lib.itoa (l.length : Int) ++ 10 :: (l.flatMap itL ++ endL)) (Lib.itoa (m.length : Int) ++ 10 :: (m.flatMap itL ++ endL)) ≤ 1 → False := by
    intro l m hl h
    obtain ⟨c, t, e, hc⟩ := flat_head l
    rw [e] at h
    have hd := itoa_dig m.length
    generalize Lib.itoa (l.length : Int) = ia at *
    generalize Lib.itoa (m.length : Int) = ib at *
    have := ham_two (ia ++ 10 :: (c :: t)) (ib ++ 10 :: (m.flatMap itL ++ endL)) ia.length (ia.length + 1) (by omega) (by simp) (by simp [endL]; omega) (by
      rw [List.getElem?_append_right (Nat.le_refl _), Nat.sub_self, List.getElem?_append_left hl]
      intro h
      have := digB_of hd h.symm
      exact absurd this (by decide)) (by
      rw [List.getElem?_append_right (by omega), Nat.add_sub_cancel_left, List.getElem?_cons_succ, List.getElem?_cons_zero]
      intro h
      by_cases h2 : ia.length + 1 < ib.length
      · rw [List.getElem?_append_left h2] at h
        have := digB_of hd h.symm
        rcases hc with rfl | rfl <;> exact absurd this (by decide)
      · rw [List.getElem?_append_right (by omega), show ia.length + 1 - ib.length = 0 by omega, List.getElem?_cons_zero] at h
        injection h with h
        rcases hc with rfl | rfl <;> exact absurd h (by decide))
    omega
  rcases Nat.lt_trichotomy (Lib.itoa (l.length : Int)).length (Lib.itoa (m.length : Int)).length with hl | hl | hl
  · exact absurd h (fun h => key l m hl h)
  · rw [ham_app _ _ _ _ hl, ham_cons, if_pos rfl, Nat.zero_add] at h
    by_cases e : l.length = m.length
    · rw [e, ham_self, Nat.zero_add] at h
      exact flat_ham l m hx hy e h
    · exfalso
      have h1 : 1 ≤ ham (Lib.itoa (l.length : Int)) (Lib.itoa (m.length : Int)) := by
        rcases Nat.eq_zero_or_pos (ham (Lib.itoa (l.length : Int)) (Lib.itoa (m.length : Int))) with h0 | h0
        · exact absurd (itoa_inj (ham_zero _ _ hl h0)) e
        · exact h0
      have h2 := ham_zero (l.flatMap itL ++ endL) (m.flatMap itL ++ endL) (by
        simp only [List.length_append, List.length_cons] at hlen ⊢
        omega) (by omega)
      exact e (by rw [flat_inj l m hx hy h2])
  · rw [ham_comm] at h
    exact absurd h (fun h => key m l hl h)
theorem ham_set (l : List UInt8) (k : Nat) (c : UInt8) : ham l (l.set k c) ≤ 1 := by
  induction l generalizing k with
  | nil => simp [ham]
  | cons x xs ih =>
    cases k with
    | zero =>
      rw [List.set_cons_zero, ham_cons, ham_self]
      split <;> omega
    | succ k =>
      rw [List.set_cons_succ, ham_cons, if_pos rfl, Nat.zero_add]
      exact ih k
end Go.Proofs.YtecalodcbkljoaaGreatDoor
