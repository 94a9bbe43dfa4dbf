/- Bytes that follow change nothing of what was decoded: plain laws. -/
import Derived.Test.YtfbpipknhghneaaGreatDoorFeed
namespace Go.Proofs.YtfbpipknhghneaaGreatDoor
open Go.RowKit
theorem flGo_stable (p : List UInt8) (k : Nat) : ∀ (s : List UInt8) (last : UInt8) (i : Nat), flGo last s i = (0, k) → flGo last (s ++ p) i = (0, k)
  | [], last, i, h => by simp [flGo] at h
  | x :: xs, last, i, h => by
    rw [List.cons_append]
    rw [flGo] at h ⊢
    by_cases h13 : x = 13
    · rw [if_pos h13] at h ⊢
      by_cases h2 : xs ≠ [] ∧ xs.head? ≠ some 10
      · rw [if_pos h2] at h; cases h
      · rw [if_neg h2] at h
        cases xs with
        | nil => simp [flGo] at h
        | cons y ys =>
          rw [if_neg (by
            rintro ⟨_, h3⟩
            exact h2 ⟨by simp, h3⟩)]
          exact flGo_stable p k (y :: ys) 13 (i + 1) h
    · rw [if_neg h13] at h ⊢
      by_cases h10 : x = 10
      · rw [if_pos h10] at h ⊢
        exact h
      · rw [if_neg h10] at h ⊢
        exact flGo_stable p k xs x (i + 1) h
theorem unGo_stable (p : List UInt8) (t : List UInt8) (m : Nat) : ∀ (f g : Nat) (first : Bool) (text : List UInt8) (n : Nat) (s : List UInt8), f ≤ g → unGo f first text n s = (t, m, 0) → unGo g first text n (s ++ p) = (t, m, 0) := by
  intro f
  induction f with
  | zero => intro g first text n s _ h; simp [unGo] at h
  | succ f ih =>
    intro g first text n s hg h
    obtain ⟨g, rfl⟩ : ∃ g', g = g' + 1 := ⟨g - 1, by omega⟩
    obtain ⟨⟨e, k⟩, hk⟩ : ∃ r, flGo 0 s 0 = r := ⟨_, rfl⟩
    by_cases he : e = 0
    · subst he
      have hlt := flGo_lt _ _ _ _ hk
      have e1 : (s ++ p).take (k - 1) = s.take (k - 1) := List.take_append_of_le_length (by omega)
      have e2 : (s ++ p).drop (k + 1) = s.drop (k + 1) ++ p := List.drop_append_of_le_length (by omega)
      rw [unGo, hk] at h
      rw [unGo, flGo_stable p k s 0 0 hk]
      simp only [e1, e2] at h ⊢
      split at h
      · rename_i c1
        rw [if_pos c1]
        exact h
      rename_i c1
      rw [if_neg c1]
      split at h
      · cases h
      rename_i c2
      rw [if_neg c2]
      generalize (if first = true then text else text ++ [10]) = T0 at h ⊢
      generalize (if (List.take (k - 1) s).head? = some 46 then List.drop 1 (List.take (k - 1) s) else List.take (k - 1) s) = T1 at h ⊢
      by_cases c3 : 262144 < (T0 ++ T1).length
      · rw [if_pos c3] at h
        exact absurd (congrArg (fun x => x.2.2) h) (by simp)
      · rw [if_neg c3] at h ⊢
        exact ih g _ _ _ _ (by omega) h
    · rw [unGo_err f first text n s e k hk he] at h
      exact absurd (congrArg (fun x => x.2.2) h) he
theorem un_stable (s p t : List UInt8) (m : Nat) (h : unL s = (t, m, 0)) : unL (s ++ p) = (t, m, 0) := by
  unfold unL at h ⊢
  exact unGo_stable p t m _ _ _ _ _ _ (by rw [List.length_append]; omega) h
theorem index_append (p : List UInt8) (c : UInt8) : ∀ (s : List UInt8), Lib.indexByte s c ≠ -1 → Lib.indexByte (s ++ p) c = Lib.indexByte s c
  | [], h => absurd rfl h
  | x :: xs, h => by
    rw [List.cons_append]
    rw [Lib.indexByte] at h ⊢
    rw [Lib.indexByte]
    by_cases hx : (x == c) = true
    · rw [hx]
      rfl
    · have hx2 : (x == c) = false := by simpa using hx
      rw [hx2] at h ⊢
      have h1 : Lib.indexByte xs c ≠ -1 := by
        intro e
        rw [e] at h
        exact h rfl
      rw [index_append p c xs h1]
theorem dec_stable (l p : List UInt8) (c : Cm) (n : Nat) (h : decL l = (c, n, 0)) : decL (l ++ p) = (c, n, 0) := by
  by_cases hi : Lib.indexByte l 10 = -1
  · rw [dec_no l hi] at h
    split at h <;> cases h
  · obtain ⟨k, hk, hlt⟩ := index_nat l 10 hi
    have hk2 : Lib.indexByte (l ++ p) 10 = (k : Int) := by rw [index_append p 10 l hi, hk]
    have e1 : (l ++ p).take (k - 1) = l.take (k - 1) := List.take_append_of_le_length (by omega)
    have e2 : (l ++ p).drop (k + 1) = l.drop (k + 1) ++ p := List.drop_append_of_le_length (by omega)
    have e3 : (l ++ p).getD (k - 1) 0 = l.getD (k - 1) 0 := by
      rw [List.getD_eq_getElem?_getD, List.getD_eq_getElem?_getD, List.getElem?_append_left (by omega)]
    unfold decL at h ⊢
    rw [hk, if_neg (by omega), Int.toNat_natCast] at h
    rw [hk2, if_neg (by omega), Int.toNat_natCast, e1, e2, e3]
    split at h
    · cases h
    rename_i n1
    rw [if_neg n1]
    split at h
    · cases h
    rename_i n2
    rw [if_neg n2]
    split at h
    · cases h
    rename_i n3
    rw [if_neg n3]
    split at h
    · rename_i n4
      rw [if_pos n4]
      exact h
    rename_i n4
    rw [if_neg n4]
    split at h
    · rename_i n5
      have := congrArg (fun x => x.2.2) h
      exact absurd this n5
    rename_i n5
    have hu : unL (l.drop (k + 1) ++ p) = ((unL (l.drop (k + 1))).1, (unL (l.drop (k + 1))).2.1, 0) := un_stable _ p _ _ (by
      have h0 : (unL (l.drop (k + 1))).2.2 = 0 := by simpa using n5
      rw [← h0])
    rw [hu, if_neg (by simp)]
    exact h
theorem feed_more (p : List UInt8) : ∀ (f : Nat) (l : List UInt8), l.length < f → (feedL l).2.2 = 0 → feedL (l ++ p) = ((feedL l).1 ++ (feedL ((feedL l).2.1 ++ p)).1, (feedL ((feedL l).2.1 ++ p)).2.1, (feedL ((feedL l).2.1 ++ p)).2.2) := by
  intro f
  induction f with
  | zero => intro l h; omega
  | succ f ih =>
    intro l hf h
    obtain ⟨⟨c, n, e⟩, hd⟩ : ∃ d, decL l = d := ⟨_, rfl⟩
    by_cases h0 : e = 0
    · subst h0
      have hl := dec_len l (by rw [hd])
      rw [hd] at hl
      dsimp only at hl
      rw [feedL_ok hd] at h ⊢
      rw [feedL_ok (dec_stable l p c n hd), List.drop_append_of_le_length hl.2, ih (l.drop n) (by rw [List.length_drop]; omega) h]
      simp
    · by_cases h4 : e = 4
      · subst h4
        rw [feedL_short hd]
        simp
      · rw [feedL_err hd h0 h4] at h
        exact absurd h h0
end Go.Proofs.YtfbpipknhghneaaGreatDoor
