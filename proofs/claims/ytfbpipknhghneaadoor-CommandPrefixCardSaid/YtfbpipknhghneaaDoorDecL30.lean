/- Numbers in decimal: the value of digits, and the digits of a value. -/
import Derived.Test.YtfbpipknhghneaaDoorNum30
import Derived.Lib.ItoaNum
namespace Go.Proofs.YtfbpipknhghneaaDoor
open Go.RowKit
/-- The value of digits behind a number. -/
def numV : List UInt8 → Int → Int
  | [], n => n
  | c :: r, n => numV r (10 * n + ((c.toNat : Int) - 48))
theorem dig_range {c : UInt8} (h : digB c = true) : 48 ≤ c.toNat ∧ c.toNat ≤ 57 := by
  unfold digB at h
  simpa using h
theorem numV_ge : ∀ (l : List UInt8) (a : Int), l.all digB = true → 0 ≤ a → a ≤ numV l a
  | [], a, _, _ => Int.le_refl _
  | c :: r, a, h, h0 => by
    rw [List.all_cons, Bool.and_eq_true] at h
    have hd := dig_range h.1
    have := numV_ge r (10 * a + ((c.toNat : Int) - 48)) h.2 (by omega)
    unfold numV
    omega
theorem numL_val (most : Int) : ∀ (l : List UInt8) (a : Int), l.all digB = true → 0 ≤ a → a ≤ most → numL most l a = if numV l a ≤ most then (numV l a, 0) else (0, 2)
  | [], a, _, _, h => by unfold numL numV; rw [if_pos h]
  | c :: r, a, h, h0, hm => by
    rw [List.all_cons, Bool.and_eq_true] at h
    have hd := dig_range h.1
    unfold numL numV
    by_cases hov : most / 10 < a ∨ (a = most / 10 ∧ most % 10 < (c.toNat : Int) - 48)
    · have := numV_ge r (10 * a + ((c.toNat : Int) - 48)) h.2 (by omega)
      rw [if_pos hov, if_neg (by omega)]
    · rw [if_neg hov]
      exact numL_val most r _ h.2 (by omega) (by omega)
/-- A text that Number accepts but for its size. -/
def Valid (l : List UInt8) : Prop := l ≠ [] ∧ l.all digB = true ∧ ¬ (1 < l.length ∧ l.getD 0 0 = 48)
theorem numE_no (l : List UInt8) (most : Int) (h : ¬ Valid l) : numE l most = (0, 3) := by
  unfold numE
  rw [if_pos]
  by_cases h1 : l = []
  · exact .inl h1
  · by_cases h2 : l.all digB = true
    · refine .inr (.inr ?_)
      refine Classical.byContradiction fun h3 => h ⟨h1, h2, h3⟩
    · refine .inr (.inl ?_)
      have h3 := runL_le digB l
      rcases Nat.lt_or_ge (runL digB l) l.length with h4 | h4
      · exact h4
      · exact absurd ((runL_all digB l).1 (by omega)) h2
theorem numE_yes (l : List UInt8) (most : Int) (h : Valid l) : numE l most = if numV l 0 ≤ most then (numV l 0, 0) else (0, 2) := by
  have h0 := numV_ge l 0 h.2.1 (Int.le_refl _)
  unfold numE
  rw [if_neg]
  · by_cases hn : most < 0
    · rw [if_pos hn, if_neg (by omega)]
    · rw [if_neg hn]
      exact numL_val most l 0 h.2.1 (Int.le_refl _) (by omega)
  · rintro (h1 | h1 | h1)
    · exact h.1 h1
    · rw [(runL_all digB l).2 h.2.1] at h1
      omega
    · exact h.2.2 h1
theorem numV_append : ∀ (l r : List UInt8) (a : Int), numV (l ++ r) a = numV r (numV l a)
  | [], _, _ => rfl
  | c :: l, r, a => by
    rw [List.cons_append, numV, numV]
    exact numV_append l r _
theorem dg48 (x : Nat) (h : x < 10) : (UInt8.ofNat (48 + x)).toNat = 48 + x := by rw [UInt8.toNat_ofNat']; omega
theorem digB_dg (x : Nat) (h : x < 10) : digB (UInt8.ofNat (48 + x)) = true := by
  unfold digB
  rw [dg48 x h]
  simp
  omega
theorem dec_all : ∀ (u : Nat), (Lib.decDigits u).all digB = true := by
  intro u
  induction u using Nat.strongRecOn with
  | _ u ih =>
    rw [Lib.decDigits]
    split
    · rename_i h
      rw [List.all_cons, digB_dg u h]
      rfl
    · rename_i h
      rw [List.all_append, ih (u / 10) (by omega), List.all_cons, digB_dg (u % 10) (by omega)]
      rfl
theorem dec_val : ∀ (u : Nat), numV (Lib.decDigits u) 0 = (u : Int) := by
  intro u
  induction u using Nat.strongRecOn with
  | _ u ih =>
    rw [Lib.decDigits]
    split
    · rename_i h
      rw [numV, numV, dg48 u h]
      omega
    · rename_i h
      rw [numV_append, ih (u / 10) (by omega), numV, numV, dg48 (u % 10) (by omega)]
      omega
theorem dec_ne (u : Nat) : Lib.decDigits u ≠ [] := by
  rw [Lib.decDigits]
  split <;> simp
theorem dec_head : ∀ (u : Nat), 0 < u → (Lib.decDigits u).getD 0 0 ≠ 48 := by
  intro u
  induction u using Nat.strongRecOn with
  | _ u ih =>
    intro h0
    rw [Lib.decDigits]
    split
    · rename_i h
      intro e
      have := congrArg UInt8.toNat e
      rw [List.getD_cons_zero, dg48 u h] at this
      have h48 : (48 : UInt8).toNat = 48 := rfl
      rw [h48] at this
      omega
    · rename_i h
      have := ih (u / 10) (by omega) (by omega)
      cases hd : Lib.decDigits (u / 10) with
      | nil => exact absurd hd (dec_ne _)
      | cons c r => rw [hd] at this; exact this
theorem dec_valid (u : Nat) : Valid (Lib.decDigits u) := by
  refine ⟨dec_ne u, dec_all u, ?_⟩
  rintro ⟨h1, h2⟩
  rcases Nat.eq_zero_or_pos u with h0 | h0
  · subst h0
    rw [Lib.decDigits] at h1
    simp at h1
  · exact dec_head u h0 h2
theorem val_dec_aux : ∀ (n : Nat) (l : List UInt8), l.length = n → l ≠ [] → l.all digB = true → l.getD 0 0 ≠ 48 → 0 < numV l 0 ∧ Lib.decDigits (numV l 0).toNat = l := by
  intro n
  induction n with
  | zero => intro l h hne; exact absurd (List.eq_nil_of_length_eq_zero h) hne
  | succ n ih =>
    intro l h hne ha h48
    obtain ⟨r, c, rfl⟩ : ∃ r c, l = r ++ [c] := ⟨l.dropLast, l.getLast hne, (List.dropLast_concat_getLast hne).symm⟩
    rw [List.all_append, Bool.and_eq_true] at ha
    have hd := dig_range (show digB c = true by have := ha.2; simpa using this)
    have hc : UInt8.ofNat (48 + (c.toNat - 48)) = c := by
      rw [show 48 + (c.toNat - 48) = c.toNat by omega]
      exact UInt8.ofNat_toNat
    cases r with
    | nil =>
      have hne48 : c.toNat ≠ 48 := fun e => h48 (by simpa using UInt8.toNat_inj.1 e)
      have e1 : numV ([] ++ [c]) 0 = (c.toNat : Int) - 48 := by simp [numV]
      rw [e1]
      refine ⟨by omega, ?_⟩
      rw [show ((c.toNat : Int) - 48).toNat = c.toNat - 48 by omega, Lib.decDigits, dif_pos (by omega), hc]
      rfl
    | cons b q =>
      obtain ⟨h1, h2⟩ := ih (b :: q) (by simp at h ⊢; omega) (by simp) ha.1 h48
      obtain ⟨v, hv⟩ : ∃ v : Nat, numV (b :: q) 0 = (v : Int) := ⟨(numV (b :: q) 0).toNat, by omega⟩
      rw [hv] at h1 h2
      have e1 : numV ((b :: q) ++ [c]) 0 = 10 * (v : Int) + ((c.toNat : Int) - 48) := by rw [numV_append, hv]; rfl
      rw [e1]
      refine ⟨by omega, ?_⟩
      rw [show (10 * (v : Int) + ((c.toNat : Int) - 48)).toNat = 10 * v + (c.toNat - 48) by omega, Lib.decDigits, dif_neg (by omega), show (10 * v + (c.toNat - 48)) / 10 = v by omega, show (10 * v + (c.toNat - 48)) % 10 = c.toNat - 48 by omega, hc]
      rw [show ((v : Int)).toNat = v by omega] at h2
      rw [h2]
theorem val_dec (l : List UInt8) (h : Valid l) : Lib.decDigits (numV l 0).toNat = l := by
  by_cases h48 : l.getD 0 0 = 48
  · have h1 : l.length = 1 := by
      have := h.2.2
      have : l.length ≠ 0 := fun e => h.1 (List.eq_nil_of_length_eq_zero e)
      have : ¬ 1 < l.length := fun e => h.2.2 ⟨e, h48⟩
      omega
    match l, h1, h48 with
    | [c], _, h48 =>
      obtain rfl : c = 48 := by simpa using h48
      rw [show (numV [48] 0).toNat = 0 from rfl, Lib.decDigits]
      rfl
  · exact (val_dec_aux l.length l rfl h.1 h.2.1 h48).2
end Go.Proofs.YtfbpipknhghneaaDoor
