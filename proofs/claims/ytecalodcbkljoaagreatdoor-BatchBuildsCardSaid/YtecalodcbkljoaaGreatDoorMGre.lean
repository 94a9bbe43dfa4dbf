/- Items divided into batches, in order, each as long as it can be. -/
import Derived.Test.YtecalodcbkljoaaGreatDoorMBat
namespace Go.Proofs.YtecalodcbkljoaaGreatDoor
open Go.RowKit

/-- How many items of a list still fit, behind n items of b bytes. -/
def cntP (most : Int) : List It → Nat → Nat → Nat
  | [], n, _ => n
  | x :: r, n, b => if n < 1000 ∧ (sizeN (n + 1) (b + itN x) : Int) ≤ most then cntP most r (n + 1) (b + itN x) else n
theorem cntP_ge (most : Int) : ∀ (l : List It) (n b : Nat), n ≤ cntP most l n b ∧ cntP most l n b ≤ n + l.length
  | [], n, b => by simp [cntP]
  | x :: r, n, b => by
    unfold cntP
    split
    · have := cntP_ge most r (n + 1) (b + itN x)
      simp only [List.length_cons]
      omega
    · simp
/-- The number of the first items that make a batch. -/
def cut1 (most : Int) (l : List It) : Nat := cntP most l 0 0
theorem cut1_le (most : Int) (l : List It) : cut1 most l ≤ l.length := by
  have := (cntP_ge most l 0 0).2
  unfold cut1
  omega
def FitsB (most : Int) (x : It) : Prop := (sizeN 1 (itN x) : Int) ≤ most
theorem cut1_pos (most : Int) (x : It) (r : List It) (h : FitsB most x) : 0 < cut1 most (x :: r) := by
  unfold cut1 cntP
  rw [if_pos ⟨by omega, by rw [show sizeN (0 + 1) (0 + itN x) = sizeN 1 (itN x) by rw [Nat.zero_add, Nat.zero_add]]; exact h⟩]
  have := (cntP_ge most r (0 + 1) (0 + itN x)).1
  omega
theorem sumN_take_succ (l : List It) (k : Nat) (x : It) (h : l[k]? = some x) : sumN (l.take (k + 1)) = sumN (l.take k) + itN x := by
  have hk := (List.getElem?_eq_some_iff.1 h).1
  have hx := (List.getElem?_eq_some_iff.1 h).2
  rw [List.take_succ_eq_append_getElem hk, hx]
  simp [sumN]
/-- The count from any place on. -/
theorem cntP_step (most : Int) (l : List It) (n b : Nat) (x : It) (r : List It) (h : l = x :: r) : cntP most l n b = if n < 1000 ∧ (sizeN (n + 1) (b + itN x) : Int) ≤ most then cntP most r (n + 1) (b + itN x) else n := by
  subst h
  rfl
/-- The size of what makes a batch. -/
theorem cntP_size (most : Int) : ∀ (l : List It) (n b : Nat), n < cntP most l n b → (sizeN (cntP most l n b) (b + sumN (l.take (cntP most l n b - n))) : Int) ≤ most ∧ cntP most l n b ≤ 1000
  | [], n, b, h => by simp [cntP] at h
  | x :: r, n, b, h => by
    unfold cntP at h ⊢
    split
    · rename_i hc
      have ih := cntP_size most r (n + 1) (b + itN x)
      have hge := (cntP_ge most r (n + 1) (b + itN x)).1
      by_cases he : n + 1 < cntP most r (n + 1) (b + itN x)
      · obtain ⟨h1, h2⟩ := ih he
        refine ⟨?_, h2⟩
        obtain ⟨m, hm⟩ : ∃ m, cntP most r (n + 1) (b + itN x) - n = m + 1 := ⟨cntP most r (n + 1) (b + itN x) - n - 1, by omega⟩
        rw [hm, List.take_succ_cons]
        rw [show cntP most r (n + 1) (b + itN x) - (n + 1) = m by omega] at h1
        simp only [sumN, List.map_cons, List.sum_cons] at h1 ⊢
        rw [← Nat.add_assoc]
        exact h1
      · have he2 : cntP most r (n + 1) (b + itN x) = n + 1 := by omega
        rw [he2, show n + 1 - n = 1 by omega]
        simp only [List.take_succ_cons, List.take_zero, sumN, List.map_cons, List.map_nil, List.sum_cons, List.sum_nil, Nat.add_zero]
        exact ⟨hc.2, by omega⟩
    · rename_i hc
      rw [if_neg hc] at h
      omega
/-- The batches. -/
def splitP (most : Int) : Nat → List It → List (List It)
  | 0, _ => []
  | f + 1, l => if l = [] then [] else l.take (cut1 most l) :: splitP most f (l.drop (cut1 most l))
theorem splitP_fuel (most : Int) : ∀ (f g : Nat) (l : List It), l.length ≤ f → l.length ≤ g → (∀ x ∈ l, FitsB most x) → splitP most f l = splitP most g l
  | 0, g, l, hf, _, _ => by
    obtain rfl : l = [] := List.eq_nil_of_length_eq_zero (by omega)
    cases g <;> simp [splitP]
  | f + 1, 0, l, _, hg, _ => by
    obtain rfl : l = [] := List.eq_nil_of_length_eq_zero (by omega)
    simp [splitP]
  | f + 1, g + 1, l, hf, hg, h => by
    unfold splitP
    split
    · rfl
    · rename_i hne
      obtain ⟨x, r, rfl⟩ := List.exists_cons_of_ne_nil hne
      have hp := cut1_pos most x r (h x List.mem_cons_self)
      rw [splitP_fuel most f g _ (by rw [List.length_drop]; omega) (by rw [List.length_drop]; omega) (fun y hy => h y (List.mem_of_mem_drop hy))]
/-- The batches of a list. -/
def batches (most : Int) (l : List It) : List (List It) := splitP most l.length l
theorem batches_nil (most : Int) : batches most [] = [] := rfl
theorem batches_cons (most : Int) (l : List It) (hne : l ≠ []) (h : ∀ x ∈ l, FitsB most x) : batches most l = l.take (cut1 most l) :: batches most (l.drop (cut1 most l)) := by
  obtain ⟨x, r, rfl⟩ := List.exists_cons_of_ne_nil hne
  have hp := cut1_pos most x r (h x List.mem_cons_self)
  unfold batches
  rw [List.length_cons, splitP, if_neg (by simp)]
  rw [splitP_fuel most r.length _ _ (by rw [List.length_drop, List.length_cons]; omega) (Nat.le_refl _) (fun y hy => h y (List.mem_of_mem_drop hy))]
theorem batches_flat (most : Int) : ∀ (n : Nat) (l : List It), l.length ≤ n → (∀ x ∈ l, FitsB most x) → (batches most l).flatten = l ∧ ∀ b ∈ batches most l, b ≠ [] ∧ b.length ≤ 1000 ∧ (sizeN b.length (sumN b) : Int) ≤ most
  | 0, l, hn, _ => by
    obtain rfl : l = [] := List.eq_nil_of_length_eq_zero (by omega)
    simp [batches_nil]
  | n + 1, l, hn, h => by
    by_cases hne : l = []
    · subst hne
      simp [batches_nil]
    · obtain ⟨x, r, rfl⟩ := List.exists_cons_of_ne_nil hne
      have hp := cut1_pos most x r (h x List.mem_cons_self)
      have hle := cut1_le most (x :: r)
      obtain ⟨h1, h2⟩ := batches_flat most n ((x :: r).drop (cut1 most (x :: r))) (by rw [List.length_drop]; omega) (fun y hy => h y (List.mem_of_mem_drop hy))
      rw [batches_cons most _ hne h]
      refine ⟨by rw [List.flatten_cons, h1, List.take_append_drop], ?_⟩
      intro b hb
      rcases List.mem_cons.1 hb with rfl | hb
      · have hs := cntP_size most (x :: r) 0 0 hp
        rw [Nat.zero_add, Nat.sub_zero] at hs
        have hl : ((x :: r).take (cut1 most (x :: r))).length = cut1 most (x :: r) := by rw [List.length_take]; omega
        refine ⟨?_, by rw [hl]; exact hs.2, by rw [hl]; exact hs.1⟩
        intro e
        rw [e] at hl
        simp at hl
        omega
      · exact h2 b hb
/-- What Split returns: the batches, or the kind of the error. -/
def splitE (most : Int) (l : List It) : Except Int (List (List It)) :=
  if most < 1 ∨ 4194304 < most then .error 2 else if l.any (fun x => decide (65536 < x.text.size) || decide (most < (sizeN 1 (itN x) : Int))) then .error 5 else .ok (batches most l)
end Go.Proofs.YtecalodcbkljoaaGreatDoor
