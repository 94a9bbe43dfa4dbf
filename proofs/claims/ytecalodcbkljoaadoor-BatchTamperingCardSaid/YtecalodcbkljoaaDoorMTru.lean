/- A proper beginning of a batch's text is cut off at its end. -/
import Derived.Test.YtecalodcbkljoaaDoorMCan
namespace Go.Proofs.YtecalodcbkljoaaDoor
open Go.RowKit

theorem firstP_first (n : Nat) (h : n ≤ 1000) (t : List UInt8) : firstP (firstL n ++ t) = .ok (n, (firstL n).length) := by
  have hno : (10 : UInt8) ∉ ([98, 97, 116, 99, 104, 32] ++ Lib.itoa (n : Int)) := by
    have h2 := (wordB_no _ (itoa_word (n : Int) (by omega))).2.1
    rw [List.mem_append, not_or]
    exact ⟨by decide, h2⟩
  have e : firstL n ++ t = ([98, 97, 116, 99, 104, 32] ++ Lib.itoa (n : Int)) ++ 10 :: t := by
    unfold firstL
    simp
  unfold firstP
  rw [e, nlAt_app _ _ hno]
  simp only []
  rw [List.take_left]
  have e2 : ([98, 97, 116, 99, 104, 32] ++ Lib.itoa (n : Int)).take 6 = [98, 97, 116, 99, 104, 32] := by simp
  have e3 : ([98, 97, 116, 99, 104, 32] ++ Lib.itoa (n : Int)).drop 6 = Lib.itoa (n : Int) := by simp
  have e4 : numE (Lib.itoa (n : Int)) 1000 = ((n : Int), 0) := by
    rw [Lib.itoa_nonneg, numE_yes _ _ (dec_valid _), dec_val, if_pos (by omega)]
  rw [e2, e3, e4, if_pos ⟨rfl, rfl⟩, firstL_len]
  congr 2
theorem nlAt_take {l r : List UInt8} (h : 10 ∉ l) {a : Nat} (ha : a ≤ l.length) : nlAt ((l ++ 10 :: r).take a) = none := by
  rw [nlAt_none, List.take_append_of_le_length ha]
  exact fun hm => h (List.mem_of_mem_take hm)
/-- An item that is not whole. -/
theorem itemP_cut (p r : List UInt8) (x : It) (h : x.text.size ≤ 65536) (a : Nat) (ha : a < itN x) : itemP (p ++ (itL x ++ r).take a) p.length = .error (23, p.length + a) := by
  have hN : itN x = (headL x).length + x.text.size + 2 := by
    rw [← itL_len]
    unfold itL
    simp only [List.length_append, List.length_cons, List.length_nil, bl_length]
    omega
  have hlen : (p ++ (itL x ++ r).take a).length = p.length + a := by
    rw [List.length_append, List.length_take, List.length_append, itL_len]
    omega
  have hform : itL x ++ r = headL x ++ 10 :: (bl x.text ++ 10 :: r) := by
    unfold itL
    simp
  have hd : (p ++ (itL x ++ r).take a).drop p.length = (headL x ++ 10 :: (bl x.text ++ 10 :: r)).take a := by
    rw [List.drop_left, hform]
  unfold itemP
  rw [hd, hlen]
  by_cases h1 : a ≤ (headL x).length
  · rw [nlAt_take (head_no x) h1]
  · obtain ⟨m, rfl⟩ : ∃ m, a = (headL x).length + (m + 1) := ⟨a - (headL x).length - 1, by omega⟩
    rw [List.take_length_add_append, List.take_succ_cons, nlAt_app _ _ (head_no x)]
    simp only []
    rw [List.take_left, parseI_head x h]
    simp only []
    rw [if_pos (by omega)]
theorem itemsP_cut : ∀ (l : List It) (p : List UInt8) (a : Nat), (∀ x ∈ l, x.text.size ≤ 65536) → a ≤ sumN l + 4 →
    itemsP (p ++ (l.flatMap itL ++ endL).take a) l.length p.length = if sumN l ≤ a then .ok (l, p.length + sumN l) else .error (23, p.length + a)
  | [], p, a, _, _ => by
    rw [if_pos (by simp [sumN])]
    rfl
  | x :: xs, p, a, h, ha => by
    have hs : sumN (x :: xs) = itN x + sumN xs := by simp [sumN]
    rw [List.flatMap_cons, List.append_assoc, List.length_cons, itemsP]
    by_cases h1 : a < itN x
    · rw [itemP_cut p _ x (h x List.mem_cons_self) a h1, if_neg (by omega)]
    · obtain ⟨m, rfl⟩ : ∃ m, a = (itL x).length + m := ⟨a - (itL x).length, by rw [itL_len]; omega⟩
      rw [List.take_length_add_append, itemP_itL p _ x (h x List.mem_cons_self)]
      simp only []
      have ih := itemsP_cut xs (p ++ itL x) m (fun y hy => h y (List.mem_cons_of_mem _ hy)) (by rw [itL_len] at ha; omega)
      rw [List.append_assoc, List.length_append, itL_len] at ih
      rw [ih]
      by_cases h2 : sumN xs ≤ m
      · rw [if_pos h2, if_pos (by rw [itL_len]; omega)]
        simp only []
        congr 2
        omega
      · rw [if_neg h2, if_neg (by rw [itL_len]; omega)]
        simp only []
        congr 2
        rw [itL_len]
        omega
/-- Every proper beginning of a batch's text is truncated. -/
theorem unpackP_cut (l : List It) (h : ∀ x ∈ l, x.text.size ≤ 65536) (hn : l.length ≤ 1000) (a : Nat) (ha : a < (batL l).length) (hs : a ≤ 4194304) : unpackP ((batL l).take a) = .error (23, a) := by
  have hlen : ((batL l).take a).length = a := by rw [List.length_take]; omega
  unfold unpackP
  rw [hlen, if_neg (by omega)]
  by_cases h1 : a < (firstL l.length).length
  · have hno : (10 : UInt8) ∉ ([98, 97, 116, 99, 104, 32] ++ Lib.itoa (l.length : Int)) := by
      have h2 := (wordB_no _ (itoa_word (l.length : Int) (by omega))).2.1
      rw [List.mem_append, not_or]
      exact ⟨by decide, h2⟩
    have e : batL l = ([98, 97, 116, 99, 104, 32] ++ Lib.itoa (l.length : Int)) ++ 10 :: (l.flatMap itL ++ endL) := by
      unfold batL firstL
      simp
    have hz : ([98, 97, 116, 99, 104, 32] ++ Lib.itoa (l.length : Int)).length + 1 = (firstL l.length).length := by
      rw [firstL_len]
      simp
    unfold firstP
    rw [hlen]
    rw [e, nlAt_take hno (by omega)]
  · obtain ⟨m, rfl⟩ : ∃ m, a = (firstL l.length).length + m := ⟨a - (firstL l.length).length, by omega⟩
    have e : (batL l).take ((firstL l.length).length + m) = firstL l.length ++ (l.flatMap itL ++ endL).take m := by
      unfold batL
      rw [List.take_length_add_append]
    have hm : m < sumN l + 4 := by
      unfold batL at ha
      rw [List.length_append, List.length_append, flat_len] at ha
      simp only [endL, List.length_cons, List.length_nil] at ha
      omega
    rw [e] at hlen
    rw [e, firstP_first _ hn]
    simp only []
    rw [itemsP_cut l (firstL l.length) m h (by omega)]
    by_cases h2 : sumN l ≤ m
    · rw [if_pos h2]
      simp only []
      have hd : (firstL l.length ++ (l.flatMap itL ++ endL).take m).drop ((firstL l.length).length + sumN l) = endL.take (m - sumN l) := by
        rw [← List.drop_drop, List.drop_left, List.drop_take, ← flat_len l, List.drop_left]
      unfold lastP
      rw [hd, hlen]
      have : nlAt (endL.take (m - sumN l)) = none := nlAt_take (l := [101, 110, 100]) (r := []) (by decide) (by simp; omega)
      rw [this]
    · rw [if_neg h2]
end Go.Proofs.YtecalodcbkljoaaDoor
