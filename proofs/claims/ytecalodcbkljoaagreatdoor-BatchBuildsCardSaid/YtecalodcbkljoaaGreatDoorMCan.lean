/- A text that Unpack accepts is the text of its items. -/
import Derived.Test.YtecalodcbkljoaaGreatDoorMBat
namespace Go.Proofs.YtecalodcbkljoaaGreatDoor
open Go.RowKit

/-- Pieces put together again. -/
def unsp (c : UInt8) : List (List UInt8) → List UInt8
  | [] => []
  | [a] => a
  | a :: b :: r => a ++ c :: unsp c (b :: r)
theorem splitGo_ne (c : UInt8) (cur s : List UInt8) : splitGo c cur s ≠ [] := by
  induction s generalizing cur with
  | nil => simp [splitGo]
  | cons x xs ih =>
    unfold splitGo
    split
    · simp
    · exact ih _
theorem unsp_cons (c : UInt8) (a : List UInt8) (r : List (List UInt8)) (h : r ≠ []) : unsp c (a :: r) = a ++ c :: unsp c r := by
  cases r with
  | nil => exact absurd rfl h
  | cons b r => rfl
theorem unsp_split (c : UInt8) : ∀ (l cur : List UInt8), unsp c (splitGo c cur l) = cur ++ l
  | [], cur => by simp [splitGo, unsp]
  | x :: xs, cur => by
    unfold splitGo
    split
    · rename_i h
      subst h
      rw [unsp_cons _ _ _ (splitGo_ne _ _ _), unsp_split _ xs []]
      rfl
    · rw [unsp_split c xs]
      simp

theorem hexL_unhexL : ∀ (n : Nat) (l : List UInt8), l.length = 2 * n → l.all hexB = true → hexL (unhexL l) = l
  | 0, [], _, _ => rfl
  | n + 1, a :: b :: r, h, ha => by
    have hr : r.length = 2 * n := by simp at h; omega
    simp only [List.all_cons, Bool.and_eq_true] at ha
    have h1 := pairV_toNat ha.1 ha.2.1
    have l1 := hexV_lt a ha.1
    have l2 := hexV_lt b ha.2.1
    have e : hexL (unhexL (a :: b :: r)) = digC ((pairV a b).toNat / 16) :: digC ((pairV a b).toNat % 16) :: hexL (unhexL r) := rfl
    rw [e, hexL_unhexL n r hr ha.2.2, h1, show (16 * hexV a + hexV b) / 16 = hexV a by omega, show (16 * hexV a + hexV b) % 16 = hexV b by omega]
    have key : ∀ c : UInt8, hexB c = true → digC (hexV c) = c := fun c hc => by
      have := byte_all (p := fun c => !hexB c || digC (hexV c) == c) (by decide +kernel) c
      rw [hc] at this
      simpa using this
    rw [key a ha.1, key b ha.2.1]
  | n + 1, [x], h, _ => by simp at h; omega
  | n + 1, [], h, _ => by simp at h
  | 0, x :: r, h, _ => by simp at h

/-- An identity is printed as it was read. -/
theorem textL_midL (d : List UInt8) (h : identB d = true) : textL (midL d) = d := by
  have hb : identB (bl ⟨d.toArray⟩) = true := h
  have hl : d.length = 71 := by have := identB_size hb; rw [← bl_length] at this; exact this
  have hmid := mid_hex hb
  have hm : ((d.drop 1).take 64).all hexB = true := hmid
  have hm64 : ((d.drop 1).take 64).length = 64 := by rw [List.length_take, List.length_drop]; omega
  have h32 := unhexL_length 32 _ hm64
  have e1 : (midL d).1 = unhexL ((d.drop 1).take 64) := by
    unfold midL toId
    rw [dif_pos h32]
  unfold textL
  rw [e1, hexL_unhexL 32 _ hm64 hm]
  unfold identB at h
  simp only [Bool.and_eq_true, decide_eq_true_eq] at h
  have hat : ∀ i (hi : i < 71), okAt i (d[i]'(by omega)) = true := by
    intro i hi
    have := List.all_eq_true.1 h.2 i (List.mem_range.2 hi)
    rw [List.getD_eq_getElem?_getD, List.getElem?_eq_getElem (by omega)] at this
    exact this
  have e0 : d.take 1 = [60] := by
    have h0 := hat 0 (by omega)
    unfold okAt at h0
    rw [if_pos (by omega)] at h0
    have h60 : d[0] = 60 := UInt8.toNat_inj.1 (of_decide_eq_true h0)
    rw [List.take_succ_eq_append_getElem (by omega), h60]
    rfl
  have e2 : d.drop 65 = [64, 104, 97, 115, 104, 62] := by
    refine List.ext_getElem (by rw [List.length_drop, hl]; rfl) fun j h1 h2 => ?_
    have hj : j < 6 := h2
    have h3 := hat (65 + j) (by omega)
    unfold okAt at h3
    rw [if_neg (by omega), if_neg (by omega), Nat.add_sub_cancel_left] at h3
    have h4 := of_decide_eq_true h3
    rw [List.getElem_drop]
    refine UInt8.toNat_inj.1 (h4.trans ?_)
    have : j = 0 ∨ j = 1 ∨ j = 2 ∨ j = 3 ∨ j = 4 ∨ j = 5 := by omega
    rcases this with rfl | rfl | rfl | rfl | rfl | rfl <;> rfl
  have e3 : d = d.take 1 ++ ((d.drop 1).take 64 ++ d.drop 65) := by
    have : d.drop 65 = (d.drop 1).drop 64 := by rw [List.drop_drop]
    rw [this, List.take_append_drop, List.take_append_drop]
  rw [← e0, ← e2, List.append_assoc]
  exact e3.symm

theorem numE_back {b : List UInt8} {m v : Int} (h : (numE b m).2 = 0) (hv : (numE b m).1 = v) : b = Lib.itoa v ∧ 0 ≤ v ∧ v ≤ m := by
  by_cases hb : Valid b
  · rw [numE_yes b m hb] at h hv
    by_cases hm : numV b 0 ≤ m
    · rw [if_pos hm] at hv
      have h0 := numV_ge b 0 hb.2.1 (Int.le_refl _)
      simp only [] at hv
      subst hv
      refine ⟨?_, h0, hm⟩
      obtain ⟨u, hu⟩ : ∃ u : Nat, numV b 0 = (u : Int) := ⟨(numV b 0).toNat, by omega⟩
      have := val_dec b hb
      rw [hu] at this ⊢
      rw [Lib.itoa_nonneg]
      exact this.symm
    · rw [if_neg hm] at h
      simp at h
  · rw [numE_no b m hb] at h
    simp at h

theorem nlAt_spec {l : List UInt8} {n : Nat} (h : nlAt l = some n) : l = l.take n ++ 10 :: l.drop (n + 1) ∧ 10 ∉ l.take n ∧ n < l.length := by
  induction l generalizing n with
  | nil => cases h
  | cons x xs ih =>
    unfold nlAt at h
    split at h
    · rename_i hx
      cases h
      simp [hx]
    · rename_i hx
      obtain ⟨m, hm, rfl⟩ := Option.map_eq_some_iff.1 h
      obtain ⟨h1, h2, h3⟩ := ih hm
      refine ⟨?_, ?_, by simp; omega⟩
      · rw [List.take_succ_cons, List.drop_succ_cons, List.cons_append, ← h1]
      · rw [List.take_succ_cons, List.mem_cons, not_or]
        exact ⟨fun e => hx e.symm, h2⟩
theorem nlAt_none {l : List UInt8} : nlAt l = none ↔ 10 ∉ l := by
  induction l with
  | nil => simp [nlAt]
  | cons x xs ih =>
    unfold nlAt
    split
    · rename_i hx
      simp [hx]
    · rename_i hx
      rw [Option.map_eq_none_iff, ih, List.mem_cons, not_or]
      exact ⟨fun h => ⟨fun e => hx e.symm, h⟩, fun h => h.2⟩

/-- A line that is an item's is its form again. -/
theorem parseI_back {l : List UInt8} {id : Id} {k : Nat} {d : List UInt8} (h : parseI l = some (id, k, d)) :
    l = artL ++ 32 :: (Lib.itoa (k : Int) ++ 32 :: (d ++ 32 :: textL id)) ∧ k ≤ 65536 ∧ d.length = 32 ∧ d.all hexB = true := by
  have hu := unsp_split 32 l []
  unfold parseI at h
  split at h
  · rename_i a b c e hs
    rw [hs] at hu
    split at h
    · rename_i hc
      obtain ⟨h1, h2, h3, h4, h5, h6⟩ := hc
      simp only [Option.some.injEq, Prod.mk.injEq] at h
      obtain ⟨rfl, hk, rfl⟩ := h
      obtain ⟨h7, h8, h9⟩ := numE_back h2 rfl
      have hkv : ((k : Nat) : Int) = (numE b 65536).1 := by omega
      rw [← hkv] at h7 h9
      rw [textL_midL _ h6, ← h7, ← h1]
      refine ⟨?_, by omega, h5, h4⟩
      rw [List.nil_append] at hu
      exact hu.symm
    · cases h
  · cases h

/-- What is read as an item is its text. -/
theorem itemP_back {s : List UInt8} {a : Nat} {x : It} {b : Nat} (h : itemP s a = .ok (x, b)) :
    s.drop a = itL x ++ s.drop b ∧ b = a + itN x ∧ b ≤ s.length ∧ x.text.size ≤ 65536 := by
  unfold itemP at h
  split at h
  · cases h
  · rename_i n hn
    obtain ⟨e1, -, e3⟩ := nlAt_spec hn
    split at h
    · cases h
    · rename_i id k d hp
      obtain ⟨p1, p2, p3, -⟩ := parseI_back hp
      rw [List.length_drop] at e3
      simp only [] at h
      split at h
      · cases h
      · rename_i h1
        split at h
        · cases h
        · rename_i h2
          split at h
          · cases h
          · rename_i h3
            injection h with h
            injection h with hx hb
            have hz : x.text.size = k := by
              rw [← hx]
              show (((s.drop (a + n + 1)).take k).toArray).size = k
              simp only [List.size_toArray, List.length_take, List.length_drop]
              omega
            have hd : digT x = d := by
              rw [← hx]
              exact Classical.not_not.1 h3
            have hbl : bl x.text = (s.drop (a + n + 1)).take k := by rw [← hx]
            have hhead : headL x = (s.drop a).take n := by
              unfold headL
              rw [p1, hz, hd, show x.id = id by rw [← hx]]
            have hln : (headL x).length = n := by rw [hhead, List.length_take, List.length_drop]; omega
            have hN : itN x = n + k + 2 := by
              rw [← itL_len]
              unfold itL
              simp only [List.length_append, List.length_cons, List.length_nil, bl_length, hln, hz]
              omega
            have hlast : (s.drop (a + n + 1)).drop k = 10 :: s.drop b := by
              have hlt : a + n + 1 + k < s.length := by omega
              have h4 : s[a + n + 1 + k] = 10 := by
                have := Classical.not_not.1 h2
                rw [List.getD_eq_getElem?_getD, List.getElem?_eq_getElem hlt] at this
                exact this
              rw [List.drop_drop, List.drop_eq_getElem_cons hlt, h4, ← hb]
            refine ⟨?_, by omega, by omega, by omega⟩
            have e4 : (s.drop a).drop (n + 1) = bl x.text ++ (10 :: s.drop b) := by
              rw [← hlast, hbl, List.take_append_drop, List.drop_drop]
              rfl
            rw [e1, ← hhead, e4]
            unfold itL
            simp
theorem itemsP_back {s : List UInt8} : ∀ (n : Nat) {a : Nat} {l : List It} {b : Nat}, itemsP s n a = .ok (l, b) →
    s.drop a = l.flatMap itL ++ s.drop b ∧ b = a + sumN l ∧ l.length = n ∧ (0 < n → b ≤ s.length) ∧ ∀ x ∈ l, x.text.size ≤ 65536
  | 0, a, l, b, h => by
    unfold itemsP at h
    injection h with h
    injection h with h1 h2
    subst h1 h2
    simp [sumN]
  | n + 1, a, l, b, h => by
    unfold itemsP at h
    split at h
    · cases h
    · rename_i x c hx
      obtain ⟨a1, a2, a3, a4⟩ := itemP_back hx
      split at h
      · cases h
      · rename_i l2 b2 hl
        obtain ⟨b1, b2', b3, b4, b5⟩ := itemsP_back n hl
        injection h with h
        injection h with h1 h2
        subst h1 h2
        refine ⟨?_, ?_, by simp [b3], fun _ => ?_, ?_⟩
        · rw [a1, b1, List.flatMap_cons, List.append_assoc]
        · simp only [sumN, List.map_cons, List.sum_cons] at b2' ⊢
          omega
        · by_cases hn : 0 < n
          · exact b4 hn
          · obtain rfl : n = 0 := by omega
            obtain rfl : l2 = [] := List.eq_nil_of_length_eq_zero b3
            simp [sumN] at b2'
            omega
        · intro y hy
          rcases List.mem_cons.1 hy with rfl | hy
          · exact a4
          · exact b5 y hy
theorem firstP_back {s : List UInt8} {n a : Nat} (h : firstP s = .ok (n, a)) : s = firstL n ++ s.drop a ∧ a = (firstL n).length ∧ n ≤ 1000 ∧ a ≤ s.length := by
  unfold firstP at h
  split at h
  · cases h
  · rename_i k hk
    obtain ⟨e1, -, e3⟩ := nlAt_spec hk
    split at h
    · rename_i hc
      injection h with h
      injection h with h1 h2
      obtain ⟨h7, h8, h9⟩ := numE_back hc.2 rfl
      have hv : ((n : Nat) : Int) = (numE ((s.take k).drop 6) 1000).1 := by omega
      rw [← hv] at h7 h9
      have e2 : s.take k = [98, 97, 116, 99, 104, 32] ++ Lib.itoa (n : Int) := by
        rw [← hc.1, ← h7, List.take_append_drop]
      have hs : s = firstL n ++ s.drop a := by
        unfold firstL
        rw [← h2]
        rw [e2] at e1
        simpa using e1
      refine ⟨hs, ?_, by omega, by omega⟩
      have := congrArg List.length e2
      rw [List.length_take, Nat.min_eq_left (by omega), List.length_append] at this
      rw [firstL_len, ← h2, this]
      simp
      omega
    · cases h
/-- A text that is read whole is the text of its items. -/
theorem unpackP_back {s : List UInt8} {l : List It} (h : unpackP s = .ok l) : s = batL l ∧ l.length ≤ 1000 ∧ s.length ≤ 4194304 ∧ ∀ x ∈ l, x.text.size ≤ 65536 := by
  unfold unpackP at h
  split at h
  · cases h
  · rename_i hs
    split at h
    · cases h
    · rename_i n a hf
      obtain ⟨f1, f2, f3, f4⟩ := firstP_back hf
      split at h
      · cases h
      · rename_i l2 b hi
        obtain ⟨i1, i2, i3, i4, i5⟩ := itemsP_back n hi
        split at h
        · cases h
        · rename_i u hl
          injection h with h
          subst h
          unfold lastP at hl
          split at hl
          · cases hl
          · rename_i k hk
            obtain ⟨k1, -, k3⟩ := nlAt_spec hk
            split at hl
            · cases hl
            · rename_i he
              split at hl
              · cases hl
              · rename_i hlt
                have he2 := Classical.not_not.1 he
                have hk3 : k = 3 := by
                  have := congrArg List.length he2
                  rw [List.length_take, Nat.min_eq_left (by omega)] at this
                  exact this
                have htail : s.drop b = endL := by
                  rw [k1, he2, hk3]
                  have : (s.drop b).drop 4 = [] := by
                    rw [List.drop_drop]
                    exact List.drop_eq_nil_of_le (by omega)
                  show [101, 110, 100] ++ 10 :: (s.drop b).drop 4 = endL
                  rw [this]
                  rfl
                refine ⟨?_, by omega, by omega, i5⟩
                unfold batL
                rw [i3, ← htail, ← i1]
                exact f1
end Go.Proofs.YtecalodcbkljoaaGreatDoor
