/- Plain words: the printed text of a valid list parses as the list. -/
import Derived.Test.YtcchpenaiomeeaaWords
namespace Go.Proofs.Ytcchpenaiomeeaa
open Go.RowKit
theorem hexB_digC (b : UInt8) : (hexB (digC (b.toNat / 16)) && hexB (digC (b.toNat % 16)) && pairV (digC (b.toNat / 16)) (digC (b.toNat % 16)) == b) = true :=
  byte_all (p := fun b => hexB (digC (b.toNat / 16)) && hexB (digC (b.toNat % 16)) && pairV (digC (b.toNat / 16)) (digC (b.toNat % 16)) == b) (by decide +kernel) b
theorem unhex_hex : ∀ l : List UInt8, unhexL (hexL l) = l
  | [] => rfl
  | b :: r => by
    have h := hexB_digC b
    simp only [Bool.and_eq_true, beq_iff_eq] at h
    have e : hexL (b :: r) = digC (b.toNat / 16) :: digC (b.toNat % 16) :: hexL r := rfl
    rw [e]
    unfold unhexL
    rw [h.2, unhex_hex r]
theorem hexL_hex (l : List UInt8) : (hexL l).all hexB = true := by
  rw [List.all_eq_true]
  intro c hc
  unfold hexL at hc
  obtain ⟨b, _, hb⟩ := List.mem_flatMap.1 hc
  have h := hexB_digC b
  simp only [Bool.and_eq_true] at h
  unfold hexC at hb
  simp only [List.mem_cons, List.not_mem_nil, or_false] at hb
  rcases hb with rfl | rfl
  · exact h.1.1
  · exact h.1.2
theorem textL_mid (x : Id) : ((textL x).drop 1).take 64 = hexL x.1 := by
  unfold textL
  rw [List.append_assoc, List.singleton_append, List.drop_succ_cons, List.drop_zero]
  have : (hexL x.1).length = 64 := (digs x).2
  rw [← this, List.take_left]
theorem textL_end (x : Id) : (textL x).drop 65 = [64, 104, 97, 115, 104, 62] := by
  unfold textL
  have : ([60] ++ hexL x.1).length = 65 := by rw [List.length_append, show (hexL x.1).length = 64 from (digs x).2]; rfl
  rw [← this, List.drop_left]
theorem midL_text (x : Id) : midL (textL x) = x := by
  unfold midL
  rw [textL_mid, unhex_hex]
  unfold toId
  rw [dif_pos x.2]
theorem identB_text (x : Id) : identB (textL x) = true := by
  have hz : (textS x).size = 71 := textS_size x
  refine AllOk.mk71 (s := textS x) hz rfl (textL_end x) (fun j h hj => ?_)
  have hm : ((textL x).drop 1).take 64 = hexL x.1 := textL_mid x
  have hl : (hexL x.1).length = 64 := (digs x).2
  have e : (textS x)[1 + j]'h = (hexL x.1)[j]'(by omega) := by
    have h2 : ((textL x).drop 1)[j]? = (hexL x.1)[j]? := by
      rw [← hm, List.getElem?_take_of_lt hj]
    rw [List.getElem?_drop, List.getElem?_eq_getElem (by rw [textL_len]; omega), List.getElem?_eq_getElem (by omega)] at h2
    exact Option.some.inj h2
  rw [e]
  exact List.all_eq_true.1 (hexL_hex x.1) _ (List.getElem_mem _)
theorem hex_nbl (c : UInt8) (h : hexB c = true) : nbl c = true := by
  have := byte_all (p := fun c => !hexB c || nbl c) (by decide +kernel) c
  rw [h] at this
  simpa using this
theorem textL_nbl (x : Id) : (textL x).all nbl = true := by
  unfold textL
  rw [List.all_append, List.all_append]
  have : (hexL x.1).all nbl = true := by
    rw [List.all_eq_true]
    exact fun c hc => hex_nbl c (List.all_eq_true.1 (hexL_hex x.1) c hc)
  rw [this]
  decide
theorem textL_ne (x : Id) : textL x ≠ [] := by
  intro e
  have := textL_len x
  rw [e] at this
  cases this
theorem run_print (y : Id) : ∀ (n : Nat) (l : List Id), l.length = n → runW (printL (l ++ [y])) = (l.map textL, textL y)
  | 0, [], _ => by
    rw [List.nil_append, printL_one]
    unfold runW
    rw [foldW_nonblank _ _ _ (textL_nbl y)]
    rfl
  | n + 1, l, h => by
    obtain ⟨l', x, rfl⟩ : ∃ l' x, l = l' ++ [x] := by
      rcases List.eq_nil_or_concat l with rfl | ⟨l', x, rfl⟩
      · cases h
      · exact ⟨l', x, List.concat_eq_append⟩
    have ih := run_print x n l' (by simpa using h)
    rw [printL_snoc _ y (by simp)]
    unfold runW at *
    rw [List.foldl_append, List.foldl_append, ih]
    have e : [32].foldl stepW (l'.map textL, textL x) = (l'.map textL ++ [textL x], []) := by
      rw [List.foldl_cons, List.foldl_nil]
      unfold stepW
      rw [if_pos (by decide), if_neg (textL_ne x)]
    rw [e, foldW_nonblank _ _ _ (textL_nbl y), List.map_append]
    rfl
theorem words_print (l : List Id) : finW (runW (printL l)) = l.map textL := by
  rcases List.eq_nil_or_concat l with rfl | ⟨l', y, rfl⟩
  · rfl
  · rw [List.concat_eq_append, run_print y _ l' rfl]
    unfold finW
    rw [if_neg (textL_ne y), List.map_append]
    rfl
theorem map_mid_text (l : List Id) : (l.map textL).map midL = l := by
  rw [List.map_map]
  conv => rhs; rw [← List.map_id l]
  exact List.map_congr_left fun x _ => midL_text x
theorem parse_good {l : List UInt8} {xs : List Id} (hc : chk xs = 0) (hw : finW (runW l) = xs.map textL) : parseL l = (xs, 0, 0) := by
  have h20 := chk_len xs hc
  have hL : chkL [] xs = 0 := by unfold chk at hc; rwa [if_neg (by omega)] at hc
  have := parse_words (l.length + 1) l 0 [] (by omega) (by
    rw [hw]
    intro t ht
    obtain ⟨x, _, rfl⟩ := List.mem_map.1 ht
    exact identB_text x) (by rw [hw, map_mid_text]; simpa using h20) (by rw [hw, map_mid_text]; exact hL)
  unfold parseL
  rw [this, hw, map_mid_text, List.nil_append]
theorem parse_print {xs : List Id} (hc : chk xs = 0) : parseL (printL xs) = (xs, 0, 0) := parse_good hc (words_print xs)
theorem parse_more {xs : List Id} (hc : chk xs = 0) {b : List UInt8} (h : Ins (printL xs) b) : parseL (32 :: (b ++ [9])) = (xs, 0, 0) :=
  parse_good hc (by rw [fin_pad, ← h.run, words_print])
end Go.Proofs.Ytcchpenaiomeeaa
