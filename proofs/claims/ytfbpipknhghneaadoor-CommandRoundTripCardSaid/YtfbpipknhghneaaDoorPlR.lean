/- A command's line, printed and parsed: plain laws. -/
import Derived.Test.YtfbpipknhghneaaDoorDec
import Derived.Test.YtfbpipknhghneaaDoorDecL30
import Derived.Test.YtfbpipknhghneaaDoorPlS
import Derived.Test.YtfbpipknhghneaaDoorEqC
namespace Go.Proofs.YtfbpipknhghneaaDoor
open Go.RowKit
/-! ### identities -/
theorem hexB_digC (b : UInt8) : (hexB (digC (b.toNat / 16)) && hexB (digC (b.toNat % 16)) && pairV (digC (b.toNat / 16)) (digC (b.toNat % 16)) == b) = true :=
  byte_all (p := fun b => hexB (digC (b.toNat / 16)) && hexB (digC (b.toNat % 16)) && pairV (digC (b.toNat / 16)) (digC (b.toNat % 16)) == b) (by decide +kernel) b
theorem unhex_hex : ∀ l : List UInt8, unhexL (hexL l) = l
  | [] => rfl
  | b :: r => by
    have h := hexB_digC b
    simp only [Bool.and_eq_true, beq_iff_eq] at h
    have e : hexL (b :: r) = digC (b.toNat / 16) :: digC (b.toNat % 16) :: hexL r := rfl
    rw [e]
    unfold unhexL
    rw [h.2, unhex_hex r]
theorem hexL_hex (l : List UInt8) : (hexL l).all hexB = true := by
  rw [List.all_eq_true]
  intro c hc
  unfold hexL at hc
  obtain ⟨b, _, hb⟩ := List.mem_flatMap.1 hc
  have h := hexB_digC b
  simp only [Bool.and_eq_true] at h
  unfold hexC at hb
  simp only [List.mem_cons, List.not_mem_nil, or_false] at hb
  rcases hb with rfl | rfl
  · exact h.1.1
  · exact h.1.2
theorem textL_mid (x : Id) : ((textL x).drop 1).take 64 = hexL x.1 := by
  unfold textL
  rw [List.append_assoc, List.singleton_append, List.drop_succ_cons, List.drop_zero]
  have : (hexL x.1).length = 64 := (digs x).2
  rw [← this, List.take_left]
theorem textL_end (x : Id) : (textL x).drop 65 = [64, 104, 97, 115, 104, 62] := by
  unfold textL
  have : ([60] ++ hexL x.1).length = 65 := by rw [List.length_append, show (hexL x.1).length = 64 from (digs x).2]; rfl
  rw [← this, List.drop_left]
theorem midL_text (x : Id) : midL (textL x) = x := by
  unfold midL
  rw [textL_mid, unhex_hex]
  unfold toId
  rw [dif_pos x.2]
theorem identB_text (x : Id) : identB (textL x) = true := by
  unfold identB
  rw [textL_len, decide_eq_true rfl, Bool.true_and, List.all_eq_true]
  intro i hi
  have hi71 := List.mem_range.1 hi
  unfold okAt
  by_cases h0 : i < 1
  · obtain rfl : i = 0 := by omega
    rfl
  · rw [if_neg h0]
    by_cases h65 : i < 65
    · rw [if_pos h65]
      have hl : (hexL x.1).length = 64 := (digs x).2
      have h2 : ((textL x).drop 1)[i - 1]? = (hexL x.1)[i - 1]? := by rw [← textL_mid, List.getElem?_take_of_lt (by omega)]
      rw [List.getElem?_drop, show 1 + (i - 1) = i by omega, List.getElem?_eq_getElem (show i - 1 < (hexL x.1).length by omega)] at h2
      rw [List.getD_eq_getElem?_getD, h2, Option.getD_some]
      exact List.all_eq_true.1 (hexL_hex x.1) _ (List.getElem_mem _)
    · rw [if_neg h65]
      have h2 : ((textL x).drop 65)[i - 65]? = [64, 104, 97, 115, 104, 62][i - 65]? := by rw [textL_end]
      rw [List.getElem?_drop, show 65 + (i - 65) = i by omega] at h2
      rw [List.getD_eq_getElem?_getD, h2]
      obtain ⟨j, rfl⟩ : ∃ j, i = 65 + j := ⟨i - 65, by omega⟩
      rw [Nat.add_sub_cancel_left]
      have hj : j < 6 := by omega
      have hall : (List.range 6).all (fun j => decide (([64, 104, 97, 115, 104, 62][j]?.getD (0 : UInt8)).toNat = [64, 104, 97, 115, 104, 62].getD j 0)) = true := by decide
      exact List.all_eq_true.1 hall j (List.mem_range.2 hj)
/-! ### words without spaces -/
def wordB (c : UInt8) : Bool := !(c == 32) && !(c == 10) && !(c == 13)
theorem word_of {p : UInt8 → Bool} (hp : (List.range 256).all (fun n => !p (UInt8.ofNat n) || wordB (UInt8.ofNat n)) = true) (l : List UInt8) (h : l.all p = true) : l.all wordB = true := by
  rw [List.all_eq_true] at h ⊢
  intro x hx
  have h2 := byte_all (p := fun c => !p c || wordB c) hp x
  rw [h x hx] at h2
  simpa using h2
theorem hex_word (l : List UInt8) (h : l.all hexB = true) : l.all wordB = true := word_of (by decide +kernel) l h
theorem dig_word (l : List UInt8) (h : l.all digB = true) : l.all wordB = true := word_of (by decide +kernel) l h
theorem per_word (l : List UInt8) (h : l.all perB = true) : l.all wordB = true := word_of (by decide +kernel) l h
theorem text_word (x : Id) : (textL x).all wordB = true := by
  unfold textL
  rw [List.all_append, List.all_append, hex_word _ (hexL_hex x.1)]
  decide
theorem itoa_word (n : Int) (h : 0 ≤ n) : (Lib.itoa n).all wordB = true := by
  obtain ⟨u, rfl⟩ : ∃ u : Nat, n = (u : Int) := ⟨n.toNat, by omega⟩
  rw [Lib.itoa_nonneg]
  exact dig_word _ (dec_all u)
theorem site_word (l : List UInt8) (h : siteB l = true) : l.all wordB = true ∧ l.length ≤ 30 := by
  unfold siteB at h
  simp only [Bool.and_eq_true, decide_eq_true_eq] at h
  exact ⟨per_word l h.1.2, h.1.1.2⟩
theorem wordB_no (l : List UInt8) (h : l.all wordB = true) : 32 ∉ l ∧ 10 ∉ l ∧ 13 ∉ l := by
  rw [List.all_eq_true] at h
  refine ⟨fun hm => ?_, fun hm => ?_, fun hm => ?_⟩ <;> exact absurd (h _ hm) (by decide)
theorem splitGo_word (l r : List UInt8) (h : 32 ∉ l) : ∀ cur, splitGo 32 cur (l ++ 32 :: r) = (cur ++ l) :: splitGo 32 [] r := by
  induction l with
  | nil => intro cur; simp [splitGo]
  | cons x xs ih =>
    intro cur
    have hx : x ≠ 32 := fun e => h (by rw [e]; exact List.mem_cons_self)
    rw [List.cons_append, splitGo, if_neg hx, ih (fun hm => h (List.mem_cons_of_mem _ hm))]
    simp
theorem splitGo_one (l : List UInt8) (h : 32 ∉ l) : ∀ cur, splitGo 32 cur l = [cur ++ l] := by
  induction l with
  | nil => intro cur; simp [splitGo]
  | cons x xs ih =>
    intro cur
    have hx : x ≠ 32 := fun e => h (by rw [e]; exact List.mem_cons_self)
    rw [splitGo, if_neg hx, ih (fun hm => h (List.mem_cons_of_mem _ hm))]
    simp
/-- The pieces of a line are its words. -/
theorem split_join : ∀ (ws : List (List UInt8)), ws ≠ [] → (∀ w ∈ ws, 32 ∉ w) → splitGo 32 [] (Lib.join ws [32]) = ws := by
  intro ws
  induction ws with
  | nil => intro h; exact absurd rfl h
  | cons w r ih =>
    intro _ hw
    cases r with
    | nil => rw [Lib.join_one, splitGo_one w (hw w List.mem_cons_self)]; rfl
    | cons v r =>
      have e : Lib.join (w :: v :: r) [32] = w ++ 32 :: Lib.join (v :: r) [32] := by
        rw [Lib.join_cons, Lib.join_cons]
        unfold Lib.joinTail
        simp
      rw [e, splitGo_word w _ (hw w List.mem_cons_self), ih (by simp) (fun x hx => hw x (List.mem_cons_of_mem _ hx))]
      rfl
theorem join_mem (ws : List (List UInt8)) (c : UInt8) (hc : c ≠ 32) (h : ∀ w ∈ ws, c ∉ w) : c ∉ Lib.join ws [32] := by
  induction ws with
  | nil => simp [Lib.join_nil]
  | cons w r ih =>
    cases r with
    | nil => rw [Lib.join_one]; exact h w List.mem_cons_self
    | cons v r =>
      have e : Lib.join (w :: v :: r) [32] = w ++ 32 :: Lib.join (v :: r) [32] := by
        rw [Lib.join_cons, Lib.join_cons]
        unfold Lib.joinTail
        simp
      rw [e]
      intro hm
      rcases List.mem_append.1 hm with h1 | h1
      · exact h w List.mem_cons_self h1
      · rcases List.mem_cons.1 h1 with h2 | h2
        · exact hc h2
        · exact ih (fun x hx => h x (List.mem_cons_of_mem _ hx)) h2
/-! ### numbers -/
theorem numR_itoa (n least most : Int) (h1 : least ≤ n) (h2 : n ≤ most) (h0 : 0 ≤ n) : numR (itoaB n) least most = (n, true) := by
  obtain ⟨u, rfl⟩ : ∃ u : Nat, n = (u : Int) := ⟨n.toNat, by omega⟩
  have e : numE (bl (itoaB u)) most = ((u : Int), 0) := by
    show numE (Lib.itoa u) most = _
    rw [Lib.itoa_nonneg, numE_yes _ _ (dec_valid u), dec_val, if_pos h2]
  unfold numR
  rw [e, decide_eq_true h1]
  rfl
theorem idR_text (x : Id) (h : x ≠ zI) : idR (textS x) = (x, true) := by
  unfold idR
  rw [show bl (textS x) = textL x from rfl, if_pos (identB_text x), midL_text, decide_eq_false h]
  rfl
theorem itoa_len (n : Int) (h0 : 0 ≤ n) (h : n ≤ 99999) : (Lib.itoa n).length ≤ 5 := by
  obtain ⟨u, rfl⟩ : ∃ u : Nat, n = (u : Int) := ⟨n.toNat, by omega⟩
  rw [Lib.itoa_nonneg]
  have key : ∀ (k u : Nat), u < 10 ^ (k + 1) → (Lib.decDigits u).length ≤ k + 1 := by
    intro k
    induction k with
    | zero => intro u hu; rw [Lib.decDigits, dif_pos (by omega)]; simp
    | succ k ih =>
      intro u hu
      rw [Lib.decDigits]
      split
      · simp
      · rw [List.length_append, List.length_singleton]
        have := ih (u / 10) (by rw [Nat.pow_succ] at hu; omega)
        omega
  exact key 4 u (by omega)
/-! ### parse -/
theorem stepP_skip (fl a : Int) (st : PSt) (h : (bits BinOp.and .i64 fl a == 0) = true) : stepP fl a st = st := by
  unfold stepP
  rw [if_pos h]
theorem stepP_read (fl a : Int) (x : ByteArray) (r : List ByteArray) (c c' : Cm) (h : (bits BinOp.and .i64 fl a == 0) = false) (hr : readF a x c = (c', true)) : stepP fl a (true, x :: r, c) = (true, r, c') := by
  unfold stepP
  rw [if_neg (by rw [h]; decide)]
  show ((readF a x c).2, r, (readF a x c).1) = _
  rw [hr]
end Go.Proofs.YtfbpipknhghneaaDoor
