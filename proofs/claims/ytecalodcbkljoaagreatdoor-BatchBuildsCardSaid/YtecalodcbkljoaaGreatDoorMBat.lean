/- Words without spaces, identities printed and read: plain laws. The text of a batch as a plain function, and how it is read. -/
import Derived.Test.YtecalodcbkljoaaGreatDoorMDecL
import Derived.Test.YtecalodcbkljoaaGreatDoorMMid
import Derived.Test.YtecalodcbkljoaaGreatDoorMDigits
import Derived.Test.YtecalodcbkljoaaGreatDoorMSha
namespace Go.Proofs.YtecalodcbkljoaaGreatDoor
open Go.RowKit
/-- The pieces of bytes between a byte. -/
def splitGo (c : UInt8) : List UInt8 → List UInt8 → List (List UInt8)
  | cur, [] => [cur]
  | cur, x :: xs => if x = c then cur :: splitGo c [] xs else splitGo c (cur ++ [x]) xs
theorem textL_len (x : Id) : (textL x).length = 71 := by
  unfold textL
  simp [hexL_length, x.2]
theorem hexB_digC (b : UInt8) : (hexB (digC (b.toNat / 16)) && hexB (digC (b.toNat % 16)) && pairV (digC (b.toNat / 16)) (digC (b.toNat % 16)) == b) = true :=
  byte_all (p := fun b => hexB (digC (b.toNat / 16)) && hexB (digC (b.toNat % 16)) && pairV (digC (b.toNat / 16)) (digC (b.toNat % 16)) == b) (by decide +kernel) b
theorem unhex_hex : ∀ l : List UInt8, unhexL (hexL l) = l
  | [] => rfl
  | b :: r => by
    have h := hexB_digC b
    simp only [Bool.and_eq_true, beq_iff_eq] at h
    have e : hexL (b :: r) = digC (b.toNat / 16) :: digC (b.toNat % 16) :: hexL r := rfl
    rw [e]
    unfold unhexL
    rw [h.2, unhex_hex r]
theorem hexL_hex (l : List UInt8) : (hexL l).all hexB = true := by
  rw [List.all_eq_true]
  intro c hc
  unfold hexL at hc
  obtain ⟨b, _, hb⟩ := List.mem_flatMap.1 hc
  have h := hexB_digC b
  simp only [Bool.and_eq_true] at h
  unfold hexC at hb
  simp only [List.mem_cons, List.not_mem_nil, or_false] at hb
  rcases hb with rfl | rfl
  · exact h.1.1
  · exact h.1.2
theorem textL_mid (x : Id) : ((textL x).drop 1).take 64 = hexL x.1 := by
  unfold textL
  rw [List.append_assoc, List.singleton_append, List.drop_succ_cons, List.drop_zero]
  have : (hexL x.1).length = 64 := (digs x).2
  rw [← this, List.take_left]
theorem textL_end (x : Id) : (textL x).drop 65 = [64, 104, 97, 115, 104, 62] := by
  unfold textL
  have : ([60] ++ hexL x.1).length = 65 := by rw [List.length_append, show (hexL x.1).length = 64 from (digs x).2]; rfl
  rw [← this, List.drop_left]
theorem midL_text (x : Id) : midL (textL x) = x := by
  unfold midL
  rw [textL_mid, unhex_hex]
  unfold toId
  rw [dif_pos x.2]
theorem identB_text (x : Id) : identB (textL x) = true := by
  unfold identB
  rw [textL_len, decide_eq_true rfl, Bool.true_and, List.all_eq_true]
  intro i hi
  have hi71 := List.mem_range.1 hi
  unfold okAt
  by_cases h0 : i < 1
  · obtain rfl : i = 0 := by omega
    rfl
  · rw [if_neg h0]
    by_cases h65 : i < 65
    · rw [if_pos h65]
      have hl : (hexL x.1).length = 64 := (digs x).2
      have h2 : ((textL x).drop 1)[i - 1]? = (hexL x.1)[i - 1]? := by rw [← textL_mid, List.getElem?_take_of_lt (by omega)]
      rw [List.getElem?_drop, show 1 + (i - 1) = i by omega, List.getElem?_eq_getElem (show i - 1 < (hexL x.1).length by omega)] at h2
      rw [List.getD_eq_getElem?_getD, h2, Option.getD_some]
      exact List.all_eq_true.1 (hexL_hex x.1) _ (List.getElem_mem _)
    · rw [if_neg h65]
      have h2 : ((textL x).drop 65)[i - 65]? = [64, 104, 97, 115, 104, 62][i - 65]? := by rw [textL_end]
      rw [List.getElem?_drop, show 65 + (i - 65) = i by omega] at h2
      rw [List.getD_eq_getElem?_getD, h2]
      obtain ⟨j, rfl⟩ : ∃ j, i = 65 + j := ⟨i - 65, by omega⟩
      rw [Nat.add_sub_cancel_left]
      have hj : j < 6 := by omega
      have hall : (List.range 6).all (fun j => decide (([64, 104, 97, 115, 104, 62][j]?.getD (0 : UInt8)).toNat = [64, 104, 97, 115, 104, 62].getD j 0)) = true := by decide
      exact List.all_eq_true.1 hall j (List.mem_range.2 hj)
/-! ### words without spaces -/
def wordB (c : UInt8) : Bool := !(c == 32) && !(c == 10) && !(c == 13)
theorem word_of {p : UInt8 → Bool} (hp : (List.range 256).all (fun n => !p (UInt8.ofNat n) || wordB (UInt8.ofNat n)) = true) (l : List UInt8) (h : l.all p = true) : l.all wordB = true := by
  rw [List.all_eq_true] at h ⊢
  intro x hx
  have h2 := byte_all (p := fun c => !p c || wordB c) hp x
  rw [h x hx] at h2
  simpa using h2
theorem hex_word (l : List UInt8) (h : l.all hexB = true) : l.all wordB = true := word_of (by decide +kernel) l h
theorem dig_word (l : List UInt8) (h : l.all digB = true) : l.all wordB = true := word_of (by decide +kernel) l h
theorem text_word (x : Id) : (textL x).all wordB = true := by
  unfold textL
  rw [List.all_append, List.all_append, hex_word _ (hexL_hex x.1)]
  decide
theorem itoa_word (n : Int) (h : 0 ≤ n) : (Lib.itoa n).all wordB = true := by
  obtain ⟨u, rfl⟩ : ∃ u : Nat, n = (u : Int) := ⟨n.toNat, by omega⟩
  rw [Lib.itoa_nonneg]
  exact dig_word _ (dec_all u)
theorem wordB_no (l : List UInt8) (h : l.all wordB = true) : 32 ∉ l ∧ 10 ∉ l ∧ 13 ∉ l := by
  rw [List.all_eq_true] at h
  refine ⟨fun hm => ?_, fun hm => ?_, fun hm => ?_⟩ <;> exact absurd (h _ hm) (by decide)
theorem splitGo_word (l r : List UInt8) (h : 32 ∉ l) : ∀ cur, splitGo 32 cur (l ++ 32 :: r) = (cur ++ l) :: splitGo 32 [] r := by
  induction l with
  | nil => intro cur; simp [splitGo]
  | cons x xs ih =>
    intro cur
    have hx : x ≠ 32 := fun e => h (by rw [e]; exact List.mem_cons_self)
    rw [List.cons_append, splitGo, if_neg hx, ih (fun hm => h (List.mem_cons_of_mem _ hm))]
    simp
theorem splitGo_one (l : List UInt8) (h : 32 ∉ l) : ∀ cur, splitGo 32 cur l = [cur ++ l] := by
  induction l with
  | nil => intro cur; simp [splitGo]
  | cons x xs ih =>
    intro cur
    have hx : x ≠ 32 := fun e => h (by rw [e]; exact List.mem_cons_self)
    rw [splitGo, if_neg hx, ih (fun hm => h (List.mem_cons_of_mem _ hm))]
    simp
end Go.Proofs.YtecalodcbkljoaaGreatDoor
namespace Go.Proofs.YtecalodcbkljoaaGreatDoor
open Go.RowKit


/-- The digest of an item. -/
def digT (x : It) : List UInt8 := hexL ((sha (textL x.id ++ 10 :: bl x.text)).take 16)
def artL : List UInt8 := [97, 114, 116, 105, 99, 108, 101]
/-- The line of an item, without its line feed. -/
def headL (x : It) : List UInt8 := artL ++ 32 :: (Lib.itoa (x.text.size : Int) ++ 32 :: (digT x ++ 32 :: textL x.id))
def itL (x : It) : List UInt8 := headL x ++ 10 :: (bl x.text ++ [10])
def firstL (n : Nat) : List UInt8 := [98, 97, 116, 99, 104, 32] ++ (Lib.itoa (n : Int) ++ [10])
def endL : List UInt8 := [101, 110, 100, 10]
/-- The text of a batch. -/
def batL (l : List It) : List UInt8 := firstL l.length ++ (l.flatMap itL ++ endL)

/-- The number of bytes of an item. -/
def itN (x : It) : Nat := (Lib.itoa (x.text.size : Int)).length + x.text.size + 115
def sizeN (k : Nat) (b : Nat) : Nat := (Lib.itoa (k : Int)).length + 7 + b + 4
theorem digT_len (x : It) : (digT x).length = 32 := by
  unfold digT
  rw [hexL_length, List.length_take, sha_length]
  rfl
theorem itL_len (x : It) : (itL x).length = itN x := by
  unfold itL headL itN artL
  simp only [List.length_append, List.length_cons, List.length_nil, digT_len, textL_len, bl_length]
  omega
theorem firstL_len (n : Nat) : (firstL n).length = (Lib.itoa (n : Int)).length + 7 := by
  unfold firstL
  simp only [List.length_append, List.length_cons, List.length_nil]
  omega
def sumN (l : List It) : Nat := (l.map itN).sum
theorem flat_len (l : List It) : (l.flatMap itL).length = sumN l := by
  induction l with
  | nil => rfl
  | cons x r ih =>
    rw [List.flatMap_cons, List.length_append, ih, itL_len]
    simp [sumN]
theorem batL_len (l : List It) : (batL l).length = sizeN l.length (sumN l) := by
  unfold batL sizeN
  rw [List.length_append, List.length_append, firstL_len, flat_len]
  simp [endL]
  omega

/-- What check returns. -/
def chkB (l : List It) : Nat × Int :=
  if 1000 < l.length then (0, 9) else if l.any (fun x => decide (65536 < x.text.size)) then (0, 5)
  else if 4194304 < sizeN l.length (sumN l) then (0, 5) else (sizeN l.length (sumN l), 0)

/-- The offset of the first line feed. -/
def nlAt : List UInt8 → Option Nat
  | [] => none
  | c :: r => if c = 10 then some 0 else (nlAt r).map (· + 1)
theorem nlAt_app (l r : List UInt8) (h : 10 ∉ l) : nlAt (l ++ 10 :: r) = some l.length := by
  induction l with
  | nil => simp [nlAt]
  | cons x xs ih =>
    have hx : x ≠ 10 := fun e => h (by rw [e]; exact List.mem_cons_self)
    rw [List.cons_append, nlAt, if_neg hx, ih (fun hm => h (List.mem_cons_of_mem _ hm))]
    simp
theorem nlAt_some {l : List UInt8} {n : Nat} (h : nlAt l = some n) : n < l.length := by
  induction l generalizing n with
  | nil => cases h
  | cons x xs ih =>
    unfold nlAt at h
    split at h
    · cases h; simp
    · obtain ⟨m, hm, rfl⟩ := Option.map_eq_some_iff.1 h
      have := ih hm
      simp
      omega

/-- What a line of an item says: the identity, the length and the digest. -/
def parseI (l : List UInt8) : Option (Id × Nat × List UInt8) :=
  match splitGo 32 [] l with
  | [a, b, c, d] =>
    if a = artL ∧ (numE b 65536).2 = 0 ∧ c.length % 2 = 0 ∧ c.all hexB = true ∧ c.length = 32 ∧ identB d = true then some (midL d, (numE b 65536).1.toNat, c) else none
  | _ => none
/-- An item at an offset: the item and the offset behind it, or the kind of an error and its offset. -/
def itemP (s : List UInt8) (at_ : Nat) : Except (Int × Nat) (It × Nat) :=
  match nlAt (s.drop at_) with
  | none => .error (23, s.length)
  | some n =>
    match parseI ((s.drop at_).take n) with
    | none => .error (3, at_)
    | some (id, k, d) =>
      let c := at_ + n + 1
      if s.length ≤ c + k then .error (23, s.length)
      else if s.getD (c + k) 0 ≠ 10 then .error (3, c + k)
      else
        let x : It := ⟨id, ⟨((s.drop c).take k).toArray⟩⟩
        if digT x ≠ d then .error (22, at_) else .ok (x, c + k + 1)
/-- The number of items that the first line tells, and the offset behind it. -/
def firstP (s : List UInt8) : Except (Int × Nat) (Nat × Nat) :=
  match nlAt s with
  | none => .error (23, s.length)
  | some n =>
    if (s.take n).take 6 = [98, 97, 116, 99, 104, 32] ∧ (numE ((s.take n).drop 6) 1000).2 = 0 then .ok ((numE ((s.take n).drop 6) 1000).1.toNat, n + 1) else .error (3, 0)
def itemsP (s : List UInt8) : Nat → Nat → Except (Int × Nat) (List It × Nat)
  | 0, a => .ok ([], a)
  | n + 1, a =>
    match itemP s a with
    | .error e => .error e
    | .ok (x, b) => match itemsP s n b with
      | .error e => .error e
      | .ok (l, c) => .ok (x :: l, c)
def lastP (s : List UInt8) (a : Nat) : Except (Int × Nat) Unit :=
  match nlAt (s.drop a) with
  | none => .error (23, s.length)
  | some n => if (s.drop a).take n ≠ [101, 110, 100] then .error (3, a) else if a + n + 1 < s.length then .error (5, a + n + 1) else .ok ()
def unpackP (s : List UInt8) : Except (Int × Nat) (List It) :=
  if 4194304 < s.length then .error (5, 4194304) else
  match firstP s with
  | .error e => .error e
  | .ok (n, a) => match itemsP s n a with
    | .error e => .error e
    | .ok (l, b) => match lastP s b with
      | .error e => .error e
      | .ok _ => .ok l

theorem artL_no : (32 : UInt8) ∉ artL := by decide
theorem split_head (x : It) : splitGo 32 [] (headL x) = [artL, Lib.itoa (x.text.size : Int), digT x, textL x.id] := by
  unfold headL
  rw [splitGo_word _ _ artL_no, splitGo_word _ _ (wordB_no _ (itoa_word _ (by omega))).1, splitGo_word _ _ (wordB_no (digT x) (hex_word _ (hexL_hex _))).1, splitGo_one _ (wordB_no _ (text_word _)).1]
  rfl
theorem parseI_head (x : It) (h : x.text.size ≤ 65536) : parseI (headL x) = some (x.id, x.text.size, digT x) := by
  unfold parseI
  rw [split_head]
  have e : numE (Lib.itoa (x.text.size : Int)) 65536 = ((x.text.size : Int), 0) := by
    rw [Lib.itoa_nonneg, numE_yes _ _ (dec_valid _), dec_val, if_pos (by omega)]
  have hl := digT_len x
  simp only []
  rw [e, if_pos ⟨True.intro, rfl, by rw [hl], hexL_hex _, hl, identB_text _⟩, midL_text]
  rfl
theorem head_no (x : It) : (10 : UInt8) ∉ headL x := by
  have h1 : (10 : UInt8) ∉ artL := by decide
  have h2 := (wordB_no _ (itoa_word (x.text.size : Int) (by omega))).2.1
  have h3 : (10 : UInt8) ∉ digT x := (wordB_no _ (hex_word _ (hexL_hex _))).2.1
  have h4 := (wordB_no _ (text_word x.id)).2.1
  unfold headL
  simp only [List.mem_append, List.mem_cons, not_or]
  exact ⟨h1, by decide, h2, by decide, h3, by decide, h4⟩
/-- An item is read as it was printed. -/
theorem itemP_itL (p r : List UInt8) (x : It) (h : x.text.size ≤ 65536) : itemP (p ++ (itL x ++ r)) p.length = .ok (x, p.length + itN x) := by
  have hd : (p ++ (itL x ++ r)).drop p.length = headL x ++ 10 :: (bl x.text ++ 10 :: r) := by
    rw [List.drop_left]
    unfold itL
    simp
  unfold itemP
  rw [hd, nlAt_app _ _ (head_no x)]
  simp only []
  rw [List.take_left, parseI_head x h]
  simp only []
  have hlen : (p ++ (itL x ++ r)).length = p.length + itN x + r.length := by
    rw [List.length_append, List.length_append, itL_len]
    omega
  have hn : itN x = (headL x).length + x.text.size + 2 := by
    rw [← itL_len]
    unfold itL
    simp only [List.length_append, List.length_cons, List.length_nil, bl_length]
    omega
  rw [if_neg (by omega)]
  have hd2 : (p ++ (itL x ++ r)).drop (p.length + (headL x).length + 1) = bl x.text ++ 10 :: r := by
    rw [show p.length + (headL x).length + 1 = p.length + ((headL x).length + 1) by omega, ← List.drop_drop, hd, ← List.drop_drop, List.drop_left]
    rfl
  have hg : (p ++ (itL x ++ r)).getD (p.length + (headL x).length + 1 + x.text.size) 0 = 10 := by
    have h1 : ((p ++ (itL x ++ r)).drop (p.length + (headL x).length + 1))[x.text.size]? = some 10 := by
      rw [hd2, List.getElem?_append_right (by rw [bl_length]; exact Nat.le_refl _), bl_length]
      simp
    rw [List.getElem?_drop] at h1
    rw [List.getD_eq_getElem?_getD, h1]
    rfl
  rw [if_neg (by rw [hg]; simp), hd2]
  have ht : (bl x.text ++ 10 :: r).take x.text.size = bl x.text := by
    rw [← bl_length x.text, List.take_left]
  rw [ht, show (⟨x.id, ⟨(bl x.text).toArray⟩⟩ : It) = x from rfl, if_neg (by simp), hn]
  congr 2
  omega
theorem itemsP_all (r : List UInt8) : ∀ (l : List It) (p : List UInt8), (∀ x ∈ l, x.text.size ≤ 65536) → itemsP (p ++ (l.flatMap itL ++ r)) l.length p.length = .ok (l, p.length + sumN l) := by
  intro l
  induction l with
  | nil => intro p _; rfl
  | cons x xs ih =>
    intro p h
    rw [List.flatMap_cons, List.append_assoc, List.length_cons, itemsP]
    rw [itemP_itL p _ x (h x List.mem_cons_self)]
    simp only []
    have e : p ++ (itL x ++ (xs.flatMap itL ++ r)) = (p ++ itL x) ++ (xs.flatMap itL ++ r) := by simp
    have := ih (p ++ itL x) (fun y hy => h y (List.mem_cons_of_mem _ hy))
    rw [← e, List.length_append, itL_len] at this
    rw [this]
    simp only [sumN, List.map_cons, List.sum_cons]
    congr 2
    omega
/-- A batch is read as it was printed. -/
theorem unpackP_batL (l : List It) (h : ∀ x ∈ l, x.text.size ≤ 65536) (hn : l.length ≤ 1000) (hs : (batL l).length ≤ 4194304) : unpackP (batL l) = .ok l := by
  have hb : batL l = firstL l.length ++ (l.flatMap itL ++ endL) := rfl
  have hno : (10 : UInt8) ∉ ([98, 97, 116, 99, 104, 32] ++ Lib.itoa (l.length : Int)) := by
    have h2 := (wordB_no _ (itoa_word (l.length : Int) (by omega))).2.1
    rw [List.mem_append, not_or]
    exact ⟨by decide, h2⟩
  have hf : firstP (batL l) = .ok (l.length, (firstL l.length).length) := by
    have e : batL l = ([98, 97, 116, 99, 104, 32] ++ Lib.itoa (l.length : Int)) ++ 10 :: (l.flatMap itL ++ endL) := by
      unfold batL firstL
      simp
    unfold firstP
    rw [e, nlAt_app _ _ hno]
    simp only []
    rw [List.take_left]
    have e2 : ([98, 97, 116, 99, 104, 32] ++ Lib.itoa (l.length : Int)).take 6 = [98, 97, 116, 99, 104, 32] := by simp
    have e3 : ([98, 97, 116, 99, 104, 32] ++ Lib.itoa (l.length : Int)).drop 6 = Lib.itoa (l.length : Int) := by simp
    have e4 : numE (Lib.itoa (l.length : Int)) 1000 = ((l.length : Int), 0) := by
      rw [Lib.itoa_nonneg, numE_yes _ _ (dec_valid _), dec_val, if_pos (by omega)]
    rw [e2, e3, e4, if_pos ⟨rfl, rfl⟩, firstL_len]
    congr 2
  have hl : lastP (batL l) ((firstL l.length).length + sumN l) = .ok () := by
    have hd : (batL l).drop ((firstL l.length).length + sumN l) = endL := by
      rw [hb, ← List.append_assoc, List.drop_left' (by rw [List.length_append, flat_len])]
    have hlen : (batL l).length = (firstL l.length).length + sumN l + 4 := by
      rw [hb, List.length_append, List.length_append, flat_len]
      simp [endL]
      omega
    unfold lastP
    rw [hd, show nlAt endL = some 3 from rfl]
    simp only []
    rw [if_neg (by decide), if_neg (by omega)]
  unfold unpackP
  rw [if_neg (by omega), hf]
  simp only []
  rw [show itemsP (batL l) l.length (firstL l.length).length = .ok (l, (firstL l.length).length + sumN l) from itemsP_all endL l (firstL l.length) h]
  simp only []
  rw [hl]

end Go.Proofs.YtecalodcbkljoaaGreatDoor
