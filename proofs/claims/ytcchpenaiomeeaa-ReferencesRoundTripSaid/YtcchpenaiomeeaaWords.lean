/- Plain words: parsing a text of valid identities gives the identities, whatever blanks stand between them. -/
import Derived.Test.YtcchpenaiomeeaaPrintR
import Derived.Test.YtcchpenaiomeeaaParseR
namespace Go.Proofs.Ytcchpenaiomeeaa
open Go.RowKit
/-- The words that are complete, and the one that is being read. -/
def stepW (st : List (List UInt8) × List UInt8) (c : UInt8) : List (List UInt8) × List UInt8 :=
  if blkB c = true then (if st.2 = [] then st else (st.1 ++ [st.2], [])) else (st.1, st.2 ++ [c])
def runW (l : List UInt8) : List (List UInt8) × List UInt8 := l.foldl stepW ([], [])
def finW (st : List (List UInt8) × List UInt8) : List (List UInt8) := if st.2 = [] then st.1 else st.1 ++ [st.2]
theorem runW_snoc (l : List UInt8) (c : UInt8) : runW (l ++ [c]) = stepW (runW l) c := by
  unfold runW; rw [List.foldl_append]; rfl
theorem foldW_pre (ws : List (List UInt8)) : ∀ (l : List UInt8) (us : List (List UInt8)) (cur : List UInt8), l.foldl stepW (ws ++ us, cur) = (ws ++ (l.foldl stepW (us, cur)).1, (l.foldl stepW (us, cur)).2)
  | [], _, _ => rfl
  | c :: r, us, cur => by
    simp only [List.foldl_cons]
    by_cases hb : blkB c = true
    · by_cases hc : cur = []
      · have e1 : stepW (ws ++ us, cur) c = (ws ++ us, cur) := by simp [stepW, hb, hc]
        have e2 : stepW (us, cur) c = (us, cur) := by simp [stepW, hb, hc]
        rw [e1, e2]
        exact foldW_pre ws r us cur
      · have e1 : stepW (ws ++ us, cur) c = (ws ++ (us ++ [cur]), []) := by simp [stepW, hb, hc]
        have e2 : stepW (us, cur) c = (us ++ [cur], []) := by simp [stepW, hb, hc]
        rw [e1, e2]
        exact foldW_pre ws r (us ++ [cur]) []
    · have e1 : stepW (ws ++ us, cur) c = (ws ++ us, cur ++ [c]) := by simp [stepW, hb]
      have e2 : stepW (us, cur) c = (us, cur ++ [c]) := by simp [stepW, hb]
      rw [e1, e2]
      exact foldW_pre ws r us (cur ++ [c])
theorem foldW_nonblank : ∀ (t : List UInt8) (ws : List (List UInt8)) (cur : List UInt8), t.all nbl = true → t.foldl stepW (ws, cur) = (ws, cur ++ t)
  | [], _, cur, _ => by simp
  | c :: r, ws, cur, h => by
    rw [List.all_cons, Bool.and_eq_true] at h
    have e : stepW (ws, cur) c = (ws, cur ++ [c]) := by
      have : blkB c = false := by simpa [nbl] using h.1
      simp [stepW, this]
    rw [List.foldl_cons, e, foldW_nonblank r ws _ h.2, List.append_assoc]
    rfl
/-- The text b is the text a with blanks laid in behind blanks. -/
inductive Ins : List UInt8 → List UInt8 → Prop
  | nil : Ins [] []
  | copy {a b : List UInt8} (c : UInt8) : Ins a b → Ins (a ++ [c]) (b ++ [c])
  | blank {a b : List UInt8} (c d : UInt8) : blkB c = true → blkB d = true → Ins (a ++ [c]) b → Ins (a ++ [c]) (b ++ [d])
theorem stepW_cur (st : List (List UInt8) × List UInt8) (c : UInt8) (h : blkB c = true) : (stepW st c).2 = [] := by
  unfold stepW
  rw [if_pos h]
  split
  · assumption
  · rfl
theorem Ins.run {a b : List UInt8} (h : Ins a b) : runW a = runW b := by
  induction h with
  | nil => rfl
  | copy c _ ih => rw [runW_snoc, runW_snoc, ih]
  | @blank a b c d hc hd _ ih =>
    rw [runW_snoc _ d, ← ih]
    have h0 := stepW_cur (runW a) c hc
    rw [← runW_snoc] at h0
    conv => rhs; unfold stepW
    rw [if_pos hd, if_pos h0]
theorem fin_pad (b : List UInt8) : finW (runW (32 :: (b ++ [9]))) = finW (runW b) := by
  have h1 : runW (32 :: (b ++ [9])) = stepW (runW b) 9 := by
    show (b ++ [9]).foldl stepW (stepW ([], []) 32) = _
    rw [show stepW ([], []) 32 = ([], []) from rfl]
    exact runW_snoc b 9
  rw [h1]
  by_cases h : (runW b).2 = []
  · have : stepW (runW b) 9 = runW b := by unfold stepW; rw [if_pos (by decide), if_pos h]
    rw [this]
  · have : stepW (runW b) 9 = ((runW b).1 ++ [(runW b).2], []) := by unfold stepW; rw [if_pos (by decide), if_neg h]
    rw [this]
    unfold finW
    rw [if_pos rfl, if_neg h]
/-- The words behind a token. -/
theorem words_tok (t r : List UInt8) (ht : t.all nbl = true) (hne : t ≠ []) (hr : r = [] ∨ ∃ c r', r = c :: r' ∧ blkB c = true) : finW (runW (t ++ r)) = t :: finW (runW r) := by
  unfold runW
  rw [List.foldl_append, foldW_nonblank t [] [] ht, List.nil_append]
  rcases hr with rfl | ⟨c, r', rfl, hc⟩
  · simp [finW, hne]
  · have e1 : stepW ([], t) c = ([t], []) := by simp [stepW, hc, hne]
    have e2 : stepW ([], []) c = ([], []) := by simp [stepW, hc]
    rw [List.foldl_cons, e1, List.foldl_cons, e2]
    have := foldW_pre [t] r' [] []
    rw [List.append_nil] at this
    rw [this]
    unfold finW
    simp only
    split
    · rfl
    · rfl
theorem words_blank (c : UInt8) (r : List UInt8) (h : blkB c = true) : finW (runW (c :: r)) = finW (runW r) := by
  unfold runW
  rw [List.foldl_cons, show stepW ([], []) c = ([], []) from by simp [stepW, h]]
theorem drop_tw (p : UInt8 → Bool) (l : List UInt8) : l.drop (l.takeWhile p).length = l.dropWhile p := by
  induction l with
  | nil => rfl
  | cons x r ih =>
    by_cases h : p x = true
    · rw [List.takeWhile_cons, if_pos h, List.dropWhile_cons, if_pos h, List.length_cons, List.drop_succ_cons, ih]
    · rw [List.takeWhile_cons, if_neg h, List.dropWhile_cons, if_neg h]
      rfl
/-- Parse at a text whose words are good. -/
theorem parse_words : ∀ (n : Nat) (l : List UInt8) (i : Nat) (out : List Id), l.length < n → (∀ t ∈ finW (runW l), identB t = true) → (out ++ (finW (runW l)).map midL).length ≤ 20 → chkL out ((finW (runW l)).map midL) = 0 →
    parseF n l i out = (out ++ (finW (runW l)).map midL, 0, 0)
  | 0, _, _, _, h, _, _, _ => absurd h (Nat.not_lt_zero _)
  | n + 1, [], i, out, _, _, _, _ => by simp [parseF, runW, finW]
  | n + 1, c :: r, i, out, hn, hg, hl, hc => by
    rw [parseF_cons]
    by_cases hb : blkB c = true
    · rw [if_pos hb]
      rw [words_blank c r hb] at *
      exact parse_words n r (i + 1) out (by simp at hn; omega) hg hl hc
    · rw [if_neg hb]
      have htk : (c :: r).take (tokL (c :: r)) = (c :: r).takeWhile nbl := by
        unfold tokL runL
        exact (List.prefix_iff_eq_take.1 (List.takeWhile_prefix nbl)).symm
      have hdr : (c :: r).drop (tokL (c :: r)) = (c :: r).dropWhile nbl := by
        exact drop_tw nbl (c :: r)
      have hsp : c :: r = (c :: r).takeWhile nbl ++ (c :: r).dropWhile nbl := List.takeWhile_append_dropWhile.symm
      have hall : ((c :: r).takeWhile nbl).all nbl = true := List.all_takeWhile
      have hne : (c :: r).takeWhile nbl ≠ [] := by
        rw [List.takeWhile_cons, if_pos (by simp [nbl, hb])]
        simp
      have hrr : (c :: r).dropWhile nbl = [] ∨ ∃ d r', (c :: r).dropWhile nbl = d :: r' ∧ blkB d = true := by
        rcases hd : (c :: r).dropWhile nbl with _ | ⟨d, r'⟩
        · exact .inl rfl
        · refine .inr ⟨d, r', rfl, ?_⟩
          have := List.head_dropWhile_not nbl (l := c :: r) (by rw [hd]; simp)
          simpa [hd, nbl] using this
      have hw : finW (runW (c :: r)) = (c :: r).takeWhile nbl :: finW (runW ((c :: r).dropWhile nbl)) := by
        conv => lhs; rw [hsp]
        exact words_tok _ _ hall hne hrr
      have hlen : tokL (c :: r) = ((c :: r).takeWhile nbl).length := rfl
      rw [htk, hdr]
      have hdl : ((c :: r).dropWhile nbl).length < n := by
        have := congrArg List.length hsp
        rw [List.length_append] at this
        have hp := List.length_pos_iff.2 hne
        omega
      generalize (c :: r).takeWhile nbl = t at *
      generalize (c :: r).dropWhile nbl = rest at *
      rw [hw] at hg hl hc ⊢
      rw [List.map_cons] at hl hc ⊢
      have h1 := hg t (List.mem_cons_self ..)
      have hnx : nextE out (midL t) = 0 := by
        unfold chkL at hc
        by_cases h : nextE out (midL t) = 0
        · exact h
        · rw [if_neg h] at hc
          exact absurd hc h
      have hc2 : chkL (out ++ [midL t]) ((finW (runW rest)).map midL) = 0 := by
        unfold chkL at hc
        rwa [if_pos hnx] at hc
      rw [if_neg (by simp at hl; omega), if_neg (by simp [h1]), if_neg (by simp [hnx])]
      have := parse_words n rest (i + tokL (c :: r)) (out ++ [midL t]) hdl (fun u hu => hg u (List.mem_cons_of_mem _ hu)) (by simpa using hl) hc2
      rw [this, List.append_assoc]
      rfl
end Go.Proofs.Ytcchpenaiomeeaa
