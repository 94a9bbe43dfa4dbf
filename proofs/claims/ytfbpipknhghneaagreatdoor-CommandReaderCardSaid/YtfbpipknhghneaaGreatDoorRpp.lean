/- A line parsed: the program's way and the reference's, plain laws. -/
import Derived.Test.YtfbpipknhghneaaGreatDoorRwd
import Derived.Test.YtfbpipknhghneaaGreatDoorOnA
namespace Go.Proofs.YtfbpipknhghneaaGreatDoor
open Go.RowKit
theorem stepP_bad (fl a : Int) (ws : List ByteArray) (c : Cm) : (stepP fl a (false, ws, c)).1 = false := by
  unfold stepP
  split
  · rfl
  · rfl
theorem stepP_some (fl a : Int) (x : ByteArray) (r : List ByteArray) (c : Cm) (h : (bits BinOp.and .i64 fl a == 0) = false) : stepP fl a (true, x :: r, c) = ((readF a x c).2, r, (readF a x c).1) := by
  unfold stepP
  rw [if_neg (by rw [h]; decide)]
theorem stepP_len (fl a : Int) (st : PSt) (h : (stepP fl a st).1 = true) : st.1 = true ∧ st.2.1.length = (stepP fl a st).2.1.length + (if (bits BinOp.and .i64 fl a == 0) = true then 0 else 1) := by
  obtain ⟨b, ws, c⟩ := st
  cases b with
  | false => rw [stepP_bad] at h; cases h
  | true =>
    refine ⟨rfl, ?_⟩
    unfold stepP at h ⊢
    split
    · rfl
    · next hh =>
      rw [if_neg hh] at h
      cases ws with
      | nil => cases h
      | cons x r => rfl
/-- How many words fields take. -/
def usedN (fl : Int) : List (Int × Nat) → Nat
  | [] => 0
  | p :: r => (if (bits BinOp.and .i64 fl p.1 == 0) = true then 0 else 1) + usedN fl r
theorem fold_len (fl : Int) : ∀ (l : List (Int × Nat)) (st : PSt), (l.foldl (fun st p => stepP fl p.1 st) st).1 = true → st.2.1.length = (l.foldl (fun st p => stepP fl p.1 st) st).2.1.length + usedN fl l
  | [], st, _ => rfl
  | p :: r, st, h => by
    rw [List.foldl_cons] at h ⊢
    have h1 := fold_len fl r _ h
    have h2 : ∀ (l : List (Int × Nat)) (s : PSt), (l.foldl (fun st p => stepP fl p.1 st) s).1 = true → s.1 = true := by
      intro l
      induction l with
      | nil => intro s h; exact h
      | cons q t ih => intro s h; rw [List.foldl_cons] at h; exact (stepP_len fl q.1 s (ih _ h)).1
    have h3 := stepP_len fl p.1 st (h2 r _ h)
    rw [h3.2, h1, show usedN fl (p :: r) = (if (bits BinOp.and .i64 fl p.1 == 0) = true then 0 else 1) + usedN fl r from rfl]
    omega
def wantN (v : Nat) : Nat := if v = 1 ∨ v = 2 ∨ v = 3 ∨ v = 6 ∨ v = 7 then 3 else if v = 10 ∨ v = 11 then 1 else 2
theorem vb_nil : vb ⟨#[]⟩ 11 = 0 := by decide
theorem parseW_want (ps : List ByteArray) (v : Nat) (hv : vb (ps.headD ⟨#[]⟩) 11 = v) (h : (parseW ps).2 = true) : v ≠ 0 ∧ ps.length = wantN v := by
  have h11 := vb_le (ps.headD ⟨#[]⟩) 11
  unfold parseW at h
  rw [hv] at h h11
  split at h
  · cases h
  · next hv0 =>
    refine ⟨hv0, ?_⟩
    dsimp only at h
    split at h
    · next hh =>
      have h1 := fold_len (flOf v) rdL _ hh.1
      rw [hh.2] at h1
      cases ps with
      | nil => rw [show ([] : List ByteArray).headD ⟨#[]⟩ = ⟨#[]⟩ from rfl, vb_nil] at hv; exact absurd hv.symm hv0
      | cons w r =>
        simp only [List.drop_succ_cons, List.drop_zero, List.length_nil, Nat.zero_add] at h1
        rw [List.length_cons, h1]
        have : v = 1 ∨ v = 2 ∨ v = 3 ∨ v = 4 ∨ v = 5 ∨ v = 6 ∨ v = 7 ∨ v = 8 ∨ v = 9 ∨ v = 10 ∨ v = 11 := by omega
        rcases this with rfl | rfl | rfl | rfl | rfl | rfl | rfl | rfl | rfl | rfl | rfl <;> decide
    · cases h
theorem numR_N (s : ByteArray) (least most : Int) (h0 : 0 ≤ least) (hm : most ≤ 99999) (h1 : 0 ≤ most) :
    (numR s least most).2 = (decide (least ≤ numN (bl s)) && decide (numN (bl s) ≤ most)) ∧ ((numR s least most).2 = true → (numR s least most).1 = numN (bl s)) := by
  by_cases hv : Valid (bl s)
  · have hge := numV_ge (bl s) 0 hv.2.1 (Int.le_refl _)
    by_cases hle : numV (bl s) 0 ≤ most
    · have hl : (bl s).length ≤ 5 := by
        have e := val_dec (bl s) hv
        have h2 := itoa_len (numV (bl s) 0) hge (by omega)
        obtain ⟨u, hu⟩ : ∃ u : Nat, numV (bl s) 0 = (u : Int) := ⟨(numV (bl s) 0).toNat, by omega⟩
        rw [hu] at e h2
        rw [Lib.itoa_nonneg] at h2
        rw [Int.toNat_natCast] at e
        rw [← e]
        exact h2
      have hN : numN (bl s) = numV (bl s) 0 := by unfold numN; rw [if_pos ⟨hv, by omega⟩]
      unfold numR
      rw [numE_yes _ _ hv, if_pos hle, hN]
      refine ⟨?_, fun _ => rfl⟩
      rw [decide_eq_true hle, Bool.and_true]
      rfl
    · have hN : decide (numN (bl s) ≤ most) = false ∨ decide (least ≤ numN (bl s)) = false := by
        unfold numN
        split
        · exact Or.inl (decide_eq_false hle)
        · exact Or.inr (decide_eq_false (by omega))
      unfold numR
      rw [numE_yes _ _ hv, if_neg hle]
      refine ⟨?_, fun h => by cases h⟩
      show (((2 : Int) == 0) && decide (least ≤ (0 : Int))) = _
      rcases hN with e | e <;> rw [e] <;> simp
  · have hN : numN (bl s) = -1 := by unfold numN; rw [if_neg (fun h => hv h.1)]
    unfold numR
    rw [numE_no _ _ hv, hN]
    refine ⟨?_, fun h => by cases h⟩
    show (((3 : Int) == 0) && decide (least ≤ (0 : Int))) = _
    rw [decide_eq_false (show ¬ least ≤ -1 by omega)]
    rfl
def ok2 (a b : Bool) (c : Cm) : Cm × Bool := if (a && b) = true then (c, true) else (zC, false)
/-- What the reference says beside what the program says. -/
def Agree (c : Cm) (b : Bool) (p : Cm × Bool) : Prop := b = p.2 ∧ (b = true → c = p.1)
theorem Agree.no {c : Cm} {p : Cm × Bool} (h : p.2 = false) : Agree c false p := ⟨h.symm, fun h => by cases h⟩
theorem parseW_v1 (w0 w1 w2 : ByteArray) (hv : vb w0 11 = 1) : parseW [w0, w1, w2] = ok2 (siteB (bl w1)) ((numR w2 1 1000).2) ⟨1, w1, zI, 0, 0, (numR w2 1 1000).1, 0, ⟨#[]⟩⟩ := by
  unfold parseW
  rw [show ([w0, w1, w2] : List ByteArray).headD ⟨#[]⟩ = w0 from rfl, hv, if_neg (by decide), show flOf 1 = 17 from rfl]
  simp only [rdL, List.foldl_cons, List.foldl_nil, List.drop_succ_cons, List.drop_zero]
  rw [stepP_some 17 1 w1 [w2] _ (by decide)]
  rw [show readF 1 w1 { zC with verb := ((1 : Nat) : Int) } = (⟨1, w1, zI, 0, 0, 0, 0, ⟨#[]⟩⟩, siteB (bl w1)) from rfl]
  dsimp only
  cases hq1 : siteB (bl w1) with
  | false =>
    refine (if_neg ?_).trans (show (zC, false) = ok2 false _ _ from rfl)
    intro h
    exact absurd h.1 (by
      intro e
      have e0 := e
      replace e0 := (stepP_len _ 32 _ e0).1
      replace e0 := (stepP_len _ 16 _ e0).1
      replace e0 := (stepP_len _ 8 _ e0).1
      replace e0 := (stepP_len _ 4 _ e0).1
      replace e0 := (stepP_len _ 2 _ e0).1
      cases e0)
  | true =>
    rw [stepP_skip _ 2 _ (by decide)]
    rw [stepP_skip _ 4 _ (by decide)]
    rw [stepP_skip _ 8 _ (by decide)]
    rw [stepP_some 17 16 w2 [] _ (by decide)]
    rw [show readF 16 w2 ⟨1, w1, zI, 0, 0, 0, 0, ⟨#[]⟩⟩ = (⟨1, w1, zI, 0, 0, (numR w2 1 1000).1, 0, ⟨#[]⟩⟩, (numR w2 1 1000).2) from rfl]
    dsimp only
    rw [stepP_skip _ 32 _ (by decide)]
    unfold ok2
    cases (numR w2 1 1000).2 with
    | false => rfl
    | true => rfl
theorem parseW_v2 (w0 w1 w2 : ByteArray) (hv : vb w0 11 = 2) : parseW [w0, w1, w2] = ok2 ((idR w1).2) ((numR w2 1 65536).2) ⟨2, ⟨#[]⟩, (idR w1).1, (numR w2 1 65536).1, 0, 0, 0, ⟨#[]⟩⟩ := by
  unfold parseW
  rw [show ([w0, w1, w2] : List ByteArray).headD ⟨#[]⟩ = w0 from rfl, hv, if_neg (by decide), show flOf 2 = 6 from rfl]
  simp only [rdL, List.foldl_cons, List.foldl_nil, List.drop_succ_cons, List.drop_zero]
  rw [stepP_skip _ 1 _ (by decide)]
  rw [stepP_some 6 2 w1 [w2] _ (by decide)]
  rw [show readF 2 w1 { zC with verb := ((2 : Nat) : Int) } = (⟨2, ⟨#[]⟩, (idR w1).1, 0, 0, 0, 0, ⟨#[]⟩⟩, (idR w1).2) from rfl]
  dsimp only
  cases hq1 : (idR w1).2 with
  | false =>
    refine (if_neg ?_).trans (show (zC, false) = ok2 false _ _ from rfl)
    intro h
    exact absurd h.1 (by
      intro e
      have e0 := e
      replace e0 := (stepP_len _ 32 _ e0).1
      replace e0 := (stepP_len _ 16 _ e0).1
      replace e0 := (stepP_len _ 8 _ e0).1
      replace e0 := (stepP_len _ 4 _ e0).1
      cases e0)
  | true =>
    rw [stepP_some 6 4 w2 [] _ (by decide)]
    rw [show readF 4 w2 ⟨2, ⟨#[]⟩, (idR w1).1, 0, 0, 0, 0, ⟨#[]⟩⟩ = (⟨2, ⟨#[]⟩, (idR w1).1, (numR w2 1 65536).1, 0, 0, 0, ⟨#[]⟩⟩, (numR w2 1 65536).2) from rfl]
    dsimp only
    rw [stepP_skip _ 8 _ (by decide)]
    rw [stepP_skip _ 16 _ (by decide)]
    rw [stepP_skip _ 32 _ (by decide)]
    unfold ok2
    cases (numR w2 1 65536).2 with
    | false => rfl
    | true => rfl
theorem parseW_v3 (w0 w1 w2 : ByteArray) (hv : vb w0 11 = 3) : parseW [w0, w1, w2] = ok2 ((idR w1).2) ((numR w2 0 65536).2) ⟨3, ⟨#[]⟩, (idR w1).1, 0, (numR w2 0 65536).1, 0, 0, ⟨#[]⟩⟩ := by
  unfold parseW
  rw [show ([w0, w1, w2] : List ByteArray).headD ⟨#[]⟩ = w0 from rfl, hv, if_neg (by decide), show flOf 3 = 10 from rfl]
  simp only [rdL, List.foldl_cons, List.foldl_nil, List.drop_succ_cons, List.drop_zero]
  rw [stepP_skip _ 1 _ (by decide)]
  rw [stepP_some 10 2 w1 [w2] _ (by decide)]
  rw [show readF 2 w1 { zC with verb := ((3 : Nat) : Int) } = (⟨3, ⟨#[]⟩, (idR w1).1, 0, 0, 0, 0, ⟨#[]⟩⟩, (idR w1).2) from rfl]
  dsimp only
  cases hq1 : (idR w1).2 with
  | false =>
    refine (if_neg ?_).trans (show (zC, false) = ok2 false _ _ from rfl)
    intro h
    exact absurd h.1 (by
      intro e
      have e0 := e
      replace e0 := (stepP_len _ 32 _ e0).1
      replace e0 := (stepP_len _ 16 _ e0).1
      replace e0 := (stepP_len _ 8 _ e0).1
      replace e0 := (stepP_len _ 4 _ e0).1
      cases e0)
  | true =>
    rw [stepP_skip _ 4 _ (by decide)]
    rw [stepP_some 10 8 w2 [] _ (by decide)]
    rw [show readF 8 w2 ⟨3, ⟨#[]⟩, (idR w1).1, 0, 0, 0, 0, ⟨#[]⟩⟩ = (⟨3, ⟨#[]⟩, (idR w1).1, 0, (numR w2 0 65536).1, 0, 0, ⟨#[]⟩⟩, (numR w2 0 65536).2) from rfl]
    dsimp only
    rw [stepP_skip _ 16 _ (by decide)]
    rw [stepP_skip _ 32 _ (by decide)]
    unfold ok2
    cases (numR w2 0 65536).2 with
    | false => rfl
    | true => rfl
theorem parseW_v4 (w0 w1 : ByteArray) (hv : vb w0 11 = 4) : parseW [w0, w1] = ok2 ((idR w1).2) (true) ⟨4, ⟨#[]⟩, (idR w1).1, 0, 0, 0, 0, ⟨#[]⟩⟩ := by
  unfold parseW
  rw [show ([w0, w1] : List ByteArray).headD ⟨#[]⟩ = w0 from rfl, hv, if_neg (by decide), show flOf 4 = 2 from rfl]
  simp only [rdL, List.foldl_cons, List.foldl_nil, List.drop_succ_cons, List.drop_zero]
  rw [stepP_skip _ 1 _ (by decide)]
  rw [stepP_some 2 2 w1 [] _ (by decide)]
  rw [show readF 2 w1 { zC with verb := ((4 : Nat) : Int) } = (⟨4, ⟨#[]⟩, (idR w1).1, 0, 0, 0, 0, ⟨#[]⟩⟩, (idR w1).2) from rfl]
  dsimp only
  cases hq1 : (idR w1).2 with
  | false =>
    refine (if_neg ?_).trans (show (zC, false) = ok2 false _ _ from rfl)
    intro h
    exact absurd h.1 (by
      intro e
      have e0 := e
      replace e0 := (stepP_len _ 32 _ e0).1
      replace e0 := (stepP_len _ 16 _ e0).1
      replace e0 := (stepP_len _ 8 _ e0).1
      replace e0 := (stepP_len _ 4 _ e0).1
      cases e0)
  | true =>
    rw [stepP_skip _ 4 _ (by decide)]
    rw [stepP_skip _ 8 _ (by decide)]
    rw [stepP_skip _ 16 _ (by decide)]
    rw [stepP_skip _ 32 _ (by decide)]
    unfold ok2
    rfl
theorem parseW_v5 (w0 w1 : ByteArray) (hv : vb w0 11 = 5) : parseW [w0, w1] = ok2 ((idR w1).2) (true) ⟨5, ⟨#[]⟩, (idR w1).1, 0, 0, 0, 0, ⟨#[]⟩⟩ := by
  unfold parseW
  rw [show ([w0, w1] : List ByteArray).headD ⟨#[]⟩ = w0 from rfl, hv, if_neg (by decide), show flOf 5 = 2 from rfl]
  simp only [rdL, List.foldl_cons, List.foldl_nil, List.drop_succ_cons, List.drop_zero]
  rw [stepP_skip _ 1 _ (by decide)]
  rw [stepP_some 2 2 w1 [] _ (by decide)]
  rw [show readF 2 w1 { zC with verb := ((5 : Nat) : Int) } = (⟨5, ⟨#[]⟩, (idR w1).1, 0, 0, 0, 0, ⟨#[]⟩⟩, (idR w1).2) from rfl]
  dsimp only
  cases hq1 : (idR w1).2 with
  | false =>
    refine (if_neg ?_).trans (show (zC, false) = ok2 false _ _ from rfl)
    intro h
    exact absurd h.1 (by
      intro e
      have e0 := e
      replace e0 := (stepP_len _ 32 _ e0).1
      replace e0 := (stepP_len _ 16 _ e0).1
      replace e0 := (stepP_len _ 8 _ e0).1
      replace e0 := (stepP_len _ 4 _ e0).1
      cases e0)
  | true =>
    rw [stepP_skip _ 4 _ (by decide)]
    rw [stepP_skip _ 8 _ (by decide)]
    rw [stepP_skip _ 16 _ (by decide)]
    rw [stepP_skip _ 32 _ (by decide)]
    unfold ok2
    rfl
theorem parseW_v6 (w0 w1 w2 : ByteArray) (hv : vb w0 11 = 6) : parseW [w0, w1, w2] = ok2 ((idR w1).2) ((numR w2 1 99).2) ⟨6, ⟨#[]⟩, (idR w1).1, 0, 0, 0, (numR w2 1 99).1, ⟨#[]⟩⟩ := by
  unfold parseW
  rw [show ([w0, w1, w2] : List ByteArray).headD ⟨#[]⟩ = w0 from rfl, hv, if_neg (by decide), show flOf 6 = 34 from rfl]
  simp only [rdL, List.foldl_cons, List.foldl_nil, List.drop_succ_cons, List.drop_zero]
  rw [stepP_skip _ 1 _ (by decide)]
  rw [stepP_some 34 2 w1 [w2] _ (by decide)]
  rw [show readF 2 w1 { zC with verb := ((6 : Nat) : Int) } = (⟨6, ⟨#[]⟩, (idR w1).1, 0, 0, 0, 0, ⟨#[]⟩⟩, (idR w1).2) from rfl]
  dsimp only
  cases hq1 : (idR w1).2 with
  | false =>
    refine (if_neg ?_).trans (show (zC, false) = ok2 false _ _ from rfl)
    intro h
    exact absurd h.1 (by
      intro e
      have e0 := e
      replace e0 := (stepP_len _ 32 _ e0).1
      replace e0 := (stepP_len _ 16 _ e0).1
      replace e0 := (stepP_len _ 8 _ e0).1
      replace e0 := (stepP_len _ 4 _ e0).1
      cases e0)
  | true =>
    rw [stepP_skip _ 4 _ (by decide)]
    rw [stepP_skip _ 8 _ (by decide)]
    rw [stepP_skip _ 16 _ (by decide)]
    rw [stepP_some 34 32 w2 [] _ (by decide)]
    rw [show readF 32 w2 ⟨6, ⟨#[]⟩, (idR w1).1, 0, 0, 0, 0, ⟨#[]⟩⟩ = (⟨6, ⟨#[]⟩, (idR w1).1, 0, 0, 0, (numR w2 1 99).1, ⟨#[]⟩⟩, (numR w2 1 99).2) from rfl]
    dsimp only
    unfold ok2
    cases (numR w2 1 99).2 with
    | false => rfl
    | true => rfl
theorem parseW_v7 (w0 w1 w2 : ByteArray) (hv : vb w0 11 = 7) : parseW [w0, w1, w2] = ok2 ((idR w1).2) ((numR w2 0 65536).2) ⟨7, ⟨#[]⟩, (idR w1).1, 0, (numR w2 0 65536).1, 0, 0, ⟨#[]⟩⟩ := by
  unfold parseW
  rw [show ([w0, w1, w2] : List ByteArray).headD ⟨#[]⟩ = w0 from rfl, hv, if_neg (by decide), show flOf 7 = 74 from rfl]
  simp only [rdL, List.foldl_cons, List.foldl_nil, List.drop_succ_cons, List.drop_zero]
  rw [stepP_skip _ 1 _ (by decide)]
  rw [stepP_some 74 2 w1 [w2] _ (by decide)]
  rw [show readF 2 w1 { zC with verb := ((7 : Nat) : Int) } = (⟨7, ⟨#[]⟩, (idR w1).1, 0, 0, 0, 0, ⟨#[]⟩⟩, (idR w1).2) from rfl]
  dsimp only
  cases hq1 : (idR w1).2 with
  | false =>
    refine (if_neg ?_).trans (show (zC, false) = ok2 false _ _ from rfl)
    intro h
    exact absurd h.1 (by
      intro e
      have e0 := e
      replace e0 := (stepP_len _ 32 _ e0).1
      replace e0 := (stepP_len _ 16 _ e0).1
      replace e0 := (stepP_len _ 8 _ e0).1
      replace e0 := (stepP_len _ 4 _ e0).1
      cases e0)
  | true =>
    rw [stepP_skip _ 4 _ (by decide)]
    rw [stepP_some 74 8 w2 [] _ (by decide)]
    rw [show readF 8 w2 ⟨7, ⟨#[]⟩, (idR w1).1, 0, 0, 0, 0, ⟨#[]⟩⟩ = (⟨7, ⟨#[]⟩, (idR w1).1, 0, (numR w2 0 65536).1, 0, 0, ⟨#[]⟩⟩, (numR w2 0 65536).2) from rfl]
    dsimp only
    rw [stepP_skip _ 16 _ (by decide)]
    rw [stepP_skip _ 32 _ (by decide)]
    unfold ok2
    cases (numR w2 0 65536).2 with
    | false => rfl
    | true => rfl
theorem parseW_v8 (w0 w1 : ByteArray) (hv : vb w0 11 = 8) : parseW [w0, w1] = ok2 ((idR w1).2) (true) ⟨8, ⟨#[]⟩, (idR w1).1, 0, 0, 0, 0, ⟨#[]⟩⟩ := by
  unfold parseW
  rw [show ([w0, w1] : List ByteArray).headD ⟨#[]⟩ = w0 from rfl, hv, if_neg (by decide), show flOf 8 = 2 from rfl]
  simp only [rdL, List.foldl_cons, List.foldl_nil, List.drop_succ_cons, List.drop_zero]
  rw [stepP_skip _ 1 _ (by decide)]
  rw [stepP_some 2 2 w1 [] _ (by decide)]
  rw [show readF 2 w1 { zC with verb := ((8 : Nat) : Int) } = (⟨8, ⟨#[]⟩, (idR w1).1, 0, 0, 0, 0, ⟨#[]⟩⟩, (idR w1).2) from rfl]
  dsimp only
  cases hq1 : (idR w1).2 with
  | false =>
    refine (if_neg ?_).trans (show (zC, false) = ok2 false _ _ from rfl)
    intro h
    exact absurd h.1 (by
      intro e
      have e0 := e
      replace e0 := (stepP_len _ 32 _ e0).1
      replace e0 := (stepP_len _ 16 _ e0).1
      replace e0 := (stepP_len _ 8 _ e0).1
      replace e0 := (stepP_len _ 4 _ e0).1
      cases e0)
  | true =>
    rw [stepP_skip _ 4 _ (by decide)]
    rw [stepP_skip _ 8 _ (by decide)]
    rw [stepP_skip _ 16 _ (by decide)]
    rw [stepP_skip _ 32 _ (by decide)]
    unfold ok2
    rfl
theorem parseW_v9 (w0 w1 : ByteArray) (hv : vb w0 11 = 9) : parseW [w0, w1] = ok2 ((idR w1).2) (true) ⟨9, ⟨#[]⟩, (idR w1).1, 0, 0, 0, 0, ⟨#[]⟩⟩ := by
  unfold parseW
  rw [show ([w0, w1] : List ByteArray).headD ⟨#[]⟩ = w0 from rfl, hv, if_neg (by decide), show flOf 9 = 2 from rfl]
  simp only [rdL, List.foldl_cons, List.foldl_nil, List.drop_succ_cons, List.drop_zero]
  rw [stepP_skip _ 1 _ (by decide)]
  rw [stepP_some 2 2 w1 [] _ (by decide)]
  rw [show readF 2 w1 { zC with verb := ((9 : Nat) : Int) } = (⟨9, ⟨#[]⟩, (idR w1).1, 0, 0, 0, 0, ⟨#[]⟩⟩, (idR w1).2) from rfl]
  dsimp only
  cases hq1 : (idR w1).2 with
  | false =>
    refine (if_neg ?_).trans (show (zC, false) = ok2 false _ _ from rfl)
    intro h
    exact absurd h.1 (by
      intro e
      have e0 := e
      replace e0 := (stepP_len _ 32 _ e0).1
      replace e0 := (stepP_len _ 16 _ e0).1
      replace e0 := (stepP_len _ 8 _ e0).1
      replace e0 := (stepP_len _ 4 _ e0).1
      cases e0)
  | true =>
    rw [stepP_skip _ 4 _ (by decide)]
    rw [stepP_skip _ 8 _ (by decide)]
    rw [stepP_skip _ 16 _ (by decide)]
    rw [stepP_skip _ 32 _ (by decide)]
    unfold ok2
    rfl
theorem parseW_v10 (w0 : ByteArray) (hv : vb w0 11 = 10) : parseW [w0] = ok2 (true) (true) ⟨10, ⟨#[]⟩, zI, 0, 0, 0, 0, ⟨#[]⟩⟩ := by
  unfold parseW
  rw [show ([w0] : List ByteArray).headD ⟨#[]⟩ = w0 from rfl, hv, if_neg (by decide), show flOf 10 = 64 from rfl]
  simp only [rdL, List.foldl_cons, List.foldl_nil, List.drop_succ_cons, List.drop_zero]
  rw [stepP_skip _ 1 _ (by decide)]
  rw [stepP_skip _ 2 _ (by decide)]
  rw [stepP_skip _ 4 _ (by decide)]
  rw [stepP_skip _ 8 _ (by decide)]
  rw [stepP_skip _ 16 _ (by decide)]
  rw [stepP_skip _ 32 _ (by decide)]
  rfl
theorem parseW_v11 (w0 : ByteArray) (hv : vb w0 11 = 11) : parseW [w0] = ok2 (true) (true) ⟨11, ⟨#[]⟩, zI, 0, 0, 0, 0, ⟨#[]⟩⟩ := by
  unfold parseW
  rw [show ([w0] : List ByteArray).headD ⟨#[]⟩ = w0 from rfl, hv, if_neg (by decide), show flOf 11 = 0 from rfl]
  simp only [rdL, List.foldl_cons, List.foldl_nil, List.drop_succ_cons, List.drop_zero]
  rw [stepP_skip _ 1 _ (by decide)]
  rw [stepP_skip _ 2 _ (by decide)]
  rw [stepP_skip _ 4 _ (by decide)]
  rw [stepP_skip _ 8 _ (by decide)]
  rw [stepP_skip _ 16 _ (by decide)]
  rw [stepP_skip _ 32 _ (by decide)]
  rfl
theorem Agree.mk2 {a b : Bool} {c c' : Cm} {q : Int} (h1 : (q == 0) = (a && b)) (h2 : a = true → b = true → c = c') : Agree c (q == 0) (ok2 a b c') := by
  rw [h1]
  cases a <;> cases b
  · exact ⟨rfl, fun h => by cases h⟩
  · exact ⟨rfl, fun h => by cases h⟩
  · exact ⟨rfl, fun h => by cases h⟩
  · exact ⟨rfl, fun _ => h2 rfl rfl⟩
theorem ok2_r (a : Bool) (c : Cm) : (ok2 a false c).2 = false := by cases a <;> rfl
theorem idR_no (s : ByteArray) (h : identB (bl s) = false) : (idR s).2 = false := by unfold idR; rw [if_neg (by rw [h]; decide)]
theorem idR_yes (s : ByteArray) (h : identB (bl s) = true) : idR s = (midL (bl s), !decide (midL (bl s) = zI)) := by unfold idR; rw [if_pos h]
theorem has_x : hasB ⟨#[120]⟩ 13 = false := by decide
theorem nonum_v1 (w0 w1 w2 : ByteArray) (hv : vb w0 11 = 1) (h : numN (bl w2) < 0) : (parseW [w0, w1, w2]).2 = false := by
  rw [parseW_v1 w0 w1 w2 hv, (numR_N w2 1 1000 (by decide) (by decide) (by decide)).1, decide_eq_false (show ¬ 1 ≤ numN (bl w2) by omega), Bool.false_and]
  exact ok2_r _ _
theorem agree_v1 (w0 w1 w2 : ByteArray) (hv : vb w0 11 = 1) : Agree ⟨1, w1, zI, 0, 0, numN (bl w2), 0, ⟨#[]⟩⟩ (chk ⟨1, w1, zI, 0, 0, numN (bl w2), 0, ⟨#[]⟩⟩ == 0) (parseW [w0, w1, w2]) := by
  rw [parseW_v1 w0 w1 w2 hv]
  obtain ⟨hn1, hn2⟩ := numR_N w2 1 1000 (by decide) (by decide) (by decide)
  refine Agree.mk2 ?_ ?_
  · rw [chk_v1 _ rfl (by unfold onlyC; rfl)]
    rw [hn1]
    dsimp only
    cases siteB (bl w1) with
    | false => rw [if_pos rfl]; rfl
    | true =>
      rw [if_neg (by decide)]
      by_cases h1 : 1 ≤ numN (bl w2)
      · by_cases h2 : numN (bl w2) ≤ 1000
        · rw [if_neg (by omega)]
          exact (by rw [decide_eq_true h1, decide_eq_true h2]; rfl)
        · rw [if_pos (by omega), decide_eq_true h1, decide_eq_false h2]; rfl
      · rw [if_pos (by omega), decide_eq_false h1]; rfl
  · intro h1 h2
    rw [hn2 h2]
theorem noid_v2 (w0 w1 w2 : ByteArray) (hv : vb w0 11 = 2) (h : identB (bl w1) = false) : (parseW [w0, w1, w2]).2 = false := by
  rw [parseW_v2 w0 w1 w2 hv, idR_no w1 h]
  rfl
theorem nonum_v2 (w0 w1 w2 : ByteArray) (hv : vb w0 11 = 2) (h : numN (bl w2) < 0) : (parseW [w0, w1, w2]).2 = false := by
  rw [parseW_v2 w0 w1 w2 hv, (numR_N w2 1 65536 (by decide) (by decide) (by decide)).1, decide_eq_false (show ¬ 1 ≤ numN (bl w2) by omega), Bool.false_and]
  exact ok2_r _ _
theorem agree_v2 (w0 w1 w2 : ByteArray) (hv : vb w0 11 = 2) (hid : identB (bl w1) = true) : Agree ⟨2, ⟨#[]⟩, midL (bl w1), numN (bl w2), 0, 0, 0, ⟨#[]⟩⟩ (chk ⟨2, ⟨#[]⟩, midL (bl w1), numN (bl w2), 0, 0, 0, ⟨#[]⟩⟩ == 0) (parseW [w0, w1, w2]) := by
  rw [parseW_v2 w0 w1 w2 hv]
  rw [idR_yes w1 hid]
  obtain ⟨hn1, hn2⟩ := numR_N w2 1 65536 (by decide) (by decide) (by decide)
  refine Agree.mk2 ?_ ?_
  · rw [chk_v2 _ rfl (by unfold onlyC; rfl)]
    rw [hn1]
    dsimp only
    by_cases hz : midL (bl w1) = zI
    · rw [if_pos hz, decide_eq_true hz]; rfl
    · rw [if_neg hz, decide_eq_false hz]
      by_cases h1 : 1 ≤ numN (bl w2)
      · by_cases h2 : numN (bl w2) ≤ 65536
        · rw [if_neg (by omega)]
          exact (by rw [decide_eq_true h1, decide_eq_true h2]; rfl)
        · rw [if_pos (by omega), decide_eq_true h1, decide_eq_false h2]; rfl
      · rw [if_pos (by omega), decide_eq_false h1]; rfl
  · intro h1 h2
    rw [hn2 h2]
theorem noid_v3 (w0 w1 w2 : ByteArray) (hv : vb w0 11 = 3) (h : identB (bl w1) = false) : (parseW [w0, w1, w2]).2 = false := by
  rw [parseW_v3 w0 w1 w2 hv, idR_no w1 h]
  rfl
theorem nonum_v3 (w0 w1 w2 : ByteArray) (hv : vb w0 11 = 3) (h : numN (bl w2) < 0) : (parseW [w0, w1, w2]).2 = false := by
  rw [parseW_v3 w0 w1 w2 hv, (numR_N w2 0 65536 (by decide) (by decide) (by decide)).1, decide_eq_false (show ¬ 0 ≤ numN (bl w2) by omega), Bool.false_and]
  exact ok2_r _ _
theorem agree_v3 (w0 w1 w2 : ByteArray) (hv : vb w0 11 = 3) (hid : identB (bl w1) = true) : Agree ⟨3, ⟨#[]⟩, midL (bl w1), 0, numN (bl w2), 0, 0, ⟨#[]⟩⟩ (chk ⟨3, ⟨#[]⟩, midL (bl w1), 0, numN (bl w2), 0, 0, ⟨#[]⟩⟩ == 0) (parseW [w0, w1, w2]) := by
  rw [parseW_v3 w0 w1 w2 hv]
  rw [idR_yes w1 hid]
  obtain ⟨hn1, hn2⟩ := numR_N w2 0 65536 (by decide) (by decide) (by decide)
  refine Agree.mk2 ?_ ?_
  · rw [chk_v3 _ rfl (by unfold onlyC; rfl)]
    rw [hn1]
    dsimp only
    by_cases hz : midL (bl w1) = zI
    · rw [if_pos hz, decide_eq_true hz]; rfl
    · rw [if_neg hz, decide_eq_false hz]
      by_cases h1 : 0 ≤ numN (bl w2)
      · by_cases h2 : numN (bl w2) ≤ 65536
        · rw [if_neg (by omega)]
          exact (by rw [decide_eq_true h1, decide_eq_true h2]; rfl)
        · rw [if_pos (by omega), decide_eq_true h1, decide_eq_false h2]; rfl
      · rw [if_pos (by omega), decide_eq_false h1]; rfl
  · intro h1 h2
    rw [hn2 h2]
theorem noid_v4 (w0 w1 : ByteArray) (hv : vb w0 11 = 4) (h : identB (bl w1) = false) : (parseW [w0, w1]).2 = false := by
  rw [parseW_v4 w0 w1 hv, idR_no w1 h]
  rfl
theorem agree_v4 (w0 w1 : ByteArray) (hv : vb w0 11 = 4) (hid : identB (bl w1) = true) : Agree ⟨4, ⟨#[]⟩, midL (bl w1), 0, 0, 0, 0, ⟨#[]⟩⟩ (chk ⟨4, ⟨#[]⟩, midL (bl w1), 0, 0, 0, 0, ⟨#[]⟩⟩ == 0) (parseW [w0, w1]) := by
  rw [parseW_v4 w0 w1 hv]
  rw [idR_yes w1 hid]
  refine Agree.mk2 ?_ ?_
  · rw [chk_v4 _ rfl (by unfold onlyC; rfl)]
    dsimp only
    by_cases hz : midL (bl w1) = zI
    · rw [if_pos hz, decide_eq_true hz]; rfl
    · rw [if_neg hz, decide_eq_false hz]; rfl
  · intro h1 h2
    rfl
theorem noid_v5 (w0 w1 : ByteArray) (hv : vb w0 11 = 5) (h : identB (bl w1) = false) : (parseW [w0, w1]).2 = false := by
  rw [parseW_v5 w0 w1 hv, idR_no w1 h]
  rfl
theorem agree_v5 (w0 w1 : ByteArray) (hv : vb w0 11 = 5) (hid : identB (bl w1) = true) : Agree ⟨5, ⟨#[]⟩, midL (bl w1), 0, 0, 0, 0, ⟨#[]⟩⟩ (chk ⟨5, ⟨#[]⟩, midL (bl w1), 0, 0, 0, 0, ⟨#[]⟩⟩ == 0) (parseW [w0, w1]) := by
  rw [parseW_v5 w0 w1 hv]
  rw [idR_yes w1 hid]
  refine Agree.mk2 ?_ ?_
  · rw [chk_v5 _ rfl (by unfold onlyC; rfl)]
    dsimp only
    by_cases hz : midL (bl w1) = zI
    · rw [if_pos hz, decide_eq_true hz]; rfl
    · rw [if_neg hz, decide_eq_false hz]; rfl
  · intro h1 h2
    rfl
theorem noid_v6 (w0 w1 w2 : ByteArray) (hv : vb w0 11 = 6) (h : identB (bl w1) = false) : (parseW [w0, w1, w2]).2 = false := by
  rw [parseW_v6 w0 w1 w2 hv, idR_no w1 h]
  rfl
theorem nonum_v6 (w0 w1 w2 : ByteArray) (hv : vb w0 11 = 6) (h : numN (bl w2) < 0) : (parseW [w0, w1, w2]).2 = false := by
  rw [parseW_v6 w0 w1 w2 hv, (numR_N w2 1 99 (by decide) (by decide) (by decide)).1, decide_eq_false (show ¬ 1 ≤ numN (bl w2) by omega), Bool.false_and]
  exact ok2_r _ _
theorem agree_v6 (w0 w1 w2 : ByteArray) (hv : vb w0 11 = 6) (hid : identB (bl w1) = true) : Agree ⟨6, ⟨#[]⟩, midL (bl w1), 0, 0, 0, numN (bl w2), ⟨#[]⟩⟩ (chk ⟨6, ⟨#[]⟩, midL (bl w1), 0, 0, 0, numN (bl w2), ⟨#[]⟩⟩ == 0) (parseW [w0, w1, w2]) := by
  rw [parseW_v6 w0 w1 w2 hv]
  rw [idR_yes w1 hid]
  obtain ⟨hn1, hn2⟩ := numR_N w2 1 99 (by decide) (by decide) (by decide)
  refine Agree.mk2 ?_ ?_
  · rw [chk_v6 _ rfl (by unfold onlyC; rfl)]
    rw [hn1]
    dsimp only
    by_cases hz : midL (bl w1) = zI
    · rw [if_pos hz, decide_eq_true hz]; rfl
    · rw [if_neg hz, decide_eq_false hz]
      by_cases h1 : 1 ≤ numN (bl w2)
      · by_cases h2 : numN (bl w2) ≤ 99
        · rw [if_neg (by omega)]
          exact (by rw [decide_eq_true h1, decide_eq_true h2]; rfl)
        · rw [if_pos (by omega), decide_eq_true h1, decide_eq_false h2]; rfl
      · rw [if_pos (by omega), decide_eq_false h1]; rfl
  · intro h1 h2
    rw [hn2 h2]
theorem noid_v7 (w0 w1 w2 : ByteArray) (hv : vb w0 11 = 7) (h : identB (bl w1) = false) : (parseW [w0, w1, w2]).2 = false := by
  rw [parseW_v7 w0 w1 w2 hv, idR_no w1 h]
  rfl
theorem nonum_v7 (w0 w1 w2 : ByteArray) (hv : vb w0 11 = 7) (h : numN (bl w2) < 0) : (parseW [w0, w1, w2]).2 = false := by
  rw [parseW_v7 w0 w1 w2 hv, (numR_N w2 0 65536 (by decide) (by decide) (by decide)).1, decide_eq_false (show ¬ 0 ≤ numN (bl w2) by omega), Bool.false_and]
  exact ok2_r _ _
theorem agree_v7 (w0 w1 w2 : ByteArray) (hv : vb w0 11 = 7) (hid : identB (bl w1) = true) : Agree ⟨7, ⟨#[]⟩, midL (bl w1), 0, numN (bl w2), 0, 0, ⟨#[]⟩⟩ (chk ⟨7, ⟨#[]⟩, midL (bl w1), 0, numN (bl w2), 0, 0, ⟨#[120]⟩⟩ == 0) (parseW [w0, w1, w2]) := by
  rw [parseW_v7 w0 w1 w2 hv]
  rw [idR_yes w1 hid]
  obtain ⟨hn1, hn2⟩ := numR_N w2 0 65536 (by decide) (by decide) (by decide)
  refine Agree.mk2 ?_ ?_
  · rw [chk_v7 _ rfl (by unfold onlyC; rfl)]
    rw [hn1]
    dsimp only
    by_cases hz : midL (bl w1) = zI
    · rw [if_pos hz, decide_eq_true hz]; rfl
    · rw [if_neg hz, decide_eq_false hz]
      by_cases h1 : 0 ≤ numN (bl w2)
      · by_cases h2 : numN (bl w2) ≤ 65536
        · rw [if_neg (by omega)]
          exact (by rw [if_neg (show ¬ (⟨#[120]⟩ : ByteArray) = ⟨#[]⟩ by decide), if_neg (show ¬ 4096 < (⟨#[120]⟩ : ByteArray).size by decide), if_neg (show ¬ hasB (⟨#[120]⟩ : ByteArray) 13 = true by rw [has_x]; decide)]; rw [decide_eq_true h1, decide_eq_true h2]; rfl)
        · rw [if_pos (by omega), decide_eq_true h1, decide_eq_false h2]; rfl
      · rw [if_pos (by omega), decide_eq_false h1]; rfl
  · intro h1 h2
    rw [hn2 h2]
theorem noid_v8 (w0 w1 : ByteArray) (hv : vb w0 11 = 8) (h : identB (bl w1) = false) : (parseW [w0, w1]).2 = false := by
  rw [parseW_v8 w0 w1 hv, idR_no w1 h]
  rfl
theorem agree_v8 (w0 w1 : ByteArray) (hv : vb w0 11 = 8) (hid : identB (bl w1) = true) : Agree ⟨8, ⟨#[]⟩, midL (bl w1), 0, 0, 0, 0, ⟨#[]⟩⟩ (chk ⟨8, ⟨#[]⟩, midL (bl w1), 0, 0, 0, 0, ⟨#[]⟩⟩ == 0) (parseW [w0, w1]) := by
  rw [parseW_v8 w0 w1 hv]
  rw [idR_yes w1 hid]
  refine Agree.mk2 ?_ ?_
  · rw [chk_v8 _ rfl (by unfold onlyC; rfl)]
    dsimp only
    by_cases hz : midL (bl w1) = zI
    · rw [if_pos hz, decide_eq_true hz]; rfl
    · rw [if_neg hz, decide_eq_false hz]; rfl
  · intro h1 h2
    rfl
theorem noid_v9 (w0 w1 : ByteArray) (hv : vb w0 11 = 9) (h : identB (bl w1) = false) : (parseW [w0, w1]).2 = false := by
  rw [parseW_v9 w0 w1 hv, idR_no w1 h]
  rfl
theorem agree_v9 (w0 w1 : ByteArray) (hv : vb w0 11 = 9) (hid : identB (bl w1) = true) : Agree ⟨9, ⟨#[]⟩, midL (bl w1), 0, 0, 0, 0, ⟨#[]⟩⟩ (chk ⟨9, ⟨#[]⟩, midL (bl w1), 0, 0, 0, 0, ⟨#[]⟩⟩ == 0) (parseW [w0, w1]) := by
  rw [parseW_v9 w0 w1 hv]
  rw [idR_yes w1 hid]
  refine Agree.mk2 ?_ ?_
  · rw [chk_v9 _ rfl (by unfold onlyC; rfl)]
    dsimp only
    by_cases hz : midL (bl w1) = zI
    · rw [if_pos hz, decide_eq_true hz]; rfl
    · rw [if_neg hz, decide_eq_false hz]; rfl
  · intro h1 h2
    rfl
theorem agree_v10 (w0 : ByteArray) (hv : vb w0 11 = 10) : Agree ⟨10, ⟨#[]⟩, zI, 0, 0, 0, 0, ⟨#[]⟩⟩ (chk ⟨10, ⟨#[]⟩, zI, 0, 0, 0, 0, ⟨#[120]⟩⟩ == 0) (parseW [w0]) := by
  rw [parseW_v10 w0 hv]
  refine Agree.mk2 ?_ ?_
  · rw [chk_v10 _ rfl (by unfold onlyC; rfl)]
    rw [if_neg (by decide), if_neg (by decide), if_neg (by rw [has_x]; decide)]
    rfl
  · intro h1 h2
    rfl
theorem agree_v11 (w0 : ByteArray) (hv : vb w0 11 = 11) : Agree ⟨11, ⟨#[]⟩, zI, 0, 0, 0, 0, ⟨#[]⟩⟩ (chk ⟨11, ⟨#[]⟩, zI, 0, 0, 0, 0, ⟨#[]⟩⟩ == 0) (parseW [w0]) := by
  rw [parseW_v11 w0 hv]
  refine Agree.mk2 ?_ ?_
  · rw [chk_v11 _ rfl (by unfold onlyC; rfl)]
    rfl
  · intro h1 h2
    rfl
end Go.Proofs.YtfbpipknhghneaaGreatDoor
