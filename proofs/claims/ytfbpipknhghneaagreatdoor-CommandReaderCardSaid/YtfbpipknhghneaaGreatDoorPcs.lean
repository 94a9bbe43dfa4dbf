/- The commands that bytes in pieces make: plain laws; slices of commands that are read. -/
import Derived.Test.YtfbpipknhghneaaGreatDoorFeed
import Derived.Test.YtfbpipknhghneaaGreatDoorPlA
namespace Go.Proofs.YtfbpipknhghneaaGreatDoor
open Go.RowKit
def catC (W : List Cm) : List UInt8 := (W.map encT).flatten
theorem catC_cons (c : Cm) (W : List Cm) : catC (c :: W) = encT c ++ catC W := rfl
theorem catC_snoc (W : List Cm) (c : Cm) : catC (W ++ [c]) = catC W ++ encT c := by simp [catC]
theorem feed_nil : feedL [] = ([], [], 0) := rfl
theorem feed_round (c : Cm) (h : chk c = 0) (rest : List UInt8) : feedL (encT c ++ rest) = (c :: (feedL rest).1, (feedL rest).2.1, (feedL rest).2.2) := by
  rw [feedL_ok (dec_round c h rest), List.drop_left]
theorem feed_all : ∀ (W : List Cm), (∀ c ∈ W, chk c = 0) → feedL (catC W) = (W, [], 0)
  | [], _ => rfl
  | c :: W, h => by
    rw [catC_cons, feed_round c (h c List.mem_cons_self), feed_all W fun x hx => h x (List.mem_cons_of_mem _ hx)]
theorem feed_part : ∀ (W : List Cm), (∀ c ∈ W, chk c = 0) → ∀ l rest : List UInt8, l ++ rest = catC W →
    ∃ (got pend : List Cm) (wt : List UInt8), feedL l = (got, wt, 0) ∧ W = got ++ pend ∧ wt ++ rest = catC pend
  | [], _, l, rest, e => by
    obtain ⟨rfl, rfl⟩ := List.append_eq_nil_iff.1 (show l ++ rest = [] from e)
    exact ⟨[], [], [], rfl, rfl, rfl⟩
  | c :: W, h, l, rest, e => by
    have hc := h c List.mem_cons_self
    rw [catC_cons] at e
    by_cases hl : (encT c).length ≤ l.length
    · obtain ⟨l2, rfl⟩ : ∃ l2, l = encT c ++ l2 := by
        have h1 : (l ++ rest).take (encT c).length = encT c := by rw [e, List.take_left]
        rw [List.take_append_of_le_length hl] at h1
        exact ⟨l.drop (encT c).length, by rw [← h1, List.length_take, Nat.min_eq_left hl]; exact (List.take_append_drop _ _).symm⟩
      rw [List.append_assoc] at e
      obtain ⟨got, pend, wt, h1, h2, h3⟩ := feed_part W (fun x hx => h x (List.mem_cons_of_mem _ hx)) l2 rest (List.append_cancel_left e)
      exact ⟨c :: got, pend, wt, by rw [feed_round c hc, h1], by rw [h2]; rfl, h3⟩
    · have h1 : l = (encT c).take l.length := by
        have h2 : (l ++ rest).take l.length = l := List.take_left
        rw [e, List.take_append_of_le_length (by omega)] at h2
        exact h2.symm
      have h2 : decL l = (zC, 0, 4) := by
        rw [h1]
        exact dec_short c hc l.length (by omega)
      exact ⟨[], c :: W, l, feedL_short h2, rfl, by rw [catC_cons]; exact e⟩
theorem chk_enc (c : Cm) (h : chk c ≠ 0) : encT c = [] := encT_no c h
/-! ### slices of commands, read -/
theorem Sl.cm {w : World} {A : Option Addr} {xs : List Cm} (h : Sl w cC A xs) {k : Nat} (hk : k < xs.length) : ∃ ad, A = some ad ∧ okA w (ad.add (k * 39)) 39 = true ∧ rdA w (ad.add (k * 39)) 39 = vC xs[k] ∧ At w (ad.add (k * 39)) (cC xs[k]) := by
  obtain ⟨ad, rfl, hat⟩ := Sl.at_ cC_length h hk
  have h1 := hat.ok
  have h2 := hat.rd
  rw [cC_length] at h1 h2
  exact ⟨ad, rfl, h1, h2, hat⟩
theorem catC_append (V W : List Cm) : catC (V ++ W) = catC V ++ catC W := by simp [catC]
/-- Feed of the next m bytes of what valid commands make. -/
theorem feed_pc (s2 wt : ByteArray) (m : Nat) (pend : List Cm) (wr u : World) (r : Nat) (hb0 : Below u.heap.size u wr) (hR : RdAt r wt 0 wr) (hr0 : u.heap.size ≤ r) (hL : Laid u) (hs : wt.size + s2.size ≤ 1000000)
    (hm : m ≤ s2.size) (hp : ∀ c ∈ pend, chk c = 0) (hcat : bl wt ++ bl s2 = catC pend) :
    Calls Tryz.prog 6 #[.pointer (some ⟨r, 0, none⟩), .string (s2.extract 0 m)] wr fun e w' => ∃ (A : Option Addr) (c : Nat) (g pend' : List Cm) (wt' : ByteArray),
      e = .returned (.tuple #[.slice A g.length c, .int .i64 0]) ∧ pend = g ++ pend' ∧ bl wt' ++ bl (s2.extract m s2.size) = catC pend' ∧ (m = s2.size → pend' = [] ∧ wt'.size = 0) ∧ wt'.size ≤ wt.size + m ∧ Sl w' cC A g ∧ RdAt r wt' 0 w' ∧ One r wr w' := by
  have e1 : bl (s2.extract 0 m) = (bl s2).take m := by rw [bl_seg s2 0 m hm]; unfold seg; rw [List.drop_zero, Nat.sub_zero]
  have e2 := bl_rest s2 m
  have e3 : (bl wt ++ (bl s2).take m) ++ (bl s2).drop m = catC pend := by rw [List.append_assoc, List.take_append_drop, hcat]
  have hsz : (s2.extract 0 m).size = m := by rw [ByteArray.size_extract]; omega
  refine (feed25 (s2.extract 0 m) wr u r wt hb0 hR hr0 hL (by omega)).mono ?_
  rintro e w' ⟨v, cs, wt', fl, rfl, hf, hO, hR', h1⟩
  obtain ⟨got, p2, wl, f1, f2, f3⟩ := feed_part pend hp _ _ e3
  rw [e1, f1] at hf
  obtain ⟨rfl, hf2⟩ := Prod.mk.inj hf
  obtain ⟨hwl, rfl⟩ := Prod.mk.inj hf2
  obtain ⟨A, c, rfl, hc, hsl⟩ := Own.sl hO
  have hlen : (bl wt').length + ((bl s2).drop m).length = (catC p2).length := by rw [← hwl, ← List.length_append, f3]
  have hle : (catC p2).length ≤ (catC pend).length := by rw [f2, catC_append, List.length_append]; omega
  rw [← hcat, List.length_append, bl_length, bl_length] at hle
  rw [List.length_drop, bl_length, bl_length] at hlen
  refine ⟨A, c, got, p2, wt', rfl, f2, by rw [e2, ← hwl]; exact f3, fun h => ?_, by omega, hsl, hR', h1⟩
  have hall := feed_all pend hp
  rw [← e3, List.drop_eq_nil_of_le (by rw [bl_length]; omega), List.append_nil, f1] at hall
  obtain ⟨h5, h6⟩ := Prod.mk.inj hall
  obtain ⟨h7, _⟩ := Prod.mk.inj h6
  have h8 : p2 = [] := by
    have := f2
    rw [h5] at this
    exact (List.append_right_eq_self.1 this.symm)
  exact ⟨h8, by rw [← bl_length, ← hwl, h7]; rfl⟩
end Go.Proofs.YtfbpipknhghneaaGreatDoor
