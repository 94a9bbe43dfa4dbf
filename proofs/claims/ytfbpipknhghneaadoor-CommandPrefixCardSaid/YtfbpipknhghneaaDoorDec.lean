/- command.Decode. -/
import Derived.Test.YtfbpipknhghneaaDoorPa
import Derived.Lib.IndexLaws
namespace Go.Proofs.YtfbpipknhghneaaDoor
open Go.RowKit
/-- The command at the beginning of bytes, how many bytes it has, or the error. -/
def decL (l : List UInt8) : Cm × Nat × Int :=
  if Lib.indexByte l 10 < 0 then (if 200 < l.length then (zC, 0, 5) else (zC, 0, 4))
  else if 201 < (Lib.indexByte l 10).toNat then (zC, 0, 5)
  else if (Lib.indexByte l 10).toNat = 0 ∨ l.getD ((Lib.indexByte l 10).toNat - 1) 0 ≠ 13 then (zC, 0, 6)
  else if (parseL (l.take ((Lib.indexByte l 10).toNat - 1))).2 = false then (zC, 0, 29)
  else if bits BinOp.and .i64 (flOf (parseL (l.take ((Lib.indexByte l 10).toNat - 1))).1.verb.toNat) 64 == 0 then ((parseL (l.take ((Lib.indexByte l 10).toNat - 1))).1, (Lib.indexByte l 10).toNat + 1, 0)
  else if (unL (l.drop ((Lib.indexByte l 10).toNat + 1))).2.2 ≠ 0 then (zC, 0, (unL (l.drop ((Lib.indexByte l 10).toNat + 1))).2.2)
  else if chk { (parseL (l.take ((Lib.indexByte l 10).toNat - 1))).1 with text := mkB (unL (l.drop ((Lib.indexByte l 10).toNat + 1))).1 } ≠ 0 then (zC, 0, chk { (parseL (l.take ((Lib.indexByte l 10).toNat - 1))).1 with text := mkB (unL (l.drop ((Lib.indexByte l 10).toNat + 1))).1 })
  else ({ (parseL (l.take ((Lib.indexByte l 10).toNat - 1))).1 with text := mkB (unL (l.drop ((Lib.indexByte l 10).toNat + 1))).1 }, (Lib.indexByte l 10).toNat + 1 + (unL (l.drop ((Lib.indexByte l 10).toNat + 1))).2.1, 0)
/-- Decode, the line's end at k. -/
theorem dec_no (l : List UInt8) (h : Lib.indexByte l 10 = -1) : decL l = if 200 < l.length then (zC, 0, 5) else (zC, 0, 4) := by
  unfold decL
  rw [h, if_pos (by decide)]
section
variable {l : List UInt8} {k : Nat} (h : Lib.indexByte l 10 = (k : Int))
include h
theorem dec_long (h1 : 201 < k) : decL l = (zC, 0, 5) := by
  unfold decL
  rw [h, if_neg (by omega), Int.toNat_natCast, if_pos h1]
theorem dec_byte (h1 : ¬ 201 < k) (h2 : k = 0 ∨ l.getD (k - 1) 0 ≠ 13) : decL l = (zC, 0, 6) := by
  unfold decL
  rw [h, if_neg (by omega), Int.toNat_natCast, if_neg h1, if_pos h2]
variable (h1 : ¬ 201 < k) (h2 : ¬ (k = 0 ∨ l.getD (k - 1) 0 ≠ 13)) {c : Cm}
include h1 h2
theorem dec_syn {b : Cm} (hp : parseL (l.take (k - 1)) = (b, false)) : decL l = (zC, 0, 29) := by
  unfold decL
  rw [h, if_neg (by omega), Int.toNat_natCast, if_neg h1, if_neg h2, hp, if_pos rfl]
variable (hp : parseL (l.take (k - 1)) = (c, true))
include hp
theorem dec_plain (h3 : (bits BinOp.and .i64 (flOf c.verb.toNat) 64 == 0) = true) : decL l = (c, k + 1, 0) := by
  unfold decL
  rw [h, if_neg (by omega), Int.toNat_natCast, if_neg h1, if_neg h2, hp, if_neg (by simp), if_pos h3]
variable (h3 : (bits BinOp.and .i64 (flOf c.verb.toNat) 64 == 0) = false) {t : ByteArray} {n : Nat} {e : Int}
include h3
theorem dec_un (hu : unL (l.drop (k + 1)) = (bl t, n, e)) (he : e ≠ 0) : decL l = (zC, 0, e) := by
  unfold decL
  rw [h, if_neg (by omega), Int.toNat_natCast, if_neg h1, if_neg h2, hp, if_neg (by simp), if_neg (by rw [h3]; decide), hu, if_pos he]
theorem dec_chk (hu : unL (l.drop (k + 1)) = (bl t, n, 0)) (he : chk { c with text := t } ≠ 0) : decL l = (zC, 0, chk { c with text := t }) := by
  unfold decL
  rw [h, if_neg (by omega), Int.toNat_natCast, if_neg h1, if_neg h2, hp, if_neg (by simp), if_neg (by rw [h3]; decide), hu, if_neg (by simp)]
  show (if chk { c with text := t } ≠ 0 then _ else _) = _
  rw [if_pos he]
  rfl
theorem dec_text (hu : unL (l.drop (k + 1)) = (bl t, n, 0)) (he : chk { c with text := t } = 0) : decL l = ({ c with text := t }, k + 1 + n, 0) := by
  unfold decL
  rw [h, if_neg (by omega), Int.toNat_natCast, if_neg h1, if_neg h2, hp, if_neg (by simp), if_neg (by rw [h3]; decide), hu, if_neg (by simp)]
  show (if chk { c with text := t } ≠ 0 then _ else _) = _
  rw [if_neg (by rw [he]; decide)]
  rfl
end
theorem stepP_verb (fl a : Int) (st : PSt) : (stepP fl a st).2.2.verb = st.2.2.verb := by
  obtain ⟨b, ws, c⟩ := st
  unfold stepP
  split
  · rfl
  · cases b with
    | false => rfl
    | true =>
      cases ws with
      | nil => rfl
      | cons x r => exact readF_verb a x c
theorem fold_verb (fl : Int) : ∀ (xs : List (Int × Nat)) (st : PSt), (xs.foldl (fun st p => stepP fl p.1 st) st).2.2.verb = st.2.2.verb := by
  intro xs
  induction xs with
  | nil => intro st; rfl
  | cons p r ih => intro st; rw [List.foldl_cons, ih, stepP_verb]
theorem parseW_verb (ws : List ByteArray) (c : Cm) (h : parseW ws = (c, true)) : ∃ v : Nat, 1 ≤ v ∧ v ≤ 11 ∧ c.verb = (v : Int) := by
  unfold parseW at h
  split at h
  · simp at h
  · next h0 =>
    simp only at h
    split at h
    · refine ⟨vb (ws.headD ⟨#[]⟩) 11, by omega, vb_le _ _, ?_⟩
      rw [← (Prod.mk.inj h).1, fold_verb]
    · simp at h
def NmOk (B : Nat) (st : PSt) : Prop := st.2.2.name.size ≤ B ∧ ∀ x ∈ st.2.1, x.size ≤ B
theorem readF_name (a : Int) (s : ByteArray) (c : Cm) : (readF a s c).1.name = c.name ∨ (readF a s c).1.name = s := by
  unfold readF
  repeat' split
  all_goals first | exact Or.inl rfl | exact Or.inr rfl
theorem stepP_name (B : Nat) (fl a : Int) (st : PSt) (h : NmOk B st) : NmOk B (stepP fl a st) := by
  obtain ⟨b, ws, c⟩ := st
  obtain ⟨h1, h2⟩ := h
  unfold stepP
  split
  · exact ⟨h1, h2⟩
  · cases b with
    | false => exact ⟨h1, fun x hx => h2 x (List.mem_of_mem_drop hx)⟩
    | true =>
      cases ws with
      | nil => exact ⟨h1, fun x hx => by cases hx⟩
      | cons x r =>
        refine ⟨?_, fun y hy => h2 y (List.mem_cons_of_mem _ hy)⟩
        show (readF a x c).1.name.size ≤ B
        rcases readF_name a x c with e | e
        · rw [e]; exact h1
        · rw [e]; exact h2 x List.mem_cons_self
theorem fold_name (B : Nat) (fl : Int) : ∀ (xs : List (Int × Nat)) (st : PSt), NmOk B st → NmOk B (xs.foldl (fun st p => stepP fl p.1 st) st) := by
  intro xs
  induction xs with
  | nil => intro st h; exact h
  | cons p r ih => intro st h; rw [List.foldl_cons]; exact ih _ (stepP_name B fl p.1 st h)
theorem parseL_name (l : List UInt8) : (parseL l).1.name.size ≤ l.length := by
  unfold parseL parseW
  split
  · exact Nat.zero_le _
  · simp only
    split
    · refine (fold_name l.length _ rdL _ ⟨Nat.zero_le _, fun x hx => ?_⟩).1
      obtain ⟨y, hy, rfl⟩ := List.mem_map.1 (List.mem_of_mem_drop hx)
      have h9 := splitGo_mem 32 l [] y hy
      rw [← bl_length]
      show y.length ≤ l.length
      simpa using h9
    · exact Nat.zero_le _
theorem Row.setRow {w : World} {b : Nat} {cs : List Value} {t : TypeId} (h : Row w b cs t) (ds : List Value) : Row (w.setRow b ds.toArray) b ds t :=
  setRow_heap w b cs.toArray ds.toArray t (0, 0) h
theorem setRow_row (c : Cm) {w : World} {b : Nat} {cs : List Value} (h : Row w b cs 27) : Row (w.setRow b (aC c)) b (cC c) 27 := Row.setRow h (cC c)
theorem One.setRow {w : World} (b : Nat) (ds : Array Value) : One b w (w.setRow b ds) := by
  refine ⟨rfl, rfl, rfl, by simp [World.setRow], fun k _ hk => ?_⟩
  show (w.heap.modify b _)[k]? = _
  rw [Array.getElem?_modify, if_neg (fun e => hk e.symm)]
theorem unGo_le : ∀ (f : Nat) (first : Bool) (text : List UInt8) (n : Nat) (s : List UInt8), (unGo f first text n s).2.1 ≤ n + s.length := by
  intro f
  induction f with
  | zero => intro first text n s; exact Nat.zero_le _
  | succ f ih =>
    intro first text n s
    obtain ⟨e, k, hr⟩ : ∃ e k, flGo 0 s 0 = (e, k) := ⟨_, _, rfl⟩
    by_cases he : e = 0
    · subst he
      have hk := flGo_lt _ _ _ _ hr
      rw [unGo_ok f first text n s k hr]
      by_cases q1 : s.take (k - 1) = [46]
      · rw [if_pos q1]
        cases first
        · show n + (k + 1) ≤ _
          omega
        · exact Nat.zero_le _
      · rw [if_neg q1]
        by_cases q2 : (s.take (k - 1)).head? = some 46 ∧ (s.take (k - 1))[1]? ≠ some 46
        · rw [if_pos q2]
          exact Nat.zero_le _
        · rw [if_neg q2]
          generalize preL first text ++ (if (s.take (k - 1)).head? = some 46 then (s.take (k - 1)).drop 1 else s.take (k - 1)) = T
          by_cases q3 : 262144 < T.length
          · rw [if_pos q3]
            exact Nat.zero_le _
          · rw [if_neg q3]
            have := ih false T (n + (k + 1)) (s.drop (k + 1))
            rw [List.length_drop] at this
            omega
    · rw [unGo_err f first text n s e k hr he]
      exact Nat.zero_le _
theorem unL_le (s : List UInt8) : (unL s).2.1 ≤ s.length := by
  have := unGo_le (s.length + 1) true [] 0 s
  unfold unL
  omega
theorem index_nat (l : List UInt8) (c : UInt8) (h : Lib.indexByte l c ≠ -1) : ∃ k : Nat, Lib.indexByte l c = (k : Int) ∧ k < l.length := by
  have hge := Lib.indexByte_ge l c
  obtain ⟨k, hk⟩ : ∃ k : Nat, Lib.indexByte l c = k := ⟨(Lib.indexByte l c).toNat, by omega⟩
  exact ⟨k, hk, (List.getElem?_eq_some_iff.1 (Lib.indexByte_some hk).1).1⟩
set_option maxRecDepth 100000 in
set_option maxHeartbeats 6400000 in
theorem decode12 (s : ByteArray) (w : World) (hs : s.size ≤ 1000000) (hL : Laid w) : Calls Tryd.prog 12 #[.string s] w fun e w' => e = .returned (.tuple #[vC (decL (bl s)).1, .int .i64 (decL (bl s)).2.1, .int .i64 (decL (bl s)).2.2]) ∧ Below w.heap.size w w' := by
  obtain ⟨r0, hr0⟩ : ∃ r0, w.heap.size = r0 := ⟨_, rfl⟩
  have HB0 := Lib.hid (below_alloc w (.cells (aC zC) 27))
  have HR0 := Lib.hid (show Row (w.alloc (.cells (aC zC) 27)) r0 (cC zC) 27 by rw [← hr0]; exact Row.new w (cC zC) 27)
  obtain ⟨W1, hW1⟩ : ∃ W1, w.alloc (.cells (aC zC) 27) = W1 := ⟨_, rfl⟩
  rw [hW1] at HB0 HR0
  have HL1 := Lib.hid (hL.keep HB0.out)
  have ro := HR0.out.rowOk (cC_length zC)
  have HBR := Lib.hid (show Below r0 w W1 by rw [← hr0]; exact HB0.out)
  have H29 := Lib.hid (fun w1 => Tryd.strings_IndexByte s 10 w1)
  have HBL := Lib.hid (bl_length s)
  by_cases hi : Lib.indexByte (bl s) 10 = -1
  · have HI := Lib.hid (dec_no (bl s) hi)
    have hi2 : Lib.indexByte s.data.toList (10 : Int).toNat.toUInt8 = -1 := hi
    rw [hi2] at H29
    by_cases hl : 200 < s.size
    · have HX := Lib.hid (show decL (bl s) = (zC, 0, 5) by rw [HI.out, if_pos (by rw [bl_length]; exact hl)])
      clear hi hi2
      go_enter Tryd.func12, Tryd.ntmps12
      go_wp2_with (go_at_call 29; refine (H29.out _).mono ?_; rintro e w1 ⟨rfl, rfl⟩)
      exact bodyPost_ret (v := .tuple #[vC zC, .int .i64 0, .int .i64 5]) (results_c3 (ad := ⟨r0, 0, none⟩) rfl rfl (ld_setRow zC ro) rfl rfl) rfl ⟨by rw [HX.out]; rfl, by first | exact Below.setRow HB0.out (Nat.le_of_eq hr0) _ | exact Below.setRow HBR.out (Nat.le_refl _) _⟩
    · have HX := Lib.hid (show decL (bl s) = (zC, 0, 4) by rw [HI.out, if_neg (by rw [bl_length]; exact hl)])
      clear hi hi2
      go_enter Tryd.func12, Tryd.ntmps12
      go_wp2_with (go_at_call 29; refine (H29.out _).mono ?_; rintro e w1 ⟨rfl, rfl⟩)
      exact bodyPost_ret (v := .tuple #[vC zC, .int .i64 0, .int .i64 4]) (results_c3 (ad := ⟨r0, 0, none⟩) rfl rfl (ld_setRow zC ro) rfl rfl) rfl ⟨by rw [HX.out]; rfl, by first | exact Below.setRow HB0.out (Nat.le_of_eq hr0) _ | exact Below.setRow HBR.out (Nat.le_refl _) _⟩
  obtain ⟨k, hk, hks⟩ := index_nat (bl s) 10 hi
  rw [bl_length] at hks
  have hi2 : Lib.indexByte s.data.toList (10 : Int).toNat.toUInt8 = (k : Int) := hk
  rw [hi2] at H29
  have HKI := Lib.hid hk
  clear hi hi2 hk
  by_cases h201 : 201 < k
  · have HX := Lib.hid (dec_long HKI.out h201)
    have hki : 201 < (k : Int) := by omega
    go_enter Tryd.func12, Tryd.ntmps12
    go_wp2_with (go_at_call 29; refine (H29.out _).mono ?_; rintro e w1 ⟨rfl, rfl⟩)
    exact bodyPost_ret (v := .tuple #[vC zC, .int .i64 0, .int .i64 5]) (results_c3 (ad := ⟨r0, 0, none⟩) rfl rfl (ld_setRow zC ro) rfl rfl) rfl ⟨by rw [HX.out]; rfl, by first | exact Below.setRow HB0.out (Nat.le_of_eq hr0) _ | exact Below.setRow HBR.out (Nat.le_refl _) _⟩
  have hki : ¬ 201 < (k : Int) := by omega
  cases k with
  | zero =>
    have HX := Lib.hid (dec_byte HKI.out h201 (Or.inl rfl))
    go_enter Tryd.func12, Tryd.ntmps12
    go_wp2_with (go_at_call 29; refine (H29.out _).mono ?_; rintro e w1 ⟨rfl, rfl⟩)
    exact bodyPost_ret (v := .tuple #[vC zC, .int .i64 0, .int .i64 6]) (results_c3 (ad := ⟨r0, 0, none⟩) rfl rfl (ld_setRow zC ro) rfl rfl) rfl ⟨by rw [HX.out]; rfl, by first | exact Below.setRow HB0.out (Nat.le_of_eq hr0) _ | exact Below.setRow HBR.out (Nat.le_refl _) _⟩
  | succ j =>
    have hj : j < s.size := by omega
    have hgd : (bl s).getD (j + 1 - 1) 0 = s[j] := by rw [Nat.add_sub_cancel]; exact getD_at s j hj
    by_cases h13 : s[j] = 13
    case neg =>
      have e13 : (((s[j].toNat : Nat) : Int) != 13) = true := by
        unfold bne
        rw [show (13 : Int) = (((13 : UInt8).toNat : Nat) : Int) from rfl, byte_is]
        simpa using h13
      have HX := Lib.hid (dec_byte HKI.out h201 (Or.inr (by rw [hgd]; exact h13)))
      clear h13 hgd
      go_enter Tryd.func12, Tryd.ntmps12
      go_wp2_with (go_at_call 29; refine (H29.out _).mono ?_; rintro e w1 ⟨rfl, rfl⟩)
      exact bodyPost_ret (v := .tuple #[vC zC, .int .i64 0, .int .i64 6]) (results_c3 (ad := ⟨r0, 0, none⟩) rfl rfl (ld_setRow zC ro) rfl rfl) rfl ⟨by rw [HX.out]; rfl, by first | exact Below.setRow HB0.out (Nat.le_of_eq hr0) _ | exact Below.setRow HBR.out (Nat.le_refl _) _⟩
    have e13 : (((s[j].toNat : Nat) : Int) != 13) = false := by
      unfold bne
      rw [show (13 : Int) = (((13 : UInt8).toNat : Nat) : Int) from rfl, byte_is]
      simpa using h13
    have HN2 := Lib.hid (show ¬ (j + 1 = 0 ∨ (bl s).getD (j + 1 - 1) 0 ≠ 13) by rw [hgd, h13]; simp)
    have hbl : bl (s.extract 0 j) = (bl s).take (j + 1 - 1) := by
      rw [bl_seg s 0 j (by omega)]
      unfold seg
      rw [List.drop_zero, Nat.sub_zero, Nat.add_sub_cancel]
    obtain ⟨⟨c1, ok⟩, hpp⟩ : ∃ r, parseL ((bl s).take (j + 1 - 1)) = r := ⟨_, rfl⟩
    have H30 := Lib.hid (fun w1 (hl : Laid w1) => parse30 (s.extract 0 j) w1 (by rw [ByteArray.size_extract]; omega) hl)
    rw [hbl, hpp] at H30
    have HPP := Lib.hid hpp
    clear hgd h13 hbl hpp
    cases ok with
    | false =>
      have HX := Lib.hid (dec_syn HKI.out h201 HN2.out HPP.out)
      go_enter Tryd.func12, Tryd.ntmps12
      go_wp2_with (first
        | (go_at_call 29; refine (H29.out _).mono ?_; rintro e w1 ⟨rfl, rfl⟩)
        | (go_at_call 30; refine (H30.out _ HL1.out).mono ?_; rintro e w2 ⟨rfl, hb2⟩; have hrow := HR0.out.keep hb2; have ro1 := hrow.rowOk (cC_length zC); have ro2 := (setRow_row c1 hrow).rowOk (cC_length c1); have H2 := Lib.hid hb2; clear hb2 hrow))
      exact bodyPost_ret (v := .tuple #[vC zC, .int .i64 0, .int .i64 29]) (results_c3 (ad := ⟨r0, 0, none⟩) rfl rfl (ld_setRow zC ro2) rfl rfl) rfl ⟨by rw [HX.out]; rfl, Below.setRow (Below.setRow (HB0.out.trans (H2.out.mono HB0.out.size)) (Nat.le_of_eq hr0) _) (Nat.le_of_eq hr0) _⟩
    | true =>
      obtain ⟨v, hv1, hv11, hcv⟩ := parseW_verb _ c1 HPP.out
      have hvf : v < formsL.length := by show v < 12; omega
      obtain ⟨fl, hfl⟩ : ∃ fl, formsL[v].2.1 = fl := ⟨_, rfl⟩
      have hflv : flOf c1.verb.toNat = fl := by rw [hcv, Int.toNat_natCast]; unfold flOf; rw [List.getElem?_eq_getElem hvf]; exact hfl
      have HV := Lib.hid (And.intro hcv (And.intro hfl hflv))
      have hvL : (v : Int) < 12 := by omega
      have hr0f : r0 ≠ 0 := by have := hL.forms.lt0; omega
      have hnm : c1.name.size ≤ 1000000 := by
        have h1 := parseL_name ((bl s).take (j + 1 - 1))
        rw [HPP.out, List.length_take, bl_length] at h1
        have h2 : c1.name.size ≤ min (j + 1 - 1) s.size := h1
        omega
      have HNM := Lib.hid hnm
      clear hcv hfl hflv hnm
      obtain ⟨z, hz⟩ : ∃ z, (bits BinOp.and .i64 fl 64 == 0) = z := ⟨_, rfl⟩
      have HZ := Lib.hid (show (bits BinOp.and .i64 (flOf c1.verb.toNat) 64 == 0) = z by rw [HV.out.2.2]; exact hz)
      cases z with
      | true =>
        have HX := Lib.hid (dec_plain HKI.out h201 HN2.out HPP.out HZ.out)
        go_enter Tryd.func12, Tryd.ntmps12
        go_wp2_with (first
          | (go_at_call 29; refine (H29.out _).mono ?_; rintro e w1 ⟨rfl, rfl⟩)
          | (go_at_call 30; refine (H30.out _ HL1.out).mono ?_; rintro e w2 ⟨rfl, hb2⟩; have hrow := HR0.out.keep hb2; have ro1 := hrow.rowOk (cC_length zC); have hrow3 := setRow_row c1 hrow; have ro3 := hrow3.rowOk (cC_length c1); have c0 : (w2.setRow r0 (aC c1)).cell? ⟨r0, 0, none⟩ = some (.int .i64 (v : Int)) := (by rw [← HV.out.1]; exact hrow3.cell 0); have hf2 := (HL1.out.keep hb2).forms; have hf3 := hf2.keep1 (One.setRow r0 (aC c1)) hr0f hf2.lt0; have cf := hf3.w1 hvf; rw [HV.out.2.1] at cf; obtain ⟨q1, q2⟩ := hrow3.okw (cC_length c1); change rdA _ _ 39 = vC c1 at q2; have H3 := Lib.hid (And.intro hb2 (And.intro hrow3 hf3)); clear hb2 hrow hrow3 hf2 hf3))
        exact bodyPost_ret (v := .tuple #[vC c1, .int .i64 ((j : Int) + 1 + 1), .int .i64 0]) (results_c3 (ad := ⟨r0, 0, none⟩) rfl rfl (ld_setRow c1 ro3) rfl rfl) rfl ⟨by rw [HX.out]; rfl, (Below.setRow (Below.setRow (HB0.out.trans (H3.out.1.mono HB0.out.size)) (Nat.le_of_eq hr0) _) (Nat.le_of_eq hr0) _)⟩
      | false =>
        have hbu : bl (s.extract (j + 1 + 1) s.size) = (bl s).drop (j + 1 + 1) := bl_from s _
        obtain ⟨⟨ul, un, ue⟩, hu⟩ : ∃ r, unL ((bl s).drop (j + 1 + 1)) = r := ⟨_, rfl⟩
        obtain ⟨t0, rfl⟩ : ∃ t0 : ByteArray, bl t0 = ul := ⟨mkB ul, rfl⟩
        have H19 := Lib.hid (fun w1 => unstuff19 (s.extract (j + 1 + 1) s.size) w1 (by rw [ByteArray.size_extract]; omega))
        rw [hbu, hu] at H19
        have HU := Lib.hid hu
        clear hbu hu
        by_cases hue : ue = 0
        case neg =>
          have hueb : (ue != 0) = true := by simpa using hue
          have HX := Lib.hid (dec_un HKI.out h201 HN2.out HPP.out HZ.out HU.out hue)
          clear hue
          go_enter Tryd.func12, Tryd.ntmps12
          go_wp2_with (first
            | (go_at_call 29; refine (H29.out _).mono ?_; rintro e w1 ⟨rfl, rfl⟩)
            | (go_at_call 30; refine (H30.out _ HL1.out).mono ?_; rintro e w2 ⟨rfl, hb2⟩; have hrow := HR0.out.keep hb2; have ro1 := hrow.rowOk (cC_length zC); have hrow3 := setRow_row c1 hrow; have ro3 := hrow3.rowOk (cC_length c1); have c0 : (w2.setRow r0 (aC c1)).cell? ⟨r0, 0, none⟩ = some (.int .i64 (v : Int)) := (by rw [← HV.out.1]; exact hrow3.cell 0); have hf2 := (HL1.out.keep hb2).forms; have hf3 := hf2.keep1 (One.setRow r0 (aC c1)) hr0f hf2.lt0; have cf := hf3.w1 hvf; rw [HV.out.2.1] at cf; obtain ⟨q1, q2⟩ := hrow3.okw (cC_length c1); change rdA _ _ 39 = vC c1 at q2; have H3 := Lib.hid (And.intro hb2 (And.intro hrow3 hf3)); clear hb2 hrow hrow3 hf2 hf3)
            | (go_at_call 19; refine (H19.out _).mono ?_; rintro e w3 ⟨t, rfl, ht, hb3⟩; obtain rfl : t = t0 := bl_inj ht; have hrow4 := H3.out.2.1.keep hb3; have ro4 := hrow4.rowOk (cC_length c1); have c38 : w3.cell? ⟨r0, 38, none⟩ = some (.string c1.text) := (hrow4.cell 38).trans (cC_at (aC_38 c1)); have f38 := hrow4.fz 38; have hrow5 := hrow4.set 38 (.string t); rw [cC_set38] at hrow5; obtain ⟨q3, q4⟩ := hrow5.okw (cC_length _); change rdA _ _ 39 = vC _ at q4; have H4 := Lib.hid (And.intro hb3 (And.intro hrow5 ((H3.out.2.2.keep hb3).keep1 (One.set (g := r0) 38 (.string t)) hr0f (H3.out.2.2.keep hb3).lt0))); clear hb3 hrow4 hrow5 ht))
          exact bodyPost_ret (v := .tuple #[vC zC, .int .i64 0, .int .i64 ue]) (results_c3 (ad := ⟨r0, 0, none⟩) rfl rfl (ld_setRow zC ro4) rfl rfl) rfl ⟨by rw [HX.out]; rfl, (Below.setRow (Below.trans (Below.setRow (HB0.out.trans (H3.out.1.mono HB0.out.size)) (Nat.le_of_eq hr0) _) (H4.out.1.mono (show w.heap.size ≤ (w2.setRow r0 (aC c1)).heap.size from (Below.setRow (HB0.out.trans (H3.out.1.mono HB0.out.size)) (Nat.le_of_eq hr0) _).size))) (Nat.le_of_eq hr0) _)⟩
        subst hue
        have H16 := Lib.hid (fun w1 (hf : FormsAt w1) => check16 { c1 with text := t0 } w1 hf HNM.out)
        obtain ⟨ce, hce⟩ : ∃ ce, chk { c1 with text := t0 } = ce := ⟨_, rfl⟩
        rw [hce] at H16
        by_cases hc0 : ce = 0
        case neg =>
          have hceb : (ce != 0) = true := by simpa using hc0
          have HX := Lib.hid (dec_chk HKI.out h201 HN2.out HPP.out HZ.out HU.out (by rw [hce]; exact hc0))
          rw [hce] at HX
          clear hce hc0
          go_enter Tryd.func12, Tryd.ntmps12
          go_wp2_with (first
            | (go_at_call 29; refine (H29.out _).mono ?_; rintro e w1 ⟨rfl, rfl⟩)
            | (go_at_call 30; refine (H30.out _ HL1.out).mono ?_; rintro e w2 ⟨rfl, hb2⟩; have hrow := HR0.out.keep hb2; have ro1 := hrow.rowOk (cC_length zC); have hrow3 := setRow_row c1 hrow; have ro3 := hrow3.rowOk (cC_length c1); have c0 : (w2.setRow r0 (aC c1)).cell? ⟨r0, 0, none⟩ = some (.int .i64 (v : Int)) := (by rw [← HV.out.1]; exact hrow3.cell 0); have hf2 := (HL1.out.keep hb2).forms; have hf3 := hf2.keep1 (One.setRow r0 (aC c1)) hr0f hf2.lt0; have cf := hf3.w1 hvf; rw [HV.out.2.1] at cf; obtain ⟨q1, q2⟩ := hrow3.okw (cC_length c1); change rdA _ _ 39 = vC c1 at q2; have H3 := Lib.hid (And.intro hb2 (And.intro hrow3 hf3)); clear hb2 hrow hrow3 hf2 hf3)
            | (go_at_call 19; refine (H19.out _).mono ?_; rintro e w3 ⟨t, rfl, ht, hb3⟩; obtain rfl : t = t0 := bl_inj ht; have hrow4 := H3.out.2.1.keep hb3; have ro4 := hrow4.rowOk (cC_length c1); have c38 : w3.cell? ⟨r0, 38, none⟩ = some (.string c1.text) := (hrow4.cell 38).trans (cC_at (aC_38 c1)); have f38 := hrow4.fz 38; have hrow5 := hrow4.set 38 (.string t); rw [cC_set38] at hrow5; obtain ⟨q3, q4⟩ := hrow5.okw (cC_length _); change rdA _ _ 39 = vC _ at q4; have H4 := Lib.hid (And.intro hb3 (And.intro hrow5 ((H3.out.2.2.keep hb3).keep1 (One.set (g := r0) 38 (.string t)) hr0f (H3.out.2.2.keep hb3).lt0))); clear hb3 hrow4 hrow5 ht)
            | (go_at_call 16; refine (H16.out _ H4.out.2.2).mono ?_; rintro e w5 ⟨rfl, hb5⟩; have hrow6 := H4.out.2.1.keep hb5; have ro6 := hrow6.rowOk (cC_length _); obtain ⟨q5, q6⟩ := hrow6.okw (cC_length _); change rdA _ _ 39 = vC _ at q6; have H5 := Lib.hid hb5; clear hb5 hrow6))
          exact bodyPost_ret (v := .tuple #[vC zC, .int .i64 0, .int .i64 ce]) (results_c3 (ad := ⟨r0, 0, none⟩) rfl rfl (ld_setRow zC ro6) rfl rfl) rfl ⟨by rw [HX.out]; rfl, (Below.setRow (Below.trans (Below.setCell (p := ⟨r0, 38, none⟩) (Below.trans (Below.setRow (HB0.out.trans (H3.out.1.mono HB0.out.size)) (Nat.le_of_eq hr0) _) (H4.out.1.mono (show w.heap.size ≤ (w2.setRow r0 (aC c1)).heap.size from (Below.setRow (HB0.out.trans (H3.out.1.mono HB0.out.size)) (Nat.le_of_eq hr0) _).size))) (Nat.le_of_eq hr0) _) (H5.out.mono (Below.setCell (p := ⟨r0, 38, none⟩) (Below.trans (Below.setRow (HB0.out.trans (H3.out.1.mono HB0.out.size)) (Nat.le_of_eq hr0) _) (H4.out.1.mono (show w.heap.size ≤ (w2.setRow r0 (aC c1)).heap.size from (Below.setRow (HB0.out.trans (H3.out.1.mono HB0.out.size)) (Nat.le_of_eq hr0) _).size))) (Nat.le_of_eq hr0) _).size)) (Nat.le_of_eq hr0) _)⟩
        subst hc0
        have HX := Lib.hid (dec_text HKI.out h201 HN2.out HPP.out HZ.out HU.out hce)
        clear hce
        have hun : (un : Int) ≤ 10000000 := by
          have h1 := unL_le ((bl s).drop (j + 1 + 1))
          rw [HU.out, List.length_drop, bl_length] at h1
          simp only at h1
          omega
        go_enter Tryd.func12, Tryd.ntmps12
        go_wp2_with (first
          | (go_at_call 29; refine (H29.out _).mono ?_; rintro e w1 ⟨rfl, rfl⟩)
          | (go_at_call 30; refine (H30.out _ HL1.out).mono ?_; rintro e w2 ⟨rfl, hb2⟩; have hrow := HR0.out.keep hb2; have ro1 := hrow.rowOk (cC_length zC); have hrow3 := setRow_row c1 hrow; have ro3 := hrow3.rowOk (cC_length c1); have c0 : (w2.setRow r0 (aC c1)).cell? ⟨r0, 0, none⟩ = some (.int .i64 (v : Int)) := (by rw [← HV.out.1]; exact hrow3.cell 0); have hf2 := (HL1.out.keep hb2).forms; have hf3 := hf2.keep1 (One.setRow r0 (aC c1)) hr0f hf2.lt0; have cf := hf3.w1 hvf; rw [HV.out.2.1] at cf; obtain ⟨q1, q2⟩ := hrow3.okw (cC_length c1); change rdA _ _ 39 = vC c1 at q2; have H3 := Lib.hid (And.intro hb2 (And.intro hrow3 hf3)); clear hb2 hrow hrow3 hf2 hf3)
          | (go_at_call 19; refine (H19.out _).mono ?_; rintro e w3 ⟨t, rfl, ht, hb3⟩; obtain rfl : t = t0 := bl_inj ht; have hrow4 := H3.out.2.1.keep hb3; have ro4 := hrow4.rowOk (cC_length c1); have c38 : w3.cell? ⟨r0, 38, none⟩ = some (.string c1.text) := (hrow4.cell 38).trans (cC_at (aC_38 c1)); have f38 := hrow4.fz 38; have hrow5 := hrow4.set 38 (.string t); rw [cC_set38] at hrow5; obtain ⟨q3, q4⟩ := hrow5.okw (cC_length _); change rdA _ _ 39 = vC _ at q4; have H4 := Lib.hid (And.intro hb3 (And.intro hrow5 ((H3.out.2.2.keep hb3).keep1 (One.set (g := r0) 38 (.string t)) hr0f (H3.out.2.2.keep hb3).lt0))); clear hb3 hrow4 hrow5 ht)
          | (go_at_call 16; refine (H16.out _ H4.out.2.2).mono ?_; rintro e w5 ⟨rfl, hb5⟩; have hrow6 := H4.out.2.1.keep hb5; have ro6 := hrow6.rowOk (cC_length _); obtain ⟨q5, q6⟩ := hrow6.okw (cC_length _); change rdA _ _ 39 = vC _ at q6; have H5 := Lib.hid hb5; clear hb5 hrow6))
        refine bodyPost_ret (v := .tuple #[vC _, .int .i64 ((j : Int) + 1 + 1 + un), .int .i64 0]) (results_c3 (ad := ⟨r0, 0, none⟩) rfl rfl (ld_setRow _ ro6) rfl rfl) rfl ⟨by rw [HX.out]; rfl, (Below.setRow (Below.trans (Below.setCell (p := ⟨r0, 38, none⟩) (Below.trans (Below.setRow (HB0.out.trans (H3.out.1.mono HB0.out.size)) (Nat.le_of_eq hr0) _) (H4.out.1.mono (show w.heap.size ≤ (w2.setRow r0 (aC c1)).heap.size from (Below.setRow (HB0.out.trans (H3.out.1.mono HB0.out.size)) (Nat.le_of_eq hr0) _).size))) (Nat.le_of_eq hr0) _) (H5.out.mono (Below.setCell (p := ⟨r0, 38, none⟩) (Below.trans (Below.setRow (HB0.out.trans (H3.out.1.mono HB0.out.size)) (Nat.le_of_eq hr0) _) (H4.out.1.mono (show w.heap.size ≤ (w2.setRow r0 (aC c1)).heap.size from (Below.setRow (HB0.out.trans (H3.out.1.mono HB0.out.size)) (Nat.le_of_eq hr0) _).size))) (Nat.le_of_eq hr0) _).size)) (Nat.le_of_eq hr0) _)⟩
end Go.Proofs.YtfbpipknhghneaaDoor
