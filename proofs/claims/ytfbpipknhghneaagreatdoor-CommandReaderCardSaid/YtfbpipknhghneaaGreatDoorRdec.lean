/- The reference's Decode. -/
import Derived.Test.YtfbpipknhghneaaGreatDoorRpw
import Derived.Test.YtfbpipknhghneaaGreatDoorRefUn30
import Derived.Test.YtfbpipknhghneaaGreatDoorRlA
namespace Go.Proofs.YtfbpipknhghneaaGreatDoor
open Go.RowKit
structure DI (r g : Nat) (c : Cm) (w W : World) : Prop where
  res : Row W r (cC zC) 49
  out : Row W g (cC c) 49
  bel : Below r w W
  lt : r < g
section
variable {r g : Nat} {c c' : Cm} {w W W' : World}
theorem DI.set (h : DI r g c w W) (k : Nat) (v : Value) (e : (cC c).set k v = cC c') : DI r g c' w (W.setCell ⟨g, k, none⟩ v) :=
  have h1 := h.lt
  ⟨(One.set k v).row h.res (by omega), e ▸ h.out.set k v, Below.trans h.bel ((One.set k v).below (by omega) (Nat.le_of_lt h.res.lt)), h1⟩
theorem DI.keep (h : DI r g c w W) (hb : Below W.heap.size W W') : DI r g c w W' := ⟨h.res.keep hb, h.out.keep hb, Below.trans h.bel (hb.mono (Nat.le_of_lt h.res.lt)), h.lt⟩
theorem DI.done (h : DI r g c w W) (d : Cm) : rowOk W r 39 = true ∧ Row (W.setRow r (aC d)) r (cC d) 49 ∧ Below r w (W.setRow r (aC d)) :=
  ⟨Row.rowOk' h.res (cC_length zC), Row.setRow h.res (cC d), Below.trans h.bel ((One.setRow r _).below (Nat.le_refl _) (Nat.le_of_lt h.res.lt))⟩
end
theorem index_at (s : ByteArray) (j : Nat) (hj : j < s.size) (h10 : s[j] = 10) (hn : 10 ∉ (bl s).take j) : Lib.indexByte (bl s) 10 = (j : Int) := by
  have key : ∀ (L r : List UInt8), 10 ∉ L → Lib.indexByte (L ++ 10 :: r) 10 = (L.length : Int) := by
    intro L r
    induction L with
    | nil => intro _; rfl
    | cons x xs ih =>
      intro h
      have hx : (x == 10) = false := beq_eq_false_iff_ne.2 (fun e => h (by rw [e]; exact List.mem_cons_self))
      rw [List.cons_append, Lib.indexByte, hx, ih (fun hm => h (List.mem_cons_of_mem _ hm))]
      have h1 : (((xs.length : Nat) : Int) == -1) = false := beq_eq_false_iff_ne.2 (by omega)
      rw [h1]
      simp
  have e : bl s = (bl s).take j ++ 10 :: (bl s).drop (j + 1) := by
    conv => lhs; rw [← List.take_append_drop j (bl s), bl_drop s j hj, h10]
  have hl : ((bl s).take j).length = j := by rw [List.length_take, bl_length]; omega
  rw [e]
  have h2 := key ((bl s).take j) ((bl s).drop (j + 1)) hn
  rw [hl] at h2
  exact h2
theorem take_no (s : ByteArray) (j : Nat) (hj : j < s.size) (h : s[j] ≠ 10) (hn : 10 ∉ (bl s).take j) : 10 ∉ (bl s).take (j + 1) := by
  rw [List.take_succ_eq_append_getElem (by rw [bl_length]; exact hj)]
  intro hm
  rcases List.mem_append.1 hm with h1 | h1
  · exact hn h1
  · exact h (List.mem_singleton.1 h1).symm
theorem unGo_text : ∀ (f : Nat) (first : Bool) (text : List UInt8) (n : Nat) (s : List UInt8), text.length ≤ 262144 → (unGo f first text n s).2.2 = 0 → (unGo f first text n s).1.length ≤ 262144 := by
  intro f
  induction f with
  | zero => intro first text n s _ h; simp [unGo] at h
  | succ f ih =>
    intro first text n s ht h
    obtain ⟨⟨e, k⟩, hr⟩ : ∃ p, flGo 0 s 0 = p := ⟨_, rfl⟩
    by_cases he : e = 0
    · subst he
      rw [unGo_ok f first text n s k hr] at h ⊢
      generalize preL first text ++ (if (s.take (k - 1)).head? = some 46 then (s.take (k - 1)).drop 1 else s.take (k - 1)) = T at h ⊢
      split
      · split
        · exact Nat.zero_le _
        · exact ht
      split
      · exact Nat.zero_le _
      split
      · exact Nat.zero_le _
      next h1 h2 h3 =>
      rw [if_neg h1, if_neg h2, if_neg h3] at h
      exact ih _ _ _ _ (by omega) h
    · rw [unGo_err f first text n s e k hr he]
      exact Nat.zero_le _
theorem unL_text (s : List UInt8) (h : (unL s).2.2 = 0) : (unL s).1.length ≤ 262144 := unGo_text _ true [] 0 s (Nat.zero_le _) h
def RdecP (s : ByteArray) (w : World) : Ending → World → Prop := fun e w' => e = .returned (.tuple #[vC (decL (bl s)).1, .int .i64 (decL (bl s)).2.1, .int .i64 (decL (bl s)).2.2]) ∧ Below w.heap.size w w'
set_option maxRecDepth 100000 in
set_option maxHeartbeats 6400000 in
theorem refDecode13 (s : ByteArray) (w : World) (hs : s.size ≤ 1000000) : Calls Tryz.prog 15 #[.string s] w (RdecP s w) := by
  obtain ⟨r, hr⟩ : ∃ r, w.heap.size = r := ⟨_, rfl⟩
  have HRR := Lib.hid hr
  obtain ⟨W1, hW1⟩ : ∃ W1, w.alloc (.cells (aC zC) 49) = W1 := ⟨_, rfl⟩
  have HB0 := Lib.hid (And.intro (show Below r w W1 by rw [← hW1, ← hr]; exact below_alloc w _) (show Row W1 r (cC zC) 49 by rw [← hW1, ← hr]; exact Row.new w (cC zC) 49))
  have rk := Row.rowOk' HB0.out.2 (cC_length zC)
  have HF := Lib.hid (And.intro (Row.setRow HB0.out.2 (cC zC)) (show Below r w (W1.setRow r (aC zC)) from Below.trans HB0.out.1 ((One.setRow r _).below (Nat.le_refl _) (Nat.le_of_lt HB0.out.2.lt))))
  go_enter Tryz.func15, Tryz.ntmps15
  go_wp2
  clear hW1
  go_loop [5] (fun i => ∃ j : Nat, i = .int .i64 (j : Int) ∧ j ≤ s.size ∧ 10 ∉ (bl s).take j) (fun i => s.size - (intOf i).toNat)
  case atStart => exact ⟨0, rfl, Nat.zero_le _, by simp⟩
  case round =>
    obtain ⟨k, rfl, hk, hn⟩ := hrel
    by_cases hlt : k < s.size
    case neg =>
      obtain rfl : k = s.size := by omega
      have hi : Lib.indexByte (bl s) 10 = -1 := index_no _ (by rwa [List.take_of_length_le (by rw [bl_length]; exact Nat.le_refl _)] at hn)
      have HI := Lib.hid (dec_no (bl s) hi)
      clear hi hn
      by_cases hl : 200 < s.size
      · have HX := Lib.hid (show decL (bl s) = (zC, 0, 5) by rw [HI.out, if_pos (by rw [bl_length]; exact hl)])
        have q1 : 200 < (s.size : Int) := by omega
        go_wp2
        exact bodyPost_ret (v := .tuple #[vC zC, .int .i64 (0), .int .i64 (5)]) (results_c3 (ad := ⟨r, 0, none⟩) rfl rfl (ld_row31 _ HF.out.1) rfl rfl) rfl ⟨by rw [HX.out]; rfl, by rw [HRR.out]; exact HF.out.2⟩
      · have HX := Lib.hid (show decL (bl s) = (zC, 0, 4) by rw [HI.out, if_neg (by rw [bl_length]; exact hl)])
        have q1 : ¬ 200 < (s.size : Int) := by omega
        go_wp2
        exact bodyPost_ret (v := .tuple #[vC zC, .int .i64 (0), .int .i64 (4)]) (results_c3 (ad := ⟨r, 0, none⟩) rfl rfl (ld_row31 _ HF.out.1) rfl rfl) rfl ⟨by rw [HX.out]; rfl, by rw [HRR.out]; exact HF.out.2⟩
    have q0 : (k : Int) < (s.size : Int) := by omega
    by_cases h10 : s[k] = 10
    case neg =>
      have HT := Lib.hid (take_no s k hlt h10 hn)
      have hb : (((s[k].toNat : Nat) : Int) != 10) = true := by
        unfold bne
        rw [show (10 : Int) = (((10 : UInt8).toNat : Nat) : Int) from rfl, byte_is]
        simpa using h10
      clear h10 hn
      go_wp2
      go_round
      case rel => exact ⟨k + 1, by go_num, by omega, HT.out⟩
      case measure => simp [intOf]; omega
    have hb : (((s[k].toNat : Nat) : Int) != 10) = false := by
      unfold bne
      rw [show (10 : Int) = (((10 : UInt8).toNat : Nat) : Int) from rfl, byte_is]
      simpa using h10
    have HKI := Lib.hid (index_at s k hlt h10 hn)
    have q00 : ((k : Int) == (s.size : Int)) = false := by rw [beq_eq_false_iff_ne]; omega
    clear h10 hn
    by_cases h201 : 201 < k
    · have HX := Lib.hid (dec_long HKI.out h201)
      have q1 : 201 < (k : Int) := by omega
      go_wp2
      exact bodyPost_ret (v := .tuple #[vC zC, .int .i64 (0), .int .i64 (5)]) (results_c3 (ad := ⟨r, 0, none⟩) rfl rfl (ld_row31 _ HF.out.1) rfl rfl) rfl ⟨by rw [HX.out]; rfl, by rw [HRR.out]; exact HF.out.2⟩
    have q1 : ¬ 201 < (k : Int) := by omega
    cases k with
    | zero =>
      have HX := Lib.hid (dec_byte HKI.out h201 (Or.inl rfl))
      go_wp2
      exact bodyPost_ret (v := .tuple #[vC zC, .int .i64 (0), .int .i64 (6)]) (results_c3 (ad := ⟨r, 0, none⟩) rfl rfl (ld_row31 _ HF.out.1) rfl rfl) rfl ⟨by rw [HX.out]; rfl, by rw [HRR.out]; exact HF.out.2⟩
    | succ j =>
      have hj : j < s.size := by omega
      have hgd : (bl s).getD (j + 1 - 1) 0 = s[j] := by rw [Nat.add_sub_cancel]; exact getD_at s j hj
      by_cases h13 : s[j] = 13
      case neg =>
        have e13 : (((s[j].toNat : Nat) : Int) != 13) = true := by
          unfold bne
          rw [show (13 : Int) = (((13 : UInt8).toNat : Nat) : Int) from rfl, byte_is]
          simpa using h13
        have HX := Lib.hid (dec_byte HKI.out h201 (Or.inr (by rw [hgd]; exact h13)))
        clear h13 hgd
        go_wp2
        exact bodyPost_ret (v := .tuple #[vC zC, .int .i64 (0), .int .i64 (6)]) (results_c3 (ad := ⟨r, 0, none⟩) rfl rfl (ld_row31 _ HF.out.1) rfl rfl) rfl ⟨by rw [HX.out]; rfl, by rw [HRR.out]; exact HF.out.2⟩
      have e13 : (((s[j].toNat : Nat) : Int) != 13) = false := by
        unfold bne
        rw [show (13 : Int) = (((13 : UInt8).toNat : Nat) : Int) from rfl, byte_is]
        simpa using h13
      have HN2 := Lib.hid (show ¬ (j + 1 = 0 ∨ (bl s).getD (j + 1 - 1) 0 ≠ 13) by rw [hgd, h13]; simp)
      have hbl : bl (s.extract 0 j) = (bl s).take (j + 1 - 1) := by
        rw [bl_seg s 0 j (by omega)]
        unfold seg
        rw [List.drop_zero, Nat.sub_zero, Nat.add_sub_cancel]
      obtain ⟨⟨c1, ok⟩, hpp⟩ : ∃ r, parseL ((bl s).take (j + 1 - 1)) = r := ⟨_, rfl⟩
      have H31 := Lib.hid (fun w1 => refParse31 (s.extract 0 j) w1 (by rw [ByteArray.size_extract]; omega))
      unfold RparP at H31
      rw [hbl, hpp] at H31
      have HPP := Lib.hid hpp
      clear hgd h13 hbl hpp
      cases ok with
      | false =>
        have HX := Lib.hid (dec_syn HKI.out h201 HN2.out HPP.out)
        go_wp2_with (go_at_call 30; refine (H31.out _).mono ?_; rintro e w2 ⟨c2, b2, rfl, hag, hb2⟩; obtain rfl : b2 = false := hag.1; have hrow := (HB0.out.2.keep hb2).keep (below_alloc w2 (.cells (aC c2) 49)); have rk2 := Row.rowOk' hrow (cC_length zC); have HF2 := Lib.hid (And.intro (Row.setRow hrow (cC zC)) (Below.trans (Below.trans HB0.out.1 ((Below.step hb2 (below_alloc w2 (.cells (aC c2) 49))).mono (Nat.le_of_lt HB0.out.2.lt))) ((One.setRow r (aC zC)).below (Nat.le_refl _) (Nat.le_of_lt hrow.lt)))); clear hb2 hag hrow)
        exact bodyPost_ret (v := .tuple #[vC zC, .int .i64 (0), .int .i64 (29)]) (results_c3 (ad := ⟨r, 0, none⟩) rfl rfl (ld_row31 _ HF2.out.1) rfl rfl) rfl ⟨by rw [HX.out]; rfl, by rw [HRR.out]; exact HF2.out.2⟩
      | true =>
        obtain ⟨v, hv1, hv11, hcv⟩ := parseW_verb _ c1 HPP.out
        have hnm : c1.name.size ≤ 1000000 := by
          have h1 := parseL_name ((bl s).take (j + 1 - 1))
          rw [HPP.out, List.length_take, bl_length] at h1
          have h2 : c1.name.size ≤ min (j + 1 - 1) s.size := h1
          omega
        have HNM := Lib.hid hnm
        have HTF := Lib.hid (text_flag c1 (by omega) (by omega))
        clear hnm hv1 hv11 hcv
        by_cases h7 : c1.verb = 7 ∨ c1.verb = 10
        case neg =>
          have q7 : (c1.verb == 7) = false := by rw [beq_eq_false_iff_ne]; exact fun e => h7 (Or.inl e)
          have q8 : (c1.verb == 10) = false := by rw [beq_eq_false_iff_ne]; exact fun e => h7 (Or.inr e)
          have HX := Lib.hid (dec_plain HKI.out h201 HN2.out HPP.out (show (bits BinOp.and .i64 (flOf c1.verb.toNat) 64 == 0) = true by rw [flOf_form, HTF.out, decide_eq_false (fun e => h7 (Or.inl e)), decide_eq_false (fun e => h7 (Or.inr e))]; rfl))
          clear h7
          go_wp2_with (go_at_call 30; refine (H31.out _).mono ?_; rintro e w2 ⟨c2, b2, rfl, hag, hb2⟩; obtain rfl : b2 = true := hag.1; obtain rfl : c2 = c1 := hag.2 rfl; obtain ⟨g, hg⟩ : ∃ g, w2.heap.size = g := ⟨_, rfl⟩; obtain ⟨W5, hW5⟩ : ∃ W5, w2.alloc (.cells (aC c2) 49) = W5 := ⟨_, rfl⟩; have D5 : DI r g c2 w W5 := (by rw [← hW5, ← hg]; exact ⟨(HB0.out.2.keep hb2).keep (below_alloc _ _), Row.new w2 (cC c2) 49, Below.trans HB0.out.1 ((Below.step hb2 (below_alloc _ _)).mono (Nat.le_of_lt HB0.out.2.lt)), Nat.lt_of_lt_of_le HB0.out.2.lt hb2.size⟩); have k0 : W5.cell? ⟨g, 0, none⟩ = some (.int .i64 c2.verb) := D5.out.cell 0; obtain ⟨ok5, rd5⟩ : okA W5 ⟨g, 0, none⟩ 39 = true ∧ rdA W5 ⟨g, 0, none⟩ 39 = vC c2 := ⟨okC D5.out, rdC D5.out⟩; obtain ⟨rk2, hf1, hf2⟩ := D5.done c2; have HF2 := Lib.hid (And.intro hf1 hf2); clear hag hb2 hf1 hf2 D5)
          exact bodyPost_ret (v := .tuple #[vC c2, .int .i64 ((j : Int) + 1 + 1), .int .i64 (0)]) (results_c3 (ad := ⟨r, 0, none⟩) rfl rfl (ld_row31 _ HF2.out.1) rfl rfl) rfl ⟨by rw [HX.out]; rfl, by rw [HRR.out]; exact HF2.out.2⟩
        have HZ := Lib.hid (show (bits BinOp.and .i64 (flOf c1.verb.toNat) 64 == 0) = false by rw [flOf_form, HTF.out]; rcases h7 with h | h <;> rw [h] <;> decide)
        have hbu : bl (s.extract (j + 1 + 1) s.size) = (bl s).drop (j + 1 + 1) := bl_from s _
        obtain ⟨⟨ul, un, ue⟩, hu⟩ : ∃ r, unL ((bl s).drop (j + 1 + 1)) = r := ⟨_, rfl⟩
        obtain ⟨t0, rfl⟩ : ∃ t0 : ByteArray, bl t0 = ul := ⟨mkB ul, rfl⟩
        have H20 := Lib.hid (fun w1 => refUnstuff20 (s.extract (j + 1 + 1) s.size) w1 (by rw [ByteArray.size_extract]; omega))
        rw [hbu, hu] at H20
        have HU := Lib.hid hu
        clear hbu hu
        have hq : ∃ p7 p10 : Bool, (c1.verb == 7) = p7 ∧ (c1.verb == 10) = p10 ∧ ((p7 = true) ∨ (p7 = false ∧ p10 = true)) := by
          rcases h7 with h | h
          · exact ⟨true, false, by rw [h]; rfl, by rw [h]; rfl, Or.inl rfl⟩
          · exact ⟨false, true, by rw [h]; rfl, by rw [h]; rfl, Or.inr ⟨rfl, rfl⟩⟩
        obtain ⟨p7, p10, q7, q8, hp⟩ := hq
        clear h7
        by_cases hue : ue = 0
        case neg =>
          have hueb : (ue != 0) = true := by simpa using hue
          have HX := Lib.hid (dec_un HKI.out h201 HN2.out HPP.out HZ.out HU.out hue)
          clear hue
          rcases hp with rfl | ⟨rfl, rfl⟩
          all_goals
            go_wp2_with (first
              | (go_at_call 30; refine (H31.out _).mono ?_; rintro e w2 ⟨c2, b2, rfl, hag, hb2⟩; obtain rfl : b2 = true := hag.1; obtain rfl : c2 = c1 := hag.2 rfl; obtain ⟨g, hg⟩ : ∃ g, w2.heap.size = g := ⟨_, rfl⟩; obtain ⟨W5, hW5⟩ : ∃ W5, w2.alloc (.cells (aC c2) 49) = W5 := ⟨_, rfl⟩; have D5q : DI r g c2 w W5 := (by rw [← hW5, ← hg]; exact ⟨(HB0.out.2.keep hb2).keep (below_alloc _ _), Row.new w2 (cC c2) 49, Below.trans HB0.out.1 ((Below.step hb2 (below_alloc _ _)).mono (Nat.le_of_lt HB0.out.2.lt)), Nat.lt_of_lt_of_le HB0.out.2.lt hb2.size⟩); have D5 := Lib.hid D5q; have k0 : W5.cell? ⟨g, 0, none⟩ = some (.int .i64 c2.verb) := D5q.out.cell 0; clear hag hb2 D5q)
              | (go_at_call 31; refine (H20.out _).mono ?_; rintro e w3 ⟨t, rfl, ht, rfl⟩; obtain rfl : t = t0 := bl_inj ht; obtain ⟨rk2, hf1, hf2⟩ := D5.out.done zC; have HF2 := Lib.hid (And.intro hf1 hf2); clear hf1 hf2 ht))
            exact bodyPost_ret (v := .tuple #[vC zC, .int .i64 (0), .int .i64 (ue)]) (results_c3 (ad := ⟨r, 0, none⟩) rfl rfl (ld_row31 _ HF2.out.1) rfl rfl) rfl ⟨by rw [HX.out]; rfl, by rw [HRR.out]; exact HF2.out.2⟩
        subst hue
        obtain ⟨ce, hce⟩ : ∃ ce, chk { c1 with text := t0 } = ce := ⟨_, rfl⟩
        have hts : t0.size ≤ 1000000 := by
          have h1 := unL_text ((bl s).drop (j + 1 + 1)) (by rw [HU.out])
          rw [HU.out] at h1
          rw [← bl_length]
          exact Nat.le_trans h1 (by decide)
        have H22 := Lib.hid (fun w1 => refCheck22 { c1 with text := t0 } w1 HNM.out hts)
        unfold RchkP at H22
        rw [hce] at H22
        have hun : (un : Int) ≤ 10000000 := by
          have h1 := unL_le ((bl s).drop (j + 1 + 1))
          rw [HU.out, List.length_drop, bl_length] at h1
          simp only at h1
          omega
        by_cases hc0 : ce = 0
        case neg =>
          have hceb : (ce != 0) = true := by simpa using hc0
          have HX := Lib.hid (dec_chk HKI.out h201 HN2.out HPP.out HZ.out HU.out (by rw [hce]; exact hc0))
          rw [hce] at HX
          clear hce hc0
          rcases hp with rfl | ⟨rfl, rfl⟩
          all_goals
            go_wp2_with (first
              | (go_at_call 30; refine (H31.out _).mono ?_; rintro e w2 ⟨c2, b2, rfl, hag, hb2⟩; obtain rfl : b2 = true := hag.1; obtain rfl : c2 = c1 := hag.2 rfl; obtain ⟨g, hg⟩ : ∃ g, w2.heap.size = g := ⟨_, rfl⟩; obtain ⟨W5, hW5⟩ : ∃ W5, w2.alloc (.cells (aC c2) 49) = W5 := ⟨_, rfl⟩; have D5q : DI r g c2 w W5 := (by rw [← hW5, ← hg]; exact ⟨(HB0.out.2.keep hb2).keep (below_alloc _ _), Row.new w2 (cC c2) 49, Below.trans HB0.out.1 ((Below.step hb2 (below_alloc _ _)).mono (Nat.le_of_lt HB0.out.2.lt)), Nat.lt_of_lt_of_le HB0.out.2.lt hb2.size⟩); have D5 := Lib.hid D5q; have k0 : W5.cell? ⟨g, 0, none⟩ = some (.int .i64 c2.verb) := D5q.out.cell 0; clear hag hb2 D5q)
              | (go_at_call 31; refine (H20.out _).mono ?_; rintro e w3 ⟨t, rfl, ht, rfl⟩; obtain rfl : t = t0 := bl_inj ht; have c38 : w3.cell? ⟨g, 38, none⟩ = some (.string c2.text) := (D5.out.out.cell 38).trans (cC_at (aC_38 c2)); have f38 := D5.out.out.fz 38; have D6q : DI r g { c2 with text := t } w (w3.setCell ⟨g, 38, none⟩ (.string t)) := D5.out.set 38 _ (cC_set38 _ _); obtain ⟨W6, hW6⟩ : ∃ W6, w3.setCell ⟨g, 38, none⟩ (.string t) = W6 := ⟨_, rfl⟩; rw [hW6] at D6q; obtain ⟨ok6, rd6⟩ : okA W6 ⟨g, 0, none⟩ 39 = true ∧ rdA W6 ⟨g, 0, none⟩ 39 = vC { c2 with text := t } := ⟨okC D6q.out, rdC D6q.out⟩; have D6 := Lib.hid D6q; clear ht D6q)
              | (go_at_call 32; refine (H22.out _).mono ?_; rintro e w7 ⟨rfl, hb7⟩; obtain ⟨rk2, hf1, hf2⟩ := (D6.out.keep hb7).done zC; have HF2 := Lib.hid (And.intro hf1 hf2); clear hf1 hf2 hb7))
            exact bodyPost_ret (v := .tuple #[vC zC, .int .i64 (0), .int .i64 (ce)]) (results_c3 (ad := ⟨r, 0, none⟩) rfl rfl (ld_row31 _ HF2.out.1) rfl rfl) rfl ⟨by rw [HX.out]; rfl, by rw [HRR.out]; exact HF2.out.2⟩
        subst hc0
        have HX := Lib.hid (dec_text HKI.out h201 HN2.out HPP.out HZ.out HU.out hce)
        clear hce
        rcases hp with rfl | ⟨rfl, rfl⟩
        all_goals
          go_wp2_with (first
            | (go_at_call 30; refine (H31.out _).mono ?_; rintro e w2 ⟨c2, b2, rfl, hag, hb2⟩; obtain rfl : b2 = true := hag.1; obtain rfl : c2 = c1 := hag.2 rfl; obtain ⟨g, hg⟩ : ∃ g, w2.heap.size = g := ⟨_, rfl⟩; obtain ⟨W5, hW5⟩ : ∃ W5, w2.alloc (.cells (aC c2) 49) = W5 := ⟨_, rfl⟩; have D5q : DI r g c2 w W5 := (by rw [← hW5, ← hg]; exact ⟨(HB0.out.2.keep hb2).keep (below_alloc _ _), Row.new w2 (cC c2) 49, Below.trans HB0.out.1 ((Below.step hb2 (below_alloc _ _)).mono (Nat.le_of_lt HB0.out.2.lt)), Nat.lt_of_lt_of_le HB0.out.2.lt hb2.size⟩); have D5 := Lib.hid D5q; have k0 : W5.cell? ⟨g, 0, none⟩ = some (.int .i64 c2.verb) := D5q.out.cell 0; clear hag hb2 D5q)
            | (go_at_call 31; refine (H20.out _).mono ?_; rintro e w3 ⟨t, rfl, ht, rfl⟩; obtain rfl : t = t0 := bl_inj ht; have c38 : w3.cell? ⟨g, 38, none⟩ = some (.string c2.text) := (D5.out.out.cell 38).trans (cC_at (aC_38 c2)); have f38 := D5.out.out.fz 38; have D6q : DI r g { c2 with text := t } w (w3.setCell ⟨g, 38, none⟩ (.string t)) := D5.out.set 38 _ (cC_set38 _ _); obtain ⟨W6, hW6⟩ : ∃ W6, w3.setCell ⟨g, 38, none⟩ (.string t) = W6 := ⟨_, rfl⟩; rw [hW6] at D6q; obtain ⟨ok6, rd6⟩ : okA W6 ⟨g, 0, none⟩ 39 = true ∧ rdA W6 ⟨g, 0, none⟩ 39 = vC { c2 with text := t } := ⟨okC D6q.out, rdC D6q.out⟩; have D6 := Lib.hid D6q; clear ht D6q)
            | (go_at_call 32; refine (H22.out _).mono ?_; rintro e w7 ⟨rfl, hb7⟩; clear ok6 rd6; obtain ⟨ok7, rd7⟩ : okA w7 ⟨g, 0, none⟩ 39 = true ∧ rdA w7 ⟨g, 0, none⟩ 39 = vC { c2 with text := t } := ⟨okC (D6.out.keep hb7).out, rdC (D6.out.keep hb7).out⟩; obtain ⟨rk2, hf1, hf2⟩ := (D6.out.keep hb7).done { c2 with text := t }; have HF2 := Lib.hid (And.intro hf1 hf2); clear hf1 hf2 hb7))
          exact bodyPost_ret (v := .tuple #[vC _, .int .i64 ((j : Int) + 1 + 1 + un), .int .i64 (0)]) (results_c3 (ad := ⟨r, 0, none⟩) rfl rfl (ld_row31 _ HF2.out.1) rfl rfl) rfl ⟨by rw [HX.out]; rfl, by rw [HRR.out]; exact HF2.out.2⟩
end Go.Proofs.YtfbpipknhghneaaGreatDoor
