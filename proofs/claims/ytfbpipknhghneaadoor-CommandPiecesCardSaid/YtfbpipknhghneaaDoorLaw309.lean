/- bulletinlaw30.CommandPieces: whatever the arguments, the law returns true. -/
import Derived.Test.YtfbpipknhghneaaDoorPcs
import Derived.Test.YtfbpipknhghneaaDoorLaw304
import Derived.Test.YtfbpipknhghneaaDoorKnA
namespace Go.Proofs.YtfbpipknhghneaaDoor
open Go.RowKit
set_option maxRecDepth 100000 in
set_option maxHeartbeats 3200000 in
theorem law9_no (A0 : Option Addr) (cap0 : Nat) (xs : List Cm) (A1 : Option Addr) (cap1 : Nat) (ys : List UInt8) (w : World) (hL : Laid w) (hg : 10 < xs.length ∨ 60 < ys.length) :
    Calls Tryd.prog 9 #[.slice A0 xs.length cap0, .slice A1 ys.length cap1] w fun e w' => e = .returned (.bool true) ∧ Below w.heap.size w w' := by
  have HL := Lib.hid hL
  clear hL
  have T0 : True := trivial
  have hg' : (10 : Int) < (xs.length : Int) ∨ (¬ (10 : Int) < (xs.length : Int) ∧ (60 : Int) < (ys.length : Int)) := by omega
  clear hg
  rcases hg' with hl1 | ⟨hl1, hl2⟩
  all_goals
    go_enter Tryd.func9, Tryd.ntmps9
    go_wp2_with (first
      | (have hh := T0; clear hh T0; go_at_call 11; refine (known11 _ HL.out).mono ?_; rintro e w1 ⟨rfl, hb1⟩; have H1 := Lib.hid hb1; clear hb1)
      | (go_at_call 11; refine (known11 _ (HL.out.keep H1.out)).mono ?_; rintro e w2 ⟨rfl, hb2⟩; have H2 := Lib.hid hb2; clear hb2))
    go_ret
    exact ⟨rfl, Below.step H1.out H2.out⟩
set_option maxRecDepth 100000 in
set_option maxHeartbeats 3200000 in
theorem law9 (A0 : Option Addr) (cap0 : Nat) (xs : List Cm) (A1 : Option Addr) (cap1 : Nat) (ys : List UInt8) (w : World) (hX : Sl w cC A0 xs) (hXi : ∀ x ∈ xs, x.ints) (hY : Sl w c1 A1 ys) (_hc0 : xs.length ≤ cap0) (_hc1 : ys.length ≤ cap1) (hL : Laid w) :
    Calls Tryd.prog 9 #[.slice A0 xs.length cap0, .slice A1 ys.length cap1] w fun e w' => e = .returned (.bool true) ∧ Below w.heap.size w w' := by
  by_cases hg : 10 < xs.length ∨ 60 < ys.length
  · exact law9_no A0 cap0 xs A1 cap1 ys w hL hg
  have hl1 : ¬ (10 : Int) < (xs.length : Int) := by omega
  have hl2 : ¬ (60 : Int) < (ys.length : Int) := by omega
  have HL := Lib.hid hL
  have HXY := Lib.hid (And.intro hX (And.intro hY hXi))
  clear hL hX hY hXi hg
  go_enter Tryd.func9, Tryd.ntmps9
  go_wp2_with (go_at_call 11; refine (known11 _ HL.out).mono ?_; rintro e w1 ⟨rfl, hb1⟩; have H1 := Lib.hid hb1; clear hb1)
  go_loopw [5, 6, 7] (fun sv v iv wr => ∃ (j : Nat) (s : ByteArray) (W : List Cm), iv = .int .i64 j ∧ sv = .string s ∧ j ≤ xs.length ∧ bl s = catC W ∧ (∀ c ∈ W, chk c = 0) ∧ W.length ≤ j ∧ s.size ≤ j * 3000 ∧ Own wr w.heap.size 27 39 cC v W ∧ Below w.heap.size w wr) (fun _ _ i _ => xs.length + 1 - (intOf i).toNat)
  case atStart => exact ⟨0, ⟨#[]⟩, [], rfl, rfl, Nat.zero_le _, rfl, (fun _ h => by cases h), Nat.le_refl _, Nat.le_refl _, Own.nil _ _ _ _ _, H1.out⟩
  case round =>
    obtain ⟨j, s, W, rfl, rfl, hj, hs, hW, hWl, hsz, hO, hB⟩ := hrel
    obtain ⟨A6, c6, rfl, hc6, hs6⟩ := Own.sl hO
    by_cases hlt : j < xs.length
    · have hlt1 : (j : Int) < (xs.length : Int) := by omega
      obtain ⟨ad, rfl, hok, hrd, hat⟩ := Sl.cm (HXY.out.1.keep hB) hlt
      obtain ⟨c, hc⟩ : ∃ c, xs[j] = c := ⟨_, rfl⟩
      rw [hc] at hrd hat
      have k38 : wr.cell? ⟨(ad.add (j * 39)).block, (ad.add (j * 39)).off + 38, none⟩ = some (.string c.text) := hat.2 38 _ (cC_at (aC_38 c))
      have k1 : wr.cell? ⟨(ad.add (j * 39)).block, (ad.add (j * 39)).off + 1, none⟩ = some (.string c.name) := hat.2 1 _ rfl
      have HX3 := Lib.hid (show ∀ u, Below wr.heap.size wr u → okA u (ad.add (j * 39)) 39 = true ∧ rdA u (ad.add (j * 39)) 39 = vC c from fun u hu => by
        have h3 := hat.keep hu
        have h4 := h3.ok
        have h5 := h3.rd
        rw [cC_length] at h4 h5
        exact ⟨h4, h5⟩)
      have HW := Lib.hid (And.intro hs (And.intro hW (And.intro hO hB)))
      clear hs hW hO hB
      have hci : c.ints := HXY.out.2.2 c (by rw [← hc]; exact List.getElem_mem hlt)
      have HI := Lib.hid hci
      clear hci hat
      by_cases hq : 100 < c.text.size ∨ 100 < c.name.size
      · have hq' : 100 < c.text.size ∨ (¬ 100 < c.text.size ∧ 100 < c.name.size) := by omega
        clear hq
        rcases hq' with h1 | ⟨h1, h2⟩
        all_goals
          go_wp2
          go_ret
          exact ⟨rfl, HW.out.2.2.2⟩
      · have h1 : ¬ 100 < c.text.size := by omega
        have h2 : ¬ 100 < c.name.size := by omega
        clear hq
        have HE := Lib.hid (fun w2 hl => encode15 c w2 hl ⟨by omega, by omega, HI.out.size, HI.out.from_, HI.out.count, HI.out.code⟩)
        by_cases he : chk c = 0
        · rw [he] at HE
          have hlen := encT_len c (by omega)
          have HEC := Lib.hid he
          clear he
          have T0 : True := trivial
          go_wp2_with (first
            | (have hh := T0; clear hh T0; go_at_call 14; refine (own14 c _).mono ?_; rintro e w2 ⟨rfl, hb2⟩; have H2 := Lib.hid (Below.step HW.out.2.2.2 hb2); have H2o := Lib.hid hb2; clear hb2)
            | (go_at_call 15; refine (HE.out _ (HL.out.keep H2.out)).mono ?_; rintro e w3 ⟨t, rfl, ht, hb3⟩; have H3 := Lib.hid (Below.step H2o.out hb3); have hts : t.size ≤ 2598 := (by rw [← bl_length, ht]; exact hlen); have HT := Lib.hid ht; have rr1 := (HX3.out w3 H3.out).1; have rr2 := (HX3.out w3 H3.out).2; clear H2 H2o; clear hb3 ht)
            | (go_at_call 14; refine (own14 c _).mono ?_; rintro e w4 ⟨rfl, hb4⟩; have H4 := Lib.hid (Below.step H3.out hb4); clear hb4 rr1 rr2)
            | (at_builtin; refine wpList_append_sl _ rfl (.tmp 66) (.tmp 72) 55 rfl w.heap.size 27 39 104 cC underCs rowCm (by decide) cC_length cC_one (.slice A6 W.length c6) W rfl ((Own.keep HW.out.2.2.1 H4.out).keep (below_alloc w4 (.cells (aCs [c]) 27))) (some ⟨w4.heap.size, 0, none⟩) 1 1 [c] rfl rfl (fun _ => ⟨_, rfl, at_new w4 ([c].flatMap cC) 27 _ (by simp)⟩) (by omega) (by omega) (Nat.le_trans HW.out.2.2.2.size (Nat.le_trans H4.out.size (below_alloc w4 (.cells (aCs [c]) 27)).size)) ?_))
          intro v' w' hO' hg'
          have hB' : Below w.heap.size w w' := Own.grew ((Own.keep HW.out.2.2.1 H4.out).keep (below_alloc w4 (.cells (aCs [c]) 27))) hg' (Below.step HW.out.2.2.2 (Below.step H4.out (below_alloc w4 (.cells (aCs [c]) 27)))) (Nat.le_refl _) (Nat.le_trans HW.out.2.2.2.size (Nat.le_trans H4.out.size (below_alloc w4 (.cells (aCs [c]) 27)).size))
          have HX := Lib.hid (And.intro hO' hB')
          clear hO' hg' hB'
          go_wp2
          go_roundw
          case rel =>
            refine ⟨j + 1, s ++ t, W ++ [c], by go_num, rfl, by omega, ?_, ?_, by rw [List.length_append, List.length_singleton]; omega, by rw [ByteArray.size_append]; omega, HX.out.1, HX.out.2⟩
            · rw [catC_snoc, ← HW.out.1, ← HT.out]; simp [bl]
            · intro x hx
              rcases List.mem_append.1 hx with h | h
              · exact HW.out.2.1 x h
              · rw [List.mem_singleton.1 h]; exact HEC.out
          case measure => simp [intOf] <;> omega
        · have HEC := Lib.hid (encT_no c he)
          obtain ⟨ce, hce⟩ : ∃ ce, chk c = ce := ⟨_, rfl⟩
          rw [hce] at HE he
          have q5 : (ce == 0) = false := beq_eq_false_iff_ne.2 he
          clear he hce
          go_wp2_with (first
            | (go_at_call 14; refine (own14 c _).mono ?_; rintro e w2 ⟨rfl, hb2⟩; have H2 := Lib.hid (Below.step HW.out.2.2.2 hb2); have H2o := Lib.hid hb2; clear hb2)
            | (go_at_call 15; refine (HE.out _ (HL.out.keep H2.out)).mono ?_; rintro e w3 ⟨t, rfl, ht, hb3⟩; have H3 := Lib.hid (Below.step H2o.out hb3); clear hb3 ht))
          go_roundw
          case rel => exact ⟨j + 1, s, W, by go_num, rfl, by omega, HW.out.1, HW.out.2.1, by omega, by omega, Own.keep HW.out.2.2.1 H3.out, Below.step HW.out.2.2.2 H3.out⟩
          case measure => simp [intOf] <;> omega
    · have hlt1 : ¬ (j : Int) < (xs.length : Int) := by omega
      have HW := Lib.hid (And.intro hs (And.intro hW (And.intro hO hB)))
      clear hs hW hO hB
      obtain ⟨u, hu⟩ : ∃ u, u = wr := ⟨_, rfl⟩
      subst hu
      obtain ⟨r, hr⟩ : ∃ r, u.heap.size = r := ⟨_, rfl⟩
      obtain ⟨U, hU⟩ : ∃ U, u.alloc (.cells #[.string ⟨#[]⟩, .int .i64 0] 57) = U := ⟨_, rfl⟩
      have HU := Lib.hid (And.intro (show Below u.heap.size u U from by rw [← hU]; exact below_alloc _ _) (And.intro (show RdAt r ⟨#[]⟩ 0 U from by rw [← hU, ← hr]; exact Row.new u _ _) (show U.heap.size = r + 1 from by rw [← hU, ← hr]; simp)))
      go_wp2
      go_loopw [5, 11, 12] (fun sv v iv w2 => ∃ (i : Nat) (s2 wt : ByteArray) (got pend : List Cm), iv = .int .i64 i ∧ sv = .string s2 ∧ i ≤ ys.length + 1 ∧ bl wt ++ bl s2 = catC pend ∧ W = got ++ pend ∧ (i = ys.length + 1 → pend = [] ∧ wt.size = 0) ∧ wt.size + s2.size ≤ 40000 ∧ Own w2 U.heap.size 27 39 cC v got ∧ RdAt r wt 0 w2 ∧ One r U w2) (fun _ _ i _ => ys.length + 2 - (intOf i).toNat)
      case atStart => exact ⟨0, s, ⟨#[]⟩, [], W, rfl, rfl, by omega, HW.out.1, rfl, (fun h => by omega), by have : (⟨#[]⟩ : ByteArray).size = 0 := rfl; omega, Own.nil _ _ _ _ _, HU.out.2.1, One.refl⟩
      case round =>
        obtain ⟨i, s2, wt, got, pend, rfl, rfl, hi, hcat, hgp, hend, hs2, hO, hR, h1⟩ := hrel
        obtain ⟨A11, c11, rfl, hc11, hs11⟩ := Own.sl hO
        have HV := Lib.hid (And.intro hcat (And.intro hgp (And.intro hend (And.intro hO (And.intro hR h1)))))
        clear hcat hgp hend hO hR h1 hs11
        by_cases hle : i ≤ ys.length
        · have hle1 : (i : Int) ≤ (ys.length : Int) := by omega
          have hub : Below u.heap.size u wr := HU.out.1.trans (HV.out.2.2.2.2.2.below (Nat.le_of_eq hr) HU.out.1.size)
          have hrU : r < U.heap.size := by rw [HU.out.2.2]; omega
          by_cases hlt2 : i < ys.length
          · have hlt3 : (i : Int) < (ys.length : Int) := by omega
            have hUw : Below w.heap.size w wr := Below.trans HW.out.2.2.2 (hub.mono HW.out.2.2.2.size)
            obtain ⟨ad1, rfl, hcell⟩ := Sl.byte (HXY.out.2.1.keep hUw) hlt2
            obtain ⟨bn, hbn⟩ : ∃ bn : Nat, ys[i].toNat = bn := ⟨_, rfl⟩
            have hb2 := ys[i].toNat_lt
            have k9 : wr.cell? (ad1.add i) = some (.int .u8 (bn : Int)) := by rw [hcell]; unfold vB; rw [hbn]
            rw [hbn] at hb2
            clear hcell hbn hUw
            obtain ⟨m, hm, hm2⟩ : ∃ m : Nat, min (s2.size : Int) (bn : Int) = (m : Int) ∧ m ≤ s2.size := ⟨min s2.size bn, by omega, by omega⟩
            go_wp2_with (first
              | (go_at_call 25; refine (feed_pc s2 wt m pend wr u r hub HV.out.2.2.2.2.1 (Nat.le_of_eq hr) (HL.out.keep HW.out.2.2.2) (by omega) hm2 (fun c hc => HW.out.2.1 c (by rw [HV.out.2.1]; exact List.mem_append_right _ hc)) HV.out.1).mono ?_; rintro e w2 ⟨Ax, cx, g, pend', wt', rfl, h2⟩; have hgl : got.length + g.length ≤ 10 := (by have h3 := congrArg List.length HV.out.2.1; rw [h2.1] at h3; simp only [List.length_append] at h3; omega); have H2 := Lib.hid h2; clear h2)
              | (at_builtin; refine wpList_append_sl _ rfl (.tmp 102) (.tmp 103) 55 rfl U.heap.size 27 39 104 cC underCs rowCm (by decide) cC_length cC_one (.slice A11 got.length c11) got rfl (Own.one HV.out.2.2.2.1 H2.out.2.2.2.2.2.2 hrU) Ax g.length cx g rfl rfl H2.out.2.2.2.2.1 (by omega) (by omega) (Nat.le_trans HV.out.2.2.2.2.2.size H2.out.2.2.2.2.2.2.size) ?_))
            intro v' w' hO' hg'
            have h1' : One r U w' := One.grew (One.trans HV.out.2.2.2.2.2 H2.out.2.2.2.2.2.2) (Own.one HV.out.2.2.2.1 H2.out.2.2.2.2.2.2 hrU) hg'
            have hR' : RdAt r wt' 0 w' := Row.same H2.out.2.2.2.2.2.1 (hg'.block r (Row.lt H2.out.2.2.2.2.2.1) (fun e => by have := (Own.lt (Own.one HV.out.2.2.2.1 H2.out.2.2.2.2.2.2 hrU) r e.symm).1; omega))
            have HX := Lib.hid (And.intro hO' (And.intro hR' h1'))
            clear hO' hg' h1' hR'
            have q9 : (m : Int) ≤ (s2.size : Int) := by omega
            go_wp2
            go_roundw
            case rel =>
              refine ⟨i + 1, s2.extract m s2.size, wt', got ++ g, pend', by go_num, rfl, by omega, H2.out.2.1, ?_, ?_, ?_, HX.out.1, HX.out.2.1, HX.out.2.2⟩
              · rw [List.append_assoc, ← H2.out.1]; exact HV.out.2.1
              · intro h
                omega
              · rw [ByteArray.size_extract]; have := H2.out.2.2.2.1; omega
            case measure => simp [intOf] <;> omega
          · have hlt3 : ¬ (i : Int) < (ys.length : Int) := by omega
            obtain ⟨m, hm, hm2⟩ : ∃ m : Nat, (s2.size : Int) = (m : Int) ∧ m ≤ s2.size := ⟨s2.size, rfl, Nat.le_refl _⟩
            go_wp2_with (first
              | (go_at_call 25; refine (feed_pc s2 wt m pend wr u r hub HV.out.2.2.2.2.1 (Nat.le_of_eq hr) (HL.out.keep HW.out.2.2.2) (by omega) hm2 (fun c hc => HW.out.2.1 c (by rw [HV.out.2.1]; exact List.mem_append_right _ hc)) HV.out.1).mono ?_; rintro e w2 ⟨Ax, cx, g, pend', wt', rfl, h2⟩; have hgl : got.length + g.length ≤ 10 := (by have h3 := congrArg List.length HV.out.2.1; rw [h2.1] at h3; simp only [List.length_append] at h3; omega); have H2 := Lib.hid h2; clear h2)
              | (at_builtin; refine wpList_append_sl _ rfl (.tmp 102) (.tmp 103) 55 rfl U.heap.size 27 39 104 cC underCs rowCm (by decide) cC_length cC_one (.slice A11 got.length c11) got rfl (Own.one HV.out.2.2.2.1 H2.out.2.2.2.2.2.2 hrU) Ax g.length cx g rfl rfl H2.out.2.2.2.2.1 (by omega) (by omega) (Nat.le_trans HV.out.2.2.2.2.2.size H2.out.2.2.2.2.2.2.size) ?_))
            intro v' w' hO' hg'
            have h1' : One r U w' := One.grew (One.trans HV.out.2.2.2.2.2 H2.out.2.2.2.2.2.2) (Own.one HV.out.2.2.2.1 H2.out.2.2.2.2.2.2 hrU) hg'
            have hR' : RdAt r wt' 0 w' := Row.same H2.out.2.2.2.2.2.1 (hg'.block r (Row.lt H2.out.2.2.2.2.2.1) (fun e => by have := (Own.lt (Own.one HV.out.2.2.2.1 H2.out.2.2.2.2.2.2 hrU) r e.symm).1; omega))
            have HX := Lib.hid (And.intro hO' (And.intro hR' h1'))
            clear hO' hg' h1' hR'
            have q9 : (m : Int) ≤ (s2.size : Int) := by omega
            go_wp2
            go_roundw
            case rel =>
              refine ⟨i + 1, s2.extract m s2.size, wt', got ++ g, pend', by go_num, rfl, by omega, H2.out.2.1, ?_, ?_, ?_, HX.out.1, HX.out.2.1, HX.out.2.2⟩
              · rw [List.append_assoc, ← H2.out.1]; exact HV.out.2.1
              · intro h
                exact H2.out.2.2.1 (by omega)
              · rw [ByteArray.size_extract]; have := H2.out.2.2.2.1; omega
            case measure => simp [intOf] <;> omega
        · have hle1 : ¬ (i : Int) ≤ (ys.length : Int) := by omega
          obtain rfl : i = ys.length + 1 := by omega
          have hub : Below u.heap.size u wr := HU.out.1.trans (HV.out.2.2.2.2.2.below (Nat.le_of_eq hr) HU.out.1.size)
          have hUw : Below w.heap.size w wr := Below.trans HW.out.2.2.2 (hub.mono HW.out.2.2.2.size)
          obtain ⟨rfl, hw0⟩ := HV.out.2.2.1 rfl
          obtain rfl : W = got := by rw [HV.out.2.1, List.append_nil]
          have HS := Lib.hid (And.intro (hs6.keep hub) (And.intro (show Sl wr cC A11 W by obtain ⟨A, c, e, _, h⟩ := Own.sl HV.out.2.2.2.1; cases e; exact h) hUw))
          have HR := Lib.hid HV.out.2.2.2.2.1
          obtain ⟨u3, hu3⟩ : ∃ u3, u3 = wr := ⟨_, rfl⟩
          subst hu3
          clear hs6 hub hUw
          go_wp2_with (go_at_call 26; refine (rest26 _ r wt 0 HR.out).mono ?_; rintro e w2 ⟨rfl, hb2⟩; have H2 := Lib.hid hb2; clear hb2)
          go_loopw [16] (fun iv w3 => ∃ k : Nat, iv = .int .i64 k ∧ k ≤ W.length ∧ Below u3.heap.size u3 w3) (fun iv _ => W.length + 1 - (intOf iv).toNat)
          case atStart => exact ⟨0, rfl, Nat.zero_le _, H2.out⟩
          case round =>
            obtain ⟨k, rfl, hk, hb3⟩ := hrel
            by_cases hlt4 : k < W.length
            · have hlt5 : (k : Int) < (W.length : Int) := by omega
              obtain ⟨a6, rfl, ok6, rd6, _⟩ := Sl.cm (HS.out.1.keep hb3) hlt4
              obtain ⟨a11, rfl, ok11, rd11, _⟩ := Sl.cm (HS.out.2.1.keep hb3) hlt4
              obtain ⟨ck, hck⟩ : ∃ ck, W[k] = ck := ⟨_, rfl⟩
              rw [hck] at rd6 rd11
              have HB3 := Lib.hid hb3
              clear hb3 hck
              go_wp2
              go_quiet (fail)
              go_wp2
              go_roundw
              case rel => exact ⟨k + 1, by go_num, by omega, Below.step HB3.out (below_drewN _ _)⟩
              case measure => simp [intOf] <;> omega
            · have hlt5 : ¬ (k : Int) < (W.length : Int) := by omega
              have HB3 := Lib.hid hb3
              clear hb3
              go_wp2
              go_ret
              exact ⟨rfl, Below.trans HS.out.2.2 (HB3.out.mono HS.out.2.2.size)⟩
theorem law9c (A0 : Option Addr) (cap0 : Nat) (xs : List Cm) (A1 : Option Addr) (cap1 : Nat) (ys : List UInt8) (w : World) (hX : Sl w cC A0 xs) (hXi : ∀ x ∈ xs, x.ints) (hc0 : xs.length ≤ cap0) (hY : Sl w c1 A1 ys) (hc1 : ys.length ≤ cap1) (hL : Laid w) :
    Calls Tryd.prog 9 #[.slice A0 xs.length cap0, .slice A1 ys.length cap1] w fun e w' => e = .returned (.bool true) ∧ Below w.heap.size w w' := law9 A0 cap0 xs A1 cap1 ys w hX hXi hY hc0 hc1 hL
end Go.Proofs.YtfbpipknhghneaaDoor
