/- bulletinlaw34.TakeOldest: whatever the numbers, the law returns true. -/
import Derived.Test.YtgojaelkdpabkaaGreatDoorOld
import Derived.Deep.CutRange
import Derived.Deep.CutBlock
namespace Go.Proofs.YtgojaelkdpabkaaGreatDoor
open Go.RowKit
theorem stO_new (W : Int) : Tk.new W = stO W 0 0 := rfl
theorem stO_off {W : Int} {a i : Nat} (h : i < 200) (ha : a ≤ i) (hw : ((i - a : Nat) : Int) < W) : hearT ⟨W, true, mkA a i, mkK a⟩ (offC (idN i) 5) = (⟨W, true, mkA a i ++ [⟨idN i, 5, 1, ⟨#[]⟩⟩], mkK a⟩, [(idN i, 5, 0)], [], 0) := by
  have h1 := hear_off (idN_ne h) (by decide) (by decide) (posA_no h (Nat.le_refl i)) (by rw [mkA_len]; exact hw) (fun k hk e => by rw [posK_no h ha] at e; cases e) (z := 5) (K := mkK a) (W := W) (A := mkA a i)
  rw [got_none (posK_no h ha)] at h1
  exact h1
theorem stO_want {W : Int} {a i : Nat} (h : i < 200) (ha : a ≤ i) : answerT ⟨W, true, mkA a i ++ [⟨idN i, 5, 1, ⟨#[]⟩⟩], mkK a⟩ (wantC (idN i) 0) = (⟨W, true, mkA a i ++ [⟨idN i, 5, 2, ⟨#[]⟩⟩], mkK a⟩, wantC (idN i) 0, 0) := by
  have h1 := answer_want (o := true) (z := 5) (r := ⟨#[]⟩) (idN_ne h) (by decide) (by decide) (posA_no (a := a) h (Nat.le_refl i)) (Or.inl rfl) rfl (K := mkK a) (W := W)
  rw [without_none (posK_no h ha)] at h1
  exact h1
theorem stO_data {W : Int} {a i : Nat} (h : i < 200) (ha : a ≤ i) : hearT ⟨W, true, mkA a i ++ [⟨idN i, 5, 2, ⟨#[]⟩⟩], mkK a⟩ (dataC (idN i) 0 abT) = (stO W a (i + 1), [], [], 0) := by
  have h1 := hear_data (o := true) (z := 5) (e := ⟨#[]⟩) (f := 0) (t := abT) (W := W) (K := mkK a) rfl (idN_ne h) (posA_no (a := a) h (Nat.le_refl i)) rfl (by decide) (by decide) (by decide +kernel) (by decide) (by decide +kernel)
  rw [h1]
  unfold stO
  rw [mkA_succ ha, decide_eq_true (show a < i + 1 by omega)]
  rfl
theorem mkK_ids (m : Nat) : (mkK m).map Pt.id = ((List.range m).map idN).drop (m - 8) := by
  unfold mkK
  rw [List.map_drop, List.map_map]
  rfl
theorem stO_kept {W : Int} {m : Nat} (_hm : m < 60) {y : Id} (hy : y ∈ ((List.range m).map idN).drop (m - 8)) : rcvdL (stO W m m) y = 2 ∧ (lookL (stO W m m) y).size = 5 := by
  have h0 : posL (stO W m m).act y = none := by
    show posL (mkA m m) y = none
    unfold mkA
    rw [Nat.sub_self]
    rfl
  rw [← mkK_ids] at hy
  obtain ⟨p, hp, rfl⟩ := List.mem_map.1 hy
  cases hk : posL (mkK m) p.id with
  | none => exact absurd rfl (pos_none' hk p hp)
  | some k =>
    obtain ⟨hk2, _, _⟩ := pos_some hk
    have hl : lookL (stO W m m) p.id = (mkK m)[k] := look_kept h0 hk hk2
    obtain ⟨j, _, hj⟩ := mem_mkK (List.getElem_mem hk2)
    unfold rcvdL
    rw [hl, hj]
    exact ⟨rfl, rfl⟩
theorem mod12 (n : UInt8) : ∃ N : Int, (1 + (n.toNat : Int) % 12) = N ∧ 1 ≤ N ∧ N ≤ 12 := ⟨_, rfl, by omega, by omega⟩
theorem mod60 (n : UInt8) : ∃ N : Nat, ((n.toNat : Int) % 60) = (N : Int) ∧ N < 60 := ⟨n.toNat % 60, by omega, by omega⟩
set_option maxRecDepth 100000 in
set_option maxHeartbeats 3200000 in
theorem law4 (n v : UInt8) (w : World) (hL : Laid w) : Calls Tryz.prog 4 #[.int .u8 n.toNat, .int .u8 v.toNat] w fun e w' => e = .returned (.bool true) ∧ Below w.heap.size w w' := by
  have HL := Lib.hid hL
  clear hL
  obtain ⟨W, hW, hW1, hW2⟩ := mod12 v
  obtain ⟨T, hT, hT1⟩ := mod60 n
  have HW := Lib.hid (And.intro hW1 hW2)
  clear hW1 hW2
  go_enter Tryz.func4, Tryz.ntmps4
  go_wp2_with (first
    | (go_at_call 13; refine (new13_ok W HW.out.1 (by have := HW.out.2; omega) w2).mono ?_; rintro e w3 ⟨rfl, hT3, hb3⟩; obtain ⟨b, hb⟩ : ∃ b, w2.heap.size = b := ⟨_, rfl⟩; have H3 := Lib.hid (TkB.new H2.out HW.out.1 (by have := HW.out.2; omega) hT3 hb3); rw [hb] at H3; rw [hb]; clear hb hT3 hb3)
    | (go_at_call 11; refine (known34 w HL.out).mono ?_; rintro e w2 ⟨rfl, hb2⟩; have H2 := Lib.hid hb2; clear hb2))
  go_loopw [7, 8] (fun u i wr => ∃ (k a : Nat) (F : List Nat), i = .int .i64 k ∧ k ≤ T ∧ a ≤ k ∧ ((k - a : Nat) : Int) < W ∧ TkB w b (stO W a k) F wr ∧ IdsO w F wr u ((List.range k).map idN)) (fun _ i _ => T + 1 - (intOf i).toNat)
  case atStart => exact ⟨0, 0, [b], rfl, Nat.zero_le _, Nat.le_refl _, by have := HW.out.1; omega, H3.out, Own.nil _ _ _ _ _, fun k e => by cases e⟩
  case round =>
    obtain ⟨k, a, F, rfl, hk, ha, hka, hTB, hI⟩ := hrel
    obtain ⟨A, c, rfl, hc, hsl⟩ := hI.1.sl
    obtain ⟨m, hm⟩ : ∃ m, ((List.range k).map idN).length = m := ⟨_, rfl⟩
    have hmk : m = k := by rw [← hm, List.length_map, List.length_range]
    rw [hm] at hI
    rw [hm]
    clear hc hsl hm
    subst hmk
    have HI := Lib.hid (And.intro hTB (And.intro hI (And.intro ha hka)))
    clear hTB hI hka ha
    by_cases hlt : m < T
    · have hlt1 : (m : Int) < (T : Int) := by omega
      have hm60 : m < 60 := by omega
      go_upto_region 10 with (fail)
      go_cut [46] from 32 to 100 (fun v w' => v = .bool false ∧ ∃ F', TkB w b ⟨W, true, mkA a m, mkK a⟩ F' w' ∧ IdsO w F' w' (.slice A m c) ((List.range m).map idN))
      case first =>
        by_cases hop : a < m
        · have HST := Lib.hid (show stO W a m = ⟨W, true, mkA a m, mkK a⟩ by unfold stO; rw [decide_eq_true hop])
          go_wp2_with (go_at_call 21; have hq := HI.out.1; rw [HST.out] at hq; refine (hq.isOpen).mono ?_; rintro e w4 ⟨rfl, hb4⟩; have H4 := Lib.hid (And.intro (hq.keep hb4) (HI.out.2.1.keep hb4)); clear hb4 hq)
          go_meet
          case rel => exact ⟨rfl, F, H4.out⟩
        · have HST := Lib.hid (show stO W a m = ⟨W, false, mkA a m, mkK a⟩ by unfold stO; rw [decide_eq_false hop])
          go_wp2_with (first
            | (go_at_call 17; refine (H4.out.1.open_).mono ?_; rintro e w5 ⟨rfl, F5, h5, hk5⟩; have H5 := Lib.hid (And.intro h5 (H4.out.2.kp hk5)); clear h5 hk5)
            | (go_at_call 21; have hq := HI.out.1; rw [HST.out] at hq; refine (hq.isOpen).mono ?_; rintro e w4 ⟨rfl, hb4⟩; have H4 := Lib.hid (And.intro (hq.keep hb4) (HI.out.2.1.keep hb4)); clear hb4 hq))
          go_meet
          case rel => exact ⟨rfl, F5, H5.out⟩
      case rest =>
        obtain ⟨rfl, F0, h0, hi0⟩ := hcut
        obtain ⟨g0, hg0⟩ : ∃ g0, wc.heap.size = g0 := ⟨_, rfl⟩
        obtain ⟨W1, hW1⟩ : ∃ W1, wc.alloc (.cells (aI (idN m)) 30) = W1 := ⟨_, rfl⟩
        have hb1 : Below wc.heap.size wc W1 := by rw [← hW1]; exact below_alloc _ _
        have hrow : Row W1 g0 (cI (idN m)) 30 := by rw [← hW1, ← hg0]; exact Row.new wc (cI (idN m)) _
        have q1 := (Row.okw hrow (cI_length (idN m))).1
        have q2 : rdA W1 ⟨g0, 0, none⟩ 32 = vI (idN m) := (Row.okw hrow (cI_length (idN m))).2
        have rb : (blA 30 #[(0, .int .u8 ((m : Int) + 1))]).run Tryz.prog wc = .ok (vI (idN m)) wc := bl_idN wc m (by omega)
        have hgF : g0 ∉ F0 := fun hm => by have := h0.lt g0 hm; omega
        have H1 := Lib.hid (And.intro (h0.keep hb1) (And.intro (hi0.keep hb1) (And.intro hrow hgF)))
        have HO := Lib.hid (stO_off (W := W) (a := a) (i := m) (by omega) HI.out.2.2.1 HI.out.2.2.2)
        have HWT := Lib.hid (stO_want (W := W) (a := a) (i := m) (by omega) HI.out.2.2.1)
        have HDT := Lib.hid (stO_data (W := W) (a := a) (i := m) (by omega) HI.out.2.2.1)
        clear h0 hi0 hb1 hrow hgF
        go_upto_region 16 with (first
          | (go_at_call 15; refine (H6.out.1.hear HL.out (dataC (idN m) 0 abT) (show (0 : Nat) ≤ 1000000 by decide) (show (2 : Nat) ≤ 1000000 by decide)).mono ?_; rw [HDT.out]; rintro e w7 ⟨q7, l7, rfl, F7, h7, k7, -, -⟩; have hr7 := H6.out.2.2.1.kp k7 H6.out.2.2.2; have qq := Row.okw hr7 (cI_length (idN m)); have q71 := qq.1; have q72 : rdA w7 ⟨g0, 0, none⟩ 32 = vI (idN m) := qq.2; have H7 := Lib.hid (And.intro h7 (H6.out.2.1.kp k7)); clear h7 k7 hr7 qq)
          | (go_at_call 16; refine (H5.out.1.answer HL.out (wantC (idN m) 0) (show (0 : Nat) ≤ 1000000 by decide)).mono ?_; rw [HWT.out]; rintro e w6 ⟨rfl, F6, h6, k6⟩; obtain ⟨r6, W6, hr6, ro6, hW6, hrow6, hb6⟩ := hold1 w6 (wantC (idN m) 0); have hr6' := (H5.out.2.2.1.kp k6 H5.out.2.2.2).keep hb6; have qq := Row.okw hr6' (cI_length (idN m)); have q61 := qq.1; have q62 : rdA W6 ⟨g0, 0, none⟩ 32 = vI (idN m) := qq.2; have H6 := Lib.hid (And.intro (h6.keep hb6) (And.intro ((H5.out.2.1.kp k6).keep hb6) (And.intro hr6' (k6.out g0 H5.out.2.2.1.lt H5.out.2.2.2).1))); clear h6 k6 hrow6 hb6 hr6' qq)
          | (go_at_call 15; refine (H1.out.1.hear HL.out (offC (idN m) 5) (show (0 : Nat) ≤ 1000000 by decide) (show (0 : Nat) ≤ 1000000 by decide)).mono ?_; rw [HO.out]; rintro e w5 ⟨q5, l5, rfl, F5, h5, k5, -, -⟩; have hr5 := H1.out.2.2.1.kp k5 H1.out.2.2.2; have qq := Row.okw hr5 (cI_length (idN m)); have q51 := qq.1; have q52 : rdA w5 ⟨g0, 0, none⟩ 32 = vI (idN m) := qq.2; have H5 := Lib.hid (And.intro h5 (And.intro (H1.out.2.1.kp k5) (And.intro hr5 (k5.out g0 H1.out.2.2.1.lt H1.out.2.2.2).1))); clear h5 k5 hr5 qq))
        go_wp2_with (at_builtin; refine wpList_append_slat _ rfl (.tmp 74) (.tmp 76) 45 rfl w.heap.size 30 32 32 cI underIds rowIds (by decide) cI_length cI_one (.slice A m c) ((List.range m).map idN) rfl (H7.out.2.1.keep (below_alloc _ (.cells (aIs [idN m]) 30))) (some ⟨w7.heap.size, 0, none⟩) 1 1 [idN m] rfl rfl (fun _ => ⟨_, rfl, at_new w7 ([idN m].flatMap cI) 30 _ (by simp)⟩) (by rw [List.length_map, List.length_range]; omega) (by rw [List.length_map, List.length_range]; omega) (Nat.le_trans H7.out.1.bel.size (below_alloc w7 (.cells (aIs [idN m]) 30)).size) ?_)
        intro v2 w9 ho2 hg2 hat2
        have h8 := TkB.grow (H7.out.1.keep (below_alloc w7 (.cells (aIs [idN m]) 30))) (IdsO.keep H7.out.2 (below_alloc w7 (.cells (aIs [idN m]) 30))) hg2 ho2 (hat2.imp id (fun h => by rw [h]; simp))
        rw [show (List.range m).map idN ++ [idN m] = (List.range (m + 1)).map idN by rw [List.range_succ, List.map_append]; rfl] at h8
        have H8 := Lib.hid h8
        clear h8 ho2 hg2 hat2
        go_upto_region 19 with (fail)
        clear q1 q2 rb q51 q52 q61 q62 q71 q72 ro6 hW6 hW1 hg0 hr6
        go_cut [100] from 32 to 100 (fun v w' => v = .bool false ∧ ∃ (a' : Nat) (F' : List Nat), a' ≤ m + 1 ∧ ((m + 1 - a' : Nat) : Int) < W ∧ TkB w b (stO W a' (m + 1)) F' w' ∧ IdsO w F' w' v2 ((List.range (m + 1)).map idN))
        case first =>
          have hla : ((stO W a (m + 1)).act.map Pt.id).length = m + 1 - a := by rw [List.length_map]; exact mkA_len a (m + 1)
          have HLA := Lib.hid hla
          clear hla
          by_cases hfull : ((m + 1 - a : Nat) : Int) = W
          · have HF := Lib.hid hfull
            go_wp2_with (first
              | (go_at_call 18; refine (H9.out.1.drop).mono ?_; rw [drop_mk (by have := HI.out.2.2.1; omega) (by omega)]; rintro e wb ⟨rfl, Fb, hb', kb⟩; have H10 := Lib.hid (And.intro hb' (H9.out.2.kp kb)); clear hb' kb)
              | (go_at_call 19; refine (H8.out.1.active).mono ?_; rintro e wa ⟨B5, m5, d5, rfl, hm5, ho5, h5, hb5⟩; rw [HLA.out] at hm5; have e5 : (m5 : Int) = W := (by rw [← hm5]; exact HF.out); have q5 : ((m5 : Int) == W) = true := (by rw [e5]; exact beq_self_eq_true W); have H9 := Lib.hid (And.intro h5 (H8.out.2.keep hb5)); clear hm5 ho5 h5 hb5 e5))
            go_meet
            case rel => exact ⟨rfl, m + 1, Fb, Nat.le_refl _, by rw [Nat.sub_self]; exact Int.lt_of_lt_of_le (by decide) HW.out.1, H10.out⟩
          · have HF := Lib.hid hfull
            clear hfull
            go_wp2_with (go_at_call 19; refine (H8.out.1.active).mono ?_; rintro e wa ⟨B5, m5, d5, rfl, hm5, ho5, h5, hb5⟩; rw [HLA.out] at hm5; have e5 : ¬ (m5 : Int) = W := (by rw [← hm5]; exact HF.out); have q5 : ((m5 : Int) == W) = false := (by simpa using e5); have H9 := Lib.hid (And.intro h5 (H8.out.2.keep hb5)); clear hm5 ho5 h5 hb5 e5)
            go_meet
            case rel => exact ⟨rfl, a, F7, by have := HI.out.2.2.1; omega, by have := HI.out.2.2.2; have := HF.out; omega, H9.out⟩
        case rest =>
          obtain ⟨rfl, a', F', ha', hw', hT', hI'⟩ := hcut
          have HN := Lib.hid (And.intro ha' (And.intro hw' (And.intro hT' hI')))
          clear ha' hw' hT' hI'
          go_wp2
          go_roundw
          case rel => exact ⟨m + 1, a', F', by go_num, hlt, HN.out.1, HN.out.2.1, HN.out.2.2.1, HN.out.2.2.2⟩
          case measure => simp [intOf] <;> omega
    · have hlt1 : ¬ (m : Int) < (T : Int) := by omega
      obtain rfl : m = T := by omega
      go_upto_region 21 with (fail)
      clear hk hlt hlt1 hT hW
      go_cut [107] from 101 to 107 (fun v w' => v = .bool false ∧ ∃ F', TkB w b (stO W m m) F' w' ∧ IdsO w F' w' (.slice A m c) ((List.range m).map idN))
      case first =>
        by_cases hop : a < m
        · have HST := Lib.hid (show stO W a m = ⟨W, true, mkA a m, mkK a⟩ by unfold stO; rw [decide_eq_true hop])
          have HDR := Lib.hid (drop_mk (W := W) hop (by omega))
          go_wp2_with (first
            | (go_at_call 18; refine (H4.out.1.drop).mono ?_; rw [HDR.out]; rintro e wb ⟨rfl, Fb, hb', kb⟩; have H10 := Lib.hid (And.intro hb' (H4.out.2.kp kb)); clear hb' kb)
            | (go_at_call 21; refine (HI.out.1.isOpen).mono ?_; rw [HST.out]; rintro e w4 ⟨rfl, hb4⟩; have H4 := Lib.hid (And.intro (HI.out.1.keep hb4) (HI.out.2.1.keep hb4)); clear hb4))
          go_meet
          case rel => exact ⟨rfl, Fb, H10.out⟩
        · have HST := Lib.hid (show stO W a m = ⟨W, false, mkA a m, mkK a⟩ by unfold stO; rw [decide_eq_false hop])
          obtain rfl : a = m := by have := HI.out.2.2.1; omega
          go_wp2_with (go_at_call 21; refine (HI.out.1.isOpen).mono ?_; rw [HST.out]; rintro e w4 ⟨rfl, hb4⟩; have H4 := Lib.hid (And.intro (HI.out.1.keep hb4) (HI.out.2.1.keep hb4)); clear hb4)
          go_meet
          case rel => exact ⟨rfl, F, H4.out⟩
      case rest =>
        obtain ⟨rfl, F0, h0, hi0⟩ := hcut
        have HN := Lib.hid (And.intro h0 hi0)
        clear h0 hi0
        obtain ⟨xs, hxs⟩ : ∃ xs, ((List.range m).map idN).drop (m - 8) = xs := ⟨_, rfl⟩
        have HXS := Lib.hid hxs
        clear hxs
        go_upto_region 24 with (go_at_call 20; refine (HN.out.1.partial_).mono ?_; rintro e wp ⟨B5, m5, d5, rfl, hm5, ho5, h5, hb5⟩; rw [show (stO W m m).kept.map Pt.id = xs by rw [← HXS.out]; exact mkK_ids m] at hm5 ho5; have HP := Lib.hid (And.intro hm5 (And.intro ho5 (And.intro h5 (HN.out.2.keep hb5)))); clear hm5 ho5 h5 hb5)
        go_cut [7] from 110 to 115 (fun v w' => w' = wp ∧ ∃ A' c', v = .slice A' m5 c' ∧ Sl w' cI A' xs)
        case first =>
          obtain ⟨A0, c0, e0, hc0, hsl0⟩ := HP.out.2.2.2.1.sl
          rw [List.length_map, List.length_range] at e0 hc0
          cases e0
          have HSL := Lib.hid hsl0
          clear hsl0
          by_cases h8 : m ≤ 8
          · have hmx : max (0 : Int) ((m : Int) - 8) = 0 := by omega
            go_wp2
            go_meet
            case rel =>
              have hx : xs = (List.range m).map idN := by rw [← HXS.out, show m - 8 = 0 by omega]; rfl
              have hm5 : m = m5 := by rw [← HP.out.1, hx, List.length_map, List.length_range]
              exact ⟨rfl, A, c, by rw [hm5], by rw [hx]; exact HSL.out⟩
          · obtain ⟨d, rfl⟩ : ∃ d, m = d + 8 := ⟨m - 8, by omega⟩
            have hmx : max (0 : Int) (((d + 8 : Nat) : Int) - 8) = (d : Int) := by omega
            go_wp2
            go_meet
            case rel =>
              have hx : xs = ((List.range (d + 8)).map idN).drop d := by rw [← HXS.out, show d + 8 - 8 = d by omega]
              have hm5 : 8 = m5 := by rw [← HP.out.1, hx, List.length_drop, List.length_map, List.length_range]; omega
              have hcut := Sl.cut cI_length HSL.out (c := c) (k := d) (by rw [List.length_map, List.length_range]; exact hc0)
              rw [if_neg (by omega)] at hcut
              exact ⟨rfl, _, c - d, by rw [hm5], by rw [hx]; exact hcut⟩
        case rest =>
          obtain ⟨rfl, A', c', rfl, hsl⟩ := hcut
          have hm8 : m5 ≤ 8 := by rw [← HP.out.1, ← HXS.out, List.length_drop, List.length_map, List.length_range]; omega
          have HS := Lib.hid (And.intro hsl (And.intro (Own.slOf HP.out.2.1) (And.intro HP.out.2.2.1 HP.out.1)))
          clear hsl
          go_wp2
          go_loopw [19] (fun i wr2 => ∃ (j : Nat), i = .int .i64 j ∧ j ≤ m5 ∧ Below wc.heap.size wc wr2) (fun i _ => m5 + 1 - (intOf i).toNat)
          case atStart => exact ⟨0, rfl, Nat.zero_le _, Below.refl _ _⟩
          case round =>
            obtain ⟨j, rfl, hj, hb8⟩ := hrel
            by_cases hjl : j < m5
            · have hjl1 : (j : Int) < (m5 : Int) := by omega
              have hjm : j < xs.length := by have := HS.out.2.2.2; omega
              obtain ⟨ak, rfl, hat1⟩ := Sl.at_ cI_length (HS.out.1.keep hb8) hjm
              obtain ⟨bk, rfl, hat2⟩ := Sl.at_ cI_length (HS.out.2.1.keep hb8) hjm
              obtain ⟨y, hy⟩ : ∃ y, xs[j] = y := ⟨_, rfl⟩
              have hmem : y ∈ xs := hy ▸ List.getElem_mem hjm
              rw [hy] at hat1 hat2
              have hks := stO_kept (W := W) hT1 (HXS.out ▸ hmem)
              have HK := Lib.hid (And.intro hks (And.intro hat1 (And.intro hat2 (HS.out.2.2.1.keep hb8))))
              have HB8 := Lib.hid hb8
              clear hat1 hat2 hy hmem hks hb8
              go_upto_region 30 with (fail)
              go_cut [153] from 121 to 153 (fun v w' => v = .bool false ∧ Below wr.heap.size wr w')
              case first =>
                refine AnyO.wp_anyI (by kernel_rfl) (by kernel_rfl) (AnyO.InvG (σ := Unit) (fun σ => AnyO.pvL [some (.slice (some bk) m5 d5), some (.int .i64 j), some (.pointer (some (bk.add (j * 32)))), some (vI y), some (.slice (some ak) m5 c'), some (.int .i64 j), some (.pointer (some (ak.add (j * 32)))), some (vI y), some (.bool false), some (.bool false), some (.pointer (some ⟨b, 0, none⟩)), some (.slice (some bk) m5 d5), some (.int .i64 j), some (.pointer (some (bk.add (j * 32)))), some (vI y), some (.int .i64 2), some (.bool false), some (.bool false), some (.bool false), some (.pointer (some ⟨b, 0, none⟩)), some (.slice (some bk) m5 d5), some (.int .i64 j), some (.pointer (some (bk.add (j * 32)))), some (vI y), some (.int .i64 5), some (.bool false), some (.bool false)]) (fun _ _ u => Below wr.heap.size wr u)) (AnyO.InvG.start (g := ()) (below_drew _)) ?_ ?_
                · intro i hi
                  have hi2 : i = 3 ∨ i = 7 ∨ i = 10 ∨ i = 11 ∨ i = 12 ∨ i = 13 ∨ i = 14 ∨ i = 15 ∨ i = 16 ∨ i = 19 ∨ i = 20 ∨ i = 21 ∨ i = 22 ∨ i = 23 ∨ i = 24 ∨ i = 25 ∨ i = 0 ∨ i = 1 ∨ i = 2 ∨ i = 4 ∨ i = 5 ∨ i = 6 ∨ i = 8 ∨ i = 9 ∨ i = 17 ∨ i = 18 ∨ i = 26 := by simp only [List.size_toArray, List.length_cons, List.length_nil] at hi; omega
                  clear hi
                  rcases hi2 with rfl | rfl | rfl | rfl | rfl | rfl | rfl | rfl | rfl | rfl | rfl | rfl | rfl | rfl | rfl | rfl | rfl | rfl | rfl | rfl | rfl | rfl | rfl | rfl | rfl | rfl | rfl
                  · refine AnyO.StepI.mk rfl [2] (by kernel_rfl) ?_; rintro D vs u ⟨σ, hP, hW⟩ h0 hC hp ac hb K hK
                    have s129 := AnyO.slot 129 hb (by kernel_rfl) (hP 2 (hp 2 (by decide)))
                    rw [if_pos (AnyO.wanted_none rfl)]; clear hb hp
                    have q := (HK.out.2.2.1.keep hW).idv
                    have rr1 := q.1
                    have rr2 := q.2
                    clear q
                    clear hC h0; have HPW := Lib.hid (And.intro hP hW); clear hP hW; go_simp; exact hK _ _ (AnyO.InvG.step (g := σ) HPW.out.1 rfl HPW.out.2)
                  · refine AnyO.StepI.mk rfl [6] (by kernel_rfl) ?_; rintro D vs u ⟨σ, hP, hW⟩ h0 hC hp ac hb K hK
                    have s133 := AnyO.slot 133 hb (by kernel_rfl) (hP 6 (hp 6 (by decide)))
                    rw [if_pos (AnyO.wanted_none rfl)]; clear hb hp
                    have q := (HK.out.2.1.keep hW).idv
                    have rr1 := q.1
                    have rr2 := q.2
                    clear q
                    clear hC h0; have HPW := Lib.hid (And.intro hP hW); clear hP hW; go_simp; exact hK _ _ (AnyO.InvG.step (g := σ) HPW.out.1 rfl HPW.out.2)
                  · refine AnyO.StepI.mk rfl [9] (by kernel_rfl) ?_; rintro D vs u ⟨σ, hP, hW⟩ h0 hC hp ac hb K hK
                    have s5 : ac.tmps[5]?.getD undef = .pointer (some ⟨b, 0, none⟩) := by rw [hb]; kernel_rfl
                    have s136 := AnyO.slot 136 hb (by kernel_rfl) (hP 9 (hp 9 (by decide)))
                    rw [if_pos (AnyO.wanted_some (g := 9) (t := 136) (want := false) rfl rfl s136)]
                    clear hb hp
                    clear hC h0; have HPW := Lib.hid (And.intro hP hW); clear hP hW; go_simp; exact hK _ _ (AnyO.InvG.step (g := σ) HPW.out.1 rfl HPW.out.2)
                  · refine AnyO.StepI.mk rfl [9] (by kernel_rfl) ?_; rintro D vs u ⟨σ, hP, hW⟩ h0 hC hp ac hb K hK
                    have s18 : ac.tmps[18]?.getD undef = .slice (some bk) m5 d5 := by rw [hb]; kernel_rfl
                    have s136 := AnyO.slot 136 hb (by kernel_rfl) (hP 9 (hp 9 (by decide)))
                    rw [if_pos (AnyO.wanted_some (g := 9) (t := 136) (want := false) rfl rfl s136)]
                    clear hb hp
                    clear hC h0; have HPW := Lib.hid (And.intro hP hW); clear hP hW; go_simp; exact hK _ _ (AnyO.InvG.step (g := σ) HPW.out.1 rfl HPW.out.2)
                  · refine AnyO.StepI.mk rfl [9] (by kernel_rfl) ?_; rintro D vs u ⟨σ, hP, hW⟩ h0 hC hp ac hb K hK
                    have s19 : ac.tmps[19]?.getD undef = .int .i64 j := by rw [hb]; kernel_rfl
                    have s136 := AnyO.slot 136 hb (by kernel_rfl) (hP 9 (hp 9 (by decide)))
                    rw [if_pos (AnyO.wanted_some (g := 9) (t := 136) (want := false) rfl rfl s136)]
                    clear hb hp
                    clear hC h0; have HPW := Lib.hid (And.intro hP hW); clear hP hW; go_simp; exact hK _ _ (AnyO.InvG.step (g := σ) HPW.out.1 rfl HPW.out.2)
                  · refine AnyO.StepI.mk rfl [11, 12, 9] (by kernel_rfl) ?_; rintro D vs u ⟨σ, hP, hW⟩ h0 hC hp ac hb K hK
                    have s138 := AnyO.slot 138 hb (by kernel_rfl) (hP 11 (hp 11 (by decide)))
                    have s139 := AnyO.slot 139 hb (by kernel_rfl) (hP 12 (hp 12 (by decide)))
                    have s136 := AnyO.slot 136 hb (by kernel_rfl) (hP 9 (hp 9 (by decide)))
                    rw [if_pos (AnyO.wanted_some (g := 9) (t := 136) (want := false) rfl rfl s136)]
                    clear hb hp
                    clear hC h0; have HPW := Lib.hid (And.intro hP hW); clear hP hW; go_simp; exact hK _ _ (AnyO.InvG.step (g := σ) HPW.out.1 rfl HPW.out.2)
                  · refine AnyO.StepI.mk rfl [13, 9] (by kernel_rfl) ?_; rintro D vs u ⟨σ, hP, hW⟩ h0 hC hp ac hb K hK
                    have s140 := AnyO.slot 140 hb (by kernel_rfl) (hP 13 (hp 13 (by decide)))
                    have s136 := AnyO.slot 136 hb (by kernel_rfl) (hP 9 (hp 9 (by decide)))
                    rw [if_pos (AnyO.wanted_some (g := 9) (t := 136) (want := false) rfl rfl s136)]
                    clear hb hp
                    have q := (HK.out.2.2.1.keep hW).idv
                    have rr1 := q.1
                    have rr2 := q.2
                    clear q
                    clear hC h0; have HPW := Lib.hid (And.intro hP hW); clear hP hW; go_simp; exact hK _ _ (AnyO.InvG.step (g := σ) HPW.out.1 rfl HPW.out.2)
                  · refine AnyO.StepI.mk rfl [10, 14, 9, 9] (by kernel_rfl) ?_; rintro D vs u ⟨σ, hP, hW⟩ h0 hC hp ac hb K hK
                    have s137 := AnyO.slot 137 hb (by kernel_rfl) (hP 10 (hp 10 (by decide)))
                    have s141 := AnyO.slot 141 hb (by kernel_rfl) (hP 14 (hp 14 (by decide)))
                    have s136 := AnyO.slot 136 hb (by kernel_rfl) (hP 9 (hp 9 (by decide)))
                    rw [if_pos (AnyO.wanted_some (g := 9) (t := 136) (want := false) rfl rfl s136)]
                    clear hb hp
                    clear hC h0; have HPW := Lib.hid (And.intro hP hW); clear hP hW; go_simp; obtain ⟨hP, hW⟩ := HPW.out
                    go_at_call 23
                    refine ((HK.out.2.2.2.keep hW).received y).mono ?_
                    rw [HK.out.1.1]
                    rintro e w2 ⟨rfl, hcb⟩
                    exact hK _ _ (AnyO.InvG.step (g := σ) hP rfl (Below.step hW hcb))
                  · refine AnyO.StepI.mk rfl [15, 9] (by kernel_rfl) ?_; rintro D vs u ⟨σ, hP, hW⟩ h0 hC hp ac hb K hK
                    have s142 := AnyO.slot 142 hb (by kernel_rfl) (hP 15 (hp 15 (by decide)))
                    have s136 := AnyO.slot 136 hb (by kernel_rfl) (hP 9 (hp 9 (by decide)))
                    rw [if_pos (AnyO.wanted_some (g := 9) (t := 136) (want := false) rfl rfl s136)]
                    clear hb hp
                    clear hC h0; have HPW := Lib.hid (And.intro hP hW); clear hP hW; go_simp; exact hK _ _ (AnyO.InvG.step (g := σ) HPW.out.1 rfl HPW.out.2)
                  · refine AnyO.StepI.mk rfl [18] (by kernel_rfl) ?_; rintro D vs u ⟨σ, hP, hW⟩ h0 hC hp ac hb K hK
                    have s5 : ac.tmps[5]?.getD undef = .pointer (some ⟨b, 0, none⟩) := by rw [hb]; kernel_rfl
                    have s145 := AnyO.slot 145 hb (by kernel_rfl) (hP 18 (hp 18 (by decide)))
                    rw [if_pos (AnyO.wanted_some (g := 18) (t := 145) (want := false) rfl rfl s145)]
                    clear hb hp
                    clear hC h0; have HPW := Lib.hid (And.intro hP hW); clear hP hW; go_simp; exact hK _ _ (AnyO.InvG.step (g := σ) HPW.out.1 rfl HPW.out.2)
                  · refine AnyO.StepI.mk rfl [18] (by kernel_rfl) ?_; rintro D vs u ⟨σ, hP, hW⟩ h0 hC hp ac hb K hK
                    have s18 : ac.tmps[18]?.getD undef = .slice (some bk) m5 d5 := by rw [hb]; kernel_rfl
                    have s145 := AnyO.slot 145 hb (by kernel_rfl) (hP 18 (hp 18 (by decide)))
                    rw [if_pos (AnyO.wanted_some (g := 18) (t := 145) (want := false) rfl rfl s145)]
                    clear hb hp
                    clear hC h0; have HPW := Lib.hid (And.intro hP hW); clear hP hW; go_simp; exact hK _ _ (AnyO.InvG.step (g := σ) HPW.out.1 rfl HPW.out.2)
                  · refine AnyO.StepI.mk rfl [18] (by kernel_rfl) ?_; rintro D vs u ⟨σ, hP, hW⟩ h0 hC hp ac hb K hK
                    have s19 : ac.tmps[19]?.getD undef = .int .i64 j := by rw [hb]; kernel_rfl
                    have s145 := AnyO.slot 145 hb (by kernel_rfl) (hP 18 (hp 18 (by decide)))
                    rw [if_pos (AnyO.wanted_some (g := 18) (t := 145) (want := false) rfl rfl s145)]
                    clear hb hp
                    clear hC h0; have HPW := Lib.hid (And.intro hP hW); clear hP hW; go_simp; exact hK _ _ (AnyO.InvG.step (g := σ) HPW.out.1 rfl HPW.out.2)
                  · refine AnyO.StepI.mk rfl [20, 21, 18] (by kernel_rfl) ?_; rintro D vs u ⟨σ, hP, hW⟩ h0 hC hp ac hb K hK
                    have s147 := AnyO.slot 147 hb (by kernel_rfl) (hP 20 (hp 20 (by decide)))
                    have s148 := AnyO.slot 148 hb (by kernel_rfl) (hP 21 (hp 21 (by decide)))
                    have s145 := AnyO.slot 145 hb (by kernel_rfl) (hP 18 (hp 18 (by decide)))
                    rw [if_pos (AnyO.wanted_some (g := 18) (t := 145) (want := false) rfl rfl s145)]
                    clear hb hp
                    clear hC h0; have HPW := Lib.hid (And.intro hP hW); clear hP hW; go_simp; exact hK _ _ (AnyO.InvG.step (g := σ) HPW.out.1 rfl HPW.out.2)
                  · refine AnyO.StepI.mk rfl [22, 18] (by kernel_rfl) ?_; rintro D vs u ⟨σ, hP, hW⟩ h0 hC hp ac hb K hK
                    have s149 := AnyO.slot 149 hb (by kernel_rfl) (hP 22 (hp 22 (by decide)))
                    have s145 := AnyO.slot 145 hb (by kernel_rfl) (hP 18 (hp 18 (by decide)))
                    rw [if_pos (AnyO.wanted_some (g := 18) (t := 145) (want := false) rfl rfl s145)]
                    clear hb hp
                    have q := (HK.out.2.2.1.keep hW).idv
                    have rr1 := q.1
                    have rr2 := q.2
                    clear q
                    clear hC h0; have HPW := Lib.hid (And.intro hP hW); clear hP hW; go_simp; exact hK _ _ (AnyO.InvG.step (g := σ) HPW.out.1 rfl HPW.out.2)
                  · refine AnyO.StepI.mk rfl [19, 23, 18, 18] (by kernel_rfl) ?_; rintro D vs u ⟨σ, hP, hW⟩ h0 hC hp ac hb K hK
                    have s146 := AnyO.slot 146 hb (by kernel_rfl) (hP 19 (hp 19 (by decide)))
                    have s150 := AnyO.slot 150 hb (by kernel_rfl) (hP 23 (hp 23 (by decide)))
                    have s145 := AnyO.slot 145 hb (by kernel_rfl) (hP 18 (hp 18 (by decide)))
                    rw [if_pos (AnyO.wanted_some (g := 18) (t := 145) (want := false) rfl rfl s145)]
                    clear hb hp
                    clear hC h0; have HPW := Lib.hid (And.intro hP hW); clear hP hW; go_simp; obtain ⟨hP, hW⟩ := HPW.out
                    go_at_call 24
                    refine ((HK.out.2.2.2.keep hW).size y).mono ?_
                    rw [HK.out.1.2]
                    rintro e w2 ⟨rfl, hcb⟩
                    exact hK _ _ (AnyO.InvG.step (g := σ) hP rfl (Below.step hW hcb))
                  · refine AnyO.StepI.mk rfl [24, 18] (by kernel_rfl) ?_; rintro D vs u ⟨σ, hP, hW⟩ h0 hC hp ac hb K hK
                    have s151 := AnyO.slot 151 hb (by kernel_rfl) (hP 24 (hp 24 (by decide)))
                    have s145 := AnyO.slot 145 hb (by kernel_rfl) (hP 18 (hp 18 (by decide)))
                    rw [if_pos (AnyO.wanted_some (g := 18) (t := 145) (want := false) rfl rfl s145)]
                    clear hb hp
                    clear hC h0; have HPW := Lib.hid (And.intro hP hW); clear hP hW; go_simp; exact hK _ _ (AnyO.InvG.step (g := σ) HPW.out.1 rfl HPW.out.2)
                  all_goals
                    refine AnyO.StepI.mk rfl _ rfl ?_; rintro D vs u ⟨σ, hP, hW⟩ h0 hC hp ac hb K hK
                    try have s18 : ac.tmps[18]?.getD undef = .slice (some bk) m5 d5 := by rw [hb]; kernel_rfl
                    try have s19 : ac.tmps[19]?.getD undef = .int .i64 j := by rw [hb]; kernel_rfl
                    try have s127 := AnyO.slot 127 hb (by kernel_rfl) (hP 0 (hp 0 (by decide +kernel)))
                    try have s128 := AnyO.slot 128 hb (by kernel_rfl) (hP 1 (hp 1 (by decide +kernel)))
                    try have s7 : ac.tmps[7]?.getD undef = .slice (some ak) m5 c' := by rw [hb]; kernel_rfl
                    try have s131 := AnyO.slot 131 hb (by kernel_rfl) (hP 4 (hp 4 (by decide +kernel)))
                    try have s132 := AnyO.slot 132 hb (by kernel_rfl) (hP 5 (hp 5 (by decide +kernel)))
                    try have s130 := AnyO.slot 130 hb (by kernel_rfl) (hP 3 (hp 3 (by decide +kernel)))
                    try have s134 := AnyO.slot 134 hb (by kernel_rfl) (hP 7 (hp 7 (by decide +kernel)))
                    try have s135 := AnyO.slot 135 hb (by kernel_rfl) (hP 8 (hp 8 (by decide +kernel)))
                    try have s136 := AnyO.slot 136 hb (by kernel_rfl) (hP 9 (hp 9 (by decide +kernel)))
                    try have s143 := AnyO.slot 143 hb (by kernel_rfl) (hP 16 (hp 16 (by decide +kernel)))
                    try have s144 := AnyO.slot 144 hb (by kernel_rfl) (hP 17 (hp 17 (by decide +kernel)))
                    try have s145 := AnyO.slot 145 hb (by kernel_rfl) (hP 18 (hp 18 (by decide +kernel)))
                    try have s152 := AnyO.slot 152 hb (by kernel_rfl) (hP 25 (hp 25 (by decide +kernel)))
                    rw [if_pos (AnyO.wanted_none rfl)]; clear hb hp hC h0; have HPW := Lib.hid (And.intro hP hW); clear hP hW; go_simp; obtain ⟨hP, hW⟩ := HPW.out
                    exact hK _ _ (AnyO.InvG.step (g := σ) hP rfl hW)
                · intro D vs u hI hD
                  obtain ⟨σ, hP, hW⟩ := hI
                  have e0 : _ = _ := hP 0 (hD 0 (by decide))
                  have e1 : _ = _ := hP 1 (hD 1 (by decide))
                  have e2 : _ = _ := hP 2 (hD 2 (by decide))
                  have e3 : _ = _ := hP 3 (hD 3 (by decide))
                  have e4 : _ = _ := hP 4 (hD 4 (by decide))
                  have e5 : _ = _ := hP 5 (hD 5 (by decide))
                  have e6 : _ = _ := hP 6 (hD 6 (by decide))
                  have e7 : _ = _ := hP 7 (hD 7 (by decide))
                  have e8 : _ = _ := hP 8 (hD 8 (by decide))
                  have e9 : _ = _ := hP 9 (hD 9 (by decide))
                  have e10 : _ = _ := hP 10 (hD 10 (by decide))
                  have e11 : _ = _ := hP 11 (hD 11 (by decide))
                  have e12 : _ = _ := hP 12 (hD 12 (by decide))
                  have e13 : _ = _ := hP 13 (hD 13 (by decide))
                  have e14 : _ = _ := hP 14 (hD 14 (by decide))
                  have e15 : _ = _ := hP 15 (hD 15 (by decide))
                  have e16 : _ = _ := hP 16 (hD 16 (by decide))
                  have e17 : _ = _ := hP 17 (hD 17 (by decide))
                  have e18 : _ = _ := hP 18 (hD 18 (by decide))
                  have e19 : _ = _ := hP 19 (hD 19 (by decide))
                  have e20 : _ = _ := hP 20 (hD 20 (by decide))
                  have e21 : _ = _ := hP 21 (hD 21 (by decide))
                  have e22 : _ = _ := hP 22 (hD 22 (by decide))
                  have e23 : _ = _ := hP 23 (hD 23 (by decide))
                  have e24 : _ = _ := hP 24 (hD 24 (by decide))
                  have e25 : _ = _ := hP 25 (hD 25 (by decide))
                  have e26 : _ = _ := hP 26 (hD 26 (by decide))
                  have HW := Lib.hid hW
                  clear hW hP hD
                  rw [puts_range [some 127, some 128, some 129, some 130, some 131, some 132, some 133, some 134, some 135, some 136, some 137, some 138, some 139, some 140, some 141, some 142, some 143, some 144, some 145, some 146, some 147, some 148, some 149, some 150, some 151, some 152, some 153] (by kernel_rfl)]
                  simp only [putL, Nat.reduceAdd, e0, e1, e2, e3, e4, e5, e6, e7, e8, e9, e10, e11, e12, e13, e14, e15, e16, e17, e18, e19, e20, e21, e22, e23, e24, e25, e26]
                  clear e0 e1 e2 e3 e4 e5 e6 e7 e8 e9 e10 e11 e12 e13 e14 e15 e16 e17 e18 e19 e20 e21 e22 e23 e24 e25 e26
                  go_simp
                  go_wp2
                  go_meet
                  case rel => exact ⟨rfl, HW.out⟩
              case rest =>
                obtain ⟨rfl, hb9⟩ := hcut
                have HB9 := Lib.hid (Below.step HB8.out hb9)
                clear hb9
                go_wp2
                go_roundw
                case rel => exact ⟨j + 1, by go_num, by omega, HB9.out⟩
                case measure => simp [intOf] <;> omega
            · have hjl1 : ¬ (j : Int) < (m5 : Int) := by omega
              have HB8 := Lib.hid hb8
              clear hb8
              go_wp2
              go_ret
              exact ⟨rfl, Below.step HP.out.2.2.1.bel HB8.out⟩
end Go.Proofs.YtgojaelkdpabkaaGreatDoor
