/- Parse of package references: the list of a text, or the offset and the code of the first error. -/
import Derived.Test.YtcchpenaiomeeaaRid
import Derived.Test.YtcchpenaiomeeaaParseL
namespace Go.Proofs.Ytcchpenaiomeeaa
open Go.RowKit
theorem mparse_yes2 (s : ByteArray) (w : World) (x : Id) (h : identB (bl s) = true) (hx : midL (bl s) = x) :
    Calls Try.prog 46 #[.string s] w fun e w' => e = .returned (.tuple #[vI x, .int .i64 0, .int .i64 0]) ∧ Below w.heap.size w w' := by
  subst hx
  exact mparse_yes s w h
set_option maxRecDepth 100000 in
set_option maxHeartbeats 3200000 in
theorem parse_p (s : ByteArray) (w : World) (hs : s.size ≤ 4294967296) : Calls Try.prog 28 #[.string s] w (OutP w (parseL (bl s))) := by
  have hmm := @run_makeMap Try.prog
  go_enter Try.func28, Try.ntmps28
  go_wp2_with fail
  clear hmm
  go_loopw [2, 6] (fun l i wr => ∃ (k n : Nat) (out : List Id), k ≤ s.size ∧ i = .int .i64 k ∧ s.size - k < n ∧ out.length ≤ 20 ∧ parseL (bl s) = parseF n ((bl s).drop k) k out ∧ Below w.heap.size w wr ∧ Own wr (w.heap.size + 1) 33 32 cI l out ∧ Mp wr w.heap.size out) (fun _ i _ => s.size - (intOf i).toNat)
  case atStart => exact ⟨0, s.size + 1, [], Nat.zero_le _, rfl, by omega, by simp, by unfold parseL; rw [bl_length]; rfl, below_alloc _ _, Own.nil _ _ _ _ _, Mp.made w⟩
  case round =>
    obtain ⟨k, n, out, hk, rfl, hn, h20, hp, hb, ho, hmp⟩ := hrel
    obtain ⟨n, rfl⟩ : ∃ m, n = m + 1 := ⟨n - 1, by omega⟩
    have HO := Lib.hid (And.intro hb (And.intro ho hmp))
    have HN := Lib.hid (And.intro hn (And.intro h20 hp))
    clear hb ho hp hn hmp
    by_cases hlt : k < s.size
    · rcases hbk : blkB s[k] with _ | _
      · obtain ⟨A, q, c, rfl, hl, hc, hsl⟩ := HO.out.2.1.sl'
        have HSL := Lib.hid (And.intro hl (And.intro hc hsl))
        clear hc hsl
        go_wp2_with (go_at_call 45; refine (blank_b _ _).mono ?_; rintro e w' ⟨rfl, rfl⟩)
        obtain ⟨wo, hwo⟩ : ∃ wo : World, wo = wr := ⟨_, rfl⟩
        subst hwo
        go_loop [7] (fun t => ∃ m : Nat, k ≤ m ∧ m ≤ s.size ∧ t = .int .i64 m ∧ k + tokL ((bl s).drop k) = m + tokL ((bl s).drop m)) (fun t => s.size - (intOf t).toNat)
        case atStart => exact ⟨k, Nat.le_refl _, hk, rfl, rfl⟩
        case round =>
          obtain ⟨m, hkm, hm, rfl, ht⟩ := hrel
          have HT := Lib.hid ht; clear ht
          by_cases hml : m < s.size ∧ ∃ h : m < s.size, blkB s[m] = false
          · obtain ⟨hml, _, hbm⟩ := hml
            go_wp2_with (go_at_call 45; refine (blank_b _ _).mono ?_; rintro e w' ⟨rfl, rfl⟩)
            go_round
            case rel => exact ⟨m + 1, by omega, by omega, by go_num, by have := HT.out; have e := runL_yes nbl s m hml (by simp [nbl, hbm]); unfold tokL at *; omega⟩
            case measure => simp [intOf]; omega
          · have hm0 : tokL ((bl s).drop m) = 0 := by
              by_cases h : m < s.size
              · exact runL_no nbl s m h (by simp [nbl]; rcases hq : blkB s[m] with _ | _; exact absurd ⟨h, h, hq⟩ hml; rfl)
              · exact runL_end nbl s m (by omega)
            have hme : m = k + tokL ((bl s).drop k) := by have := HT.out; omega
            have HM := Lib.hid (And.intro hme (tokL_pos hlt hbk))
            have hkm2 : k < m := by have := HM.out.1; have := HM.out.2; omega
            clear hme hm0
            by_cases hml2 : m < s.size
            case' pos =>
              have hbm : blkB s[m] = true := by
                rcases hq : blkB s[m] with _ | _
                · exact absurd ⟨hml2, hml2, hq⟩ hml
                · rfl
            all_goals
              clear hml
              by_cases h9 : out.length = 20
              · have HP := Lib.hid (HN.out.2.2.trans (parseF_nine hlt hbk h9))
                have q1 : ((q : Int) == 20) = true := by rw [← hl, h9]; rfl
                clear h9 hl
                go_wp2_with (go_at_call 45; refine (blank_b _ _).mono ?_; rintro e w' ⟨rfl, rfl⟩)
                go_ret3
                rw [HP.out]
                exact OutP.none HO.out.1
              · have q1 : ((q : Int) == 20) = false := by rw [← hl]; simp; omega
                have H9 := Lib.hid h9
                clear h9 hl
                rcases hid : identB (bl (s.extract k m)) with _ | _
                · have HP := Lib.hid (And.intro (HN.out.2.2.trans (parseF_three hlt hbk H9.out HM.out.1 hid)) hid)
                  clear hid
                  go_wp2_with (first
                    | (go_at_call 45; refine (blank_b _ _).mono ?_; rintro e w' ⟨rfl, rfl⟩)
                    | (go_at_call 46; refine (mparse_no (s.extract k m) _ HP.out.2).mono ?_; intro e w1 hme; obtain ⟨a, nn, he, hnn, hb1⟩ := hme; subst he; have q2 : (nn != 0) = true := bne_iff_ne.2 hnn; have H1 := Lib.hid hb1; clear hnn hb1))
                  go_ret3
                  rw [HP.out.1]
                  exact OutP.none (Below.step (Below.step HO.out.1 H1.out) (below_alloc _ _))
                · obtain ⟨x, hx⟩ : ∃ x, midL (bl (s.extract k m)) = x := ⟨_, rfl⟩
                  have HI := Lib.hid (And.intro hid (And.intro hx (show out.length < maxLen by unfold maxLen; have := HN.out.2.1; omega)))
                  clear hid hx
                  by_cases hne : nextE out x = 0
                  · have HP := Lib.hid (And.intro (HN.out.2.2.trans (parseF_go hlt hbk H9.out HM.out.1 HI.out.1 (by rw [HI.out.2.1]; exact hne))) hne)
                    have q3 : (nextE out x != 0) = false := by simp [hne]
                    clear hne
                    go_wp2_with (first
                      | (go_at_call 45; refine (blank_b _ _).mono ?_; rintro e w' ⟨rfl, rfl⟩)
                      | (go_at_call 46; refine (mparse_yes2 (s.extract k m) _ x HI.out.1 HI.out.2.1).mono ?_; rintro e w1 ⟨rfl, hb1⟩; have H1 := Lib.hid hb1; clear hb1)
                      | (go_at_call 40; refine (next40 x w.heap.size out _ ((HO.out.2.2.kept H1.out).kept (below_alloc w1 (.cells (aI x) 33))) HI.out.2.2).mono ?_; rintro e w2 ⟨rfl, hg2, hm2⟩; have hat := (at_new w1 (cI x) 33 w1.heap.size rfl).keptG hg2 (by have h1 := HO.out.2.2.lt; have h2 := H1.out.size; show some w1.heap.size ≠ some w.heap.size; intro e; injection e with e; omega); have hok2 := hat.ok; have hrd2 := hat.rd; rw [cI_length] at hok2 hrd2; have H2 := Lib.hid (And.intro hg2 (hm2 HP.out.2)); clear hat hg2 hm2)
                      | (at_builtin; refine wpList_append_sl _ rfl (.tmp 60) (.tmp 62) 24 rfl (w.heap.size + 1) 33 32 32 cI under24 row33 (by decide) cI_length cI_one _ out rfl (Own.keep (Own.keptG (Own.keep (Own.keep HO.out.2.1 H1.out) (below_alloc w1 (.cells (aI x) 33))) H2.out.1 (fun k e => by injection e with e; omega)) (below_alloc w2 (.cells (aIs [x]) 33))) _ _ _ [x] rfl rfl (sl_newI w2 33 [x]) (by have := HN.out.2.1; simp; omega) (by have := HN.out.2.1; simp; omega) (by have h1 := HO.out.2.2.lt; have h2 := H1.out.size; have h3 := H2.out.1.size; simp at h3 ⊢; omega) ?_))
                    intro v' w3 ho3 hg3
                    have hb2 : Below w.heap.size w (w2.alloc (.cells (aIs [x]) 33)) := (((HO.out.1.trans (H1.out.mono HO.out.1.size)).alloc (Nat.le_trans HO.out.1.size H1.out.size) (.cells (aI x) 33)).trans (Mp.grown (Nat.le_refl _) H2.out.1 (by have h1 := HO.out.1.size; have h2 := H1.out.size; simp; omega))).alloc (by have h1 := HO.out.1.size; have h2 := H1.out.size; have h3 := H2.out.1.size; simp at h3; omega) _
                    have hown2 := Own.keep (Own.keptG (Own.keep (Own.keep HO.out.2.1 H1.out) (below_alloc w1 (.cells (aI x) 33))) H2.out.1 (fun k e => by injection e with e; omega)) (below_alloc w2 (.cells (aIs [x]) 33))
                    have hb3 := Own.grew hown2 hg3 hb2 (Nat.le_succ _) hb2.size
                    have hm3 := (H2.out.2.kept (below_alloc w2 (.cells (aIs [x]) 33))).keptG hg3 (by intro e; have := (Own.lt hown2 _ e.symm).1; omega)
                    have H3 := Lib.hid (And.intro hb3 (And.intro ho3 hm3))
                    clear hb2 hown2 hb3 hm3 ho3 hg3
                    go_wp2
                    go_roundw
                    case' rel => exact ⟨m, n, out ++ [x], hm, rfl, by have := HN.out.1; omega, by rw [List.length_append, List.length_singleton]; have := H9.out; have := HN.out.2.1; omega, by rw [HP.out.1, HI.out.2.1], H3.out⟩
                    case' measure => simp [intOf]; omega
                  · have HP := Lib.hid (HN.out.2.2.trans (parseF_next hlt hbk H9.out HM.out.1 HI.out.1 (by rw [HI.out.2.1]; exact hne)))
                    have q3 : (nextE out x != 0) = true := by simp [hne]
                    clear hne
                    go_wp2_with (first
                      | (go_at_call 45; refine (blank_b _ _).mono ?_; rintro e w' ⟨rfl, rfl⟩)
                      | (go_at_call 46; refine (mparse_yes2 (s.extract k m) _ x HI.out.1 HI.out.2.1).mono ?_; rintro e w1 ⟨rfl, hb1⟩; have H1 := Lib.hid hb1; clear hb1)
                      | (go_at_call 40; refine (next40 x w.heap.size out _ ((HO.out.2.2.kept H1.out).kept (below_alloc w1 (.cells (aI x) 33))) HI.out.2.2).mono ?_; rintro e w2 ⟨rfl, hg2, hm2⟩; have H2 := Lib.hid hg2; clear hg2 hm2))
                    go_ret3
                    rw [HP.out, HI.out.2.1]
                    exact OutP.none (((HO.out.1.trans (H1.out.mono HO.out.1.size)).alloc (Nat.le_trans HO.out.1.size H1.out.size) (.cells (aI x) 33)).trans (Mp.grown (Nat.le_refl _) H2.out (by have h1 := HO.out.1.size; have h2 := H1.out.size; simp; omega)))
      · have HP := Lib.hid (HN.out.2.2.trans (parseF_blank hlt hbk))
        go_wp2_with (go_at_call 45; refine (blank_b _ _).mono ?_; rintro e w' ⟨rfl, rfl⟩)
        go_roundw
        case rel => exact ⟨k + 1, n, out, hlt, by go_num, by have := HN.out.1; omega, HN.out.2.1, HP.out, HO.out⟩
        case measure => simp [intOf]; omega
    · have HP := Lib.hid (HN.out.2.2.trans (parseF_end _ s k k out (by omega)))
      obtain ⟨A, q, c, rfl, hl, hc, hsl⟩ := HO.out.2.1.sl'
      have HSL := Lib.hid (And.intro hl (And.intro hc hsl))
      clear hl hc hsl
      go_wp2
      go_ret3
      rw [HP.out]
      exact ⟨_, _, _, rfl, HSL.out.1, HSL.out.2.1, HO.out.1, HSL.out.2.2⟩
end Go.Proofs.Ytcchpenaiomeeaa
