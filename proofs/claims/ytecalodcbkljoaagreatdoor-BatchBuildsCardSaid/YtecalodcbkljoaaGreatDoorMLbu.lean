/- BatchBuilds is true for all items and limits. -/
import Derived.Test.YtecalodcbkljoaaGreatDoorMGrd
import Derived.Test.YtecalodcbkljoaaGreatDoorMBlx
import Derived.Test.YtecalodcbkljoaaGreatDoorMTo5
import Derived.Test.YtecalodcbkljoaaGreatDoorMRtx
import Derived.Test.YtecalodcbkljoaaGreatDoorMPkp
import Derived.Test.YtecalodcbkljoaaGreatDoorMIdx
namespace Go.Proofs.YtecalodcbkljoaaGreatDoor
open Go.RowKit
set_option maxRecDepth 100000 in
set_option maxHeartbeats 12800000 in
theorem builds_law (A : Option Addr) (c : Nat) (l : List It) (most : Int) (w : World) (hs : Sl w cX A l) (hc : l.length ≤ c) (_hm : c ≤ maxLen) (_hi : -9223372036854775808 ≤ most ∧ most ≤ 9223372036854775807) (hL : Laid w) : Calls Tryz.prog 7 #[.slice A l.length c, .int .i64 most] w fun e w' => e = .returned (.bool true) ∧ Below w.heap.size w w' := by
  obtain ⟨X, hX⟩ : ∃ X, toL l = X := ⟨_, rfl⟩
  have HX := Lib.hid (show X.length ≤ 10 ∧ (∀ x ∈ X, x.text.size ≤ 400) from by
    rw [← hX]
    exact ⟨toL_len l, toL_size l⟩)
  have HXE := Lib.hid hX
  have H0 := Lib.hid (And.intro hs (And.intro hc hL))
  have HBB := Lib.hid (show ∀ x ∈ X, x.text.size ≤ 1000000 from fun x hx => by have := HX.out.2 x hx; omega)
  obtain ⟨M, hM⟩ : ∃ M, X.length = M := ⟨_, rfl⟩
  have HM := Lib.hid hM
  clear hs hc hL hX hM _hm _hi
  by_cases h0 : most < 1 ∨ 4194304 < most
  · have HBD := Lib.hid h0
    have HS := Lib.hid (show splitE most X = .error 2 by unfold splitE; rw [if_pos h0])
    clear h0
    by_cases h1 : most < 1
    · go_enter Tryz.func7, Tryz.ntmps7
      go_wp2_with (first
        | (go_at_call 17; refine (to_b A c l _ H0.out.1 H0.out.2.1).mono ?_; rintro e w1 ⟨v1, rfl, ho1, hb1⟩; rw [HXE.out] at ho1; obtain ⟨A1, d1, rfl, hd1, hd1m, hs1⟩ := ho1.slmB; rw [HM.out] at hd1 ⊢; have H1 := Lib.hid (And.intro hb1 (And.intro hs1 (And.intro hd1 hd1m))); clear hb1 ho1 hd1 hd1m hs1)
        | (go_at_call 23; have hrs := rsplit_b A1 d1 X most _ H1.out.2.1 (by have := H1.out.2.2.1; have := HM.out; omega) H1.out.2.2.2 (by have := HX.out.1; omega) HBB.out; rw [HM.out] at hrs; refine hrs.mono ?_; clear hrs; rintro e w2 hr2; rw [HS.out] at hr2; obtain ⟨rfl, hb2⟩ := hr2; have H2 := Lib.hid (Below.step H1.out.1 hb2); clear hb2)
        | (go_at_call 25; refine (newb_bad most _ HBD.out).mono ?_; rintro e w3 ⟨rfl, hb3⟩; have H3 := Lib.hid (Below.step H2.out hb3); clear hb3)
        | (go_at_call 12; refine (known_c _ (H0.out.2.2.keep H3.out)).mono ?_; rintro en w4 ⟨rfl, hb4⟩; have H4 := Lib.hid (Below.step H3.out hb4); clear hb4))
      go_ret
      exact ⟨rfl, H4.out⟩
    · have h2 : 4194304 < most := by have := HBD.out; omega
      go_enter Tryz.func7, Tryz.ntmps7
      go_wp2_with (first
        | (go_at_call 17; refine (to_b A c l _ H0.out.1 H0.out.2.1).mono ?_; rintro e w1 ⟨v1, rfl, ho1, hb1⟩; rw [HXE.out] at ho1; obtain ⟨A1, d1, rfl, hd1, hd1m, hs1⟩ := ho1.slmB; rw [HM.out] at hd1 ⊢; have H1 := Lib.hid (And.intro hb1 (And.intro hs1 (And.intro hd1 hd1m))); clear hb1 ho1 hd1 hd1m hs1)
        | (go_at_call 23; have hrs := rsplit_b A1 d1 X most _ H1.out.2.1 (by have := H1.out.2.2.1; have := HM.out; omega) H1.out.2.2.2 (by have := HX.out.1; omega) HBB.out; rw [HM.out] at hrs; refine hrs.mono ?_; clear hrs; rintro e w2 hr2; rw [HS.out] at hr2; obtain ⟨rfl, hb2⟩ := hr2; have H2 := Lib.hid (Below.step H1.out.1 hb2); clear hb2)
        | (go_at_call 25; refine (newb_bad most _ HBD.out).mono ?_; rintro e w3 ⟨rfl, hb3⟩; have H3 := Lib.hid (Below.step H2.out hb3); clear hb3)
        | (go_at_call 12; refine (known_c _ (H0.out.2.2.keep H3.out)).mono ?_; rintro en w4 ⟨rfl, hb4⟩; have H4 := Lib.hid (Below.step H3.out hb4); clear hb4))
      go_ret
      exact ⟨rfl, H4.out⟩
  have HGD := Lib.hid h0
  have hg1 : ¬ most < 1 := by omega
  have hg2 : ¬ 4194304 < most := by omega
  by_cases hfi : ∀ x ∈ X, Fine most x
  rotate_left
  · have HS := Lib.hid (show splitE most X = .error 5 by
      obtain ⟨x, hx⟩ := Classical.not_forall.1 hfi
      obtain ⟨hx1, hx2⟩ := Classical.not_imp.1 hx
      exact splitE_bad h0 hx1 hx2)
    clear h0 hfi
    go_enter Tryz.func7, Tryz.ntmps7
    go_wp2_with (first
      | (go_at_call 17; refine (to_b A c l _ H0.out.1 H0.out.2.1).mono ?_; rintro e w1 ⟨v1, rfl, ho1, hb1⟩; rw [HXE.out] at ho1; obtain ⟨A1, d1, rfl, hd1, hd1m, hs1⟩ := ho1.slmB; rw [HM.out] at hd1 ⊢; have H1 := Lib.hid (And.intro hb1 (And.intro hs1 (And.intro hd1 hd1m))); clear hb1 ho1 hd1 hd1m hs1)
      | (go_at_call 23; have hrs := rsplit_b A1 d1 X most _ H1.out.2.1 (by have := H1.out.2.2.1; have := HM.out; omega) H1.out.2.2.2 (by have := HX.out.1; omega) HBB.out; rw [HM.out] at hrs; refine hrs.mono ?_; clear hrs; rintro e w2 hr2; rw [HS.out] at hr2; obtain ⟨rfl, hb2⟩ := hr2; have H2 := Lib.hid (Below.step H1.out.1 hb2); clear hb2)
      | (go_at_call 25; refine (newb_good most _ (H0.out.2.2.keep H2.out) (by have := HGD.out; omega) (by have := HGD.out; omega)).mono ?_; rintro e w3 ⟨rfl, -, hb3⟩; have H3 := Lib.hid (Below.step H2.out hb3); clear hb3)
      | (go_at_call 12; refine (known_c _ (H0.out.2.2.keep H3.out)).mono ?_; rintro en w4 ⟨rfl, hb4⟩; have H4 := Lib.hid (Below.step H3.out hb4); clear hb4))
    go_ret
    exact ⟨rfl, H4.out⟩
  have HF := Lib.hid hfi
  obtain ⟨ls, hls⟩ : ∃ ls, batches most X = ls := ⟨_, rfl⟩
  have HS := Lib.hid (show splitE most X = .ok ls by rw [← hls]; exact splitE_good h0 hfi)
  have HLS := Lib.hid hls
  obtain ⟨N, hN⟩ : ∃ N, ls.length = N := ⟨_, rfl⟩
  have HN := Lib.hid hN
  clear h0 hfi hls hN
  go_enter Tryz.func7, Tryz.ntmps7
  go_wp2_with (first
    | (go_at_call 17; refine (to_b A c l _ H0.out.1 H0.out.2.1).mono ?_; rintro e w1 ⟨v1, rfl, ho1, hb1⟩; rw [HXE.out] at ho1; obtain ⟨A1, d1, rfl, hd1, hd1m, hs1⟩ := ho1.slmB; rw [HM.out] at hd1 ⊢; have H1 := Lib.hid (And.intro hb1 (And.intro hs1 (And.intro hd1 hd1m))); clear hb1 ho1 hd1 hd1m hs1)
    | (go_at_call 23; have hrs := rsplit_b A1 d1 X most _ H1.out.2.1 (by have := H1.out.2.2.1; have := HM.out; omega) H1.out.2.2.2 (by have := HX.out.1; omega) HBB.out; rw [HM.out] at hrs; refine hrs.mono ?_; clear hrs; rintro e w2 hr2; rw [HS.out] at hr2; obtain ⟨A3, c3, qs, rfl, hs3, hq3, hb2⟩ := hr2; rw [HN.out]; have H2 := Lib.hid (show Below w.heap.size w w2 ∧ Sl w2 cX A1 X ∧ Sl w2 cSv A3 qs ∧ Reads w2 qs ls from ⟨Below.step H1.out.1 hb2, H1.out.2.1.keep hb2, hs3, hq3⟩); clear hb2 hs3 hq3)
    | (go_at_call 25; obtain ⟨B, hB⟩ : ∃ B, w2.heap.size = B := ⟨_, rfl⟩; refine (newb_good most _ (H0.out.2.2.keep H2.out.1) (by have := HGD.out; omega) (by have := HGD.out; omega)).mono ?_; rintro e w3 ⟨rfl, hbd, hb3⟩; rw [hB] at hbd ⊢; have H3 := Lib.hid (show BdL B B most [] [] w3 ∧ Below w2.heap.size w2 w3 from ⟨hbd, hb3⟩); have HBQ := Lib.hid hB; clear hbd hb3 hB)
    | (go_at_call 12; refine (known_c _ (H0.out.2.2.keep (Below.step H2.out.1 H3.out.2))).mono ?_; rintro en w4 ⟨rfl, hb4⟩; have H4 := Lib.hid (show BdL B B most [] [] w4 ∧ Below w2.heap.size w2 w4 from ⟨H3.out.1.keep hb4, Below.step H3.out.2 hb4⟩); clear hb4))
  have HDD := Lib.hid (And.intro H1.out.2.2.1 H1.out.2.2.2)
  clear H1 H3
  go_loopw [10, 11, 12] (fun v d i wr => ∃ (t k : Nat) (L : List It) (F : List Nat), t ≤ M ∧ i = .int .i64 (t : Int) ∧ d = .int .i64 (k : Int) ∧ GrI most X t k L ∧ (0 < t → 0 < L.length) ∧ BdL B B most L F wr ∧ Own wr B 39 33 cX v L ∧ (∀ j, v.ownBlock = some j → j ∈ F) ∧ Below w2.heap.size w2 wr) (fun _ _ i _ => M - (intOf i).toNat)
  case atStart => exact ⟨0, 0, [], [], Nat.zero_le _, rfl, rfl, GrI.start most X, (fun h => by omega), H4.out.1, Own.nil _ _ _ _ _, (fun j hj => by cases hj), H4.out.2⟩
  case round =>
    obtain ⟨t, k, L, F, ht, rfl, rfl, hgr, hpos, hbd, hown, hoF, hbw⟩ := hrel
    have HR := Lib.hid (show BdL B B most L F wr ∧ Own wr B 39 33 cX u10 L ∧ (∀ j, u10.ownBlock = some j → j ∈ F) ∧ Below w2.heap.size w2 wr from ⟨hbd, hown, hoF, hbw⟩)
    have HG := Lib.hid (And.intro hgr hpos)
    have hk10 : (k : Int) ≤ 10 := by have h1 := hgr.cnt HF.out; have h2 := HX.out.1; have h3 := HM.out; omega
    have hM10 : M ≤ 10 := by have := HX.out.1; have := HM.out; omega
    have HTL := Lib.hid (show L.length ≤ 10 by have := hgr.len; omega)
    have hkB := Lib.hid (show k ≤ t from hgr.cnt HF.out)
    clear hbd hown hoF hbw hgr hpos
    by_cases hlt : t < M
    · have hltX : t < X.length := by rw [HM.out]; exact hlt
      have HLX := Lib.hid hltX
      obtain ⟨ad, rfl, hat⟩ := Sl.at_ cX_length H2.out.2.1 hltX
      obtain ⟨x, hxe⟩ : ∃ x, X[t]'hltX = x := ⟨_, rfl⟩
      have HXX := Lib.hid hxe
      rw [hxe] at hat
      have HAT := Lib.hid hat
      have HS1 := Lib.hid (show Sl wr cX (some (ad.add (t * 33))) [x] from by
        have q := (H2.out.2.1.keep HR.out.2.2.2).midX t 1
        rwa [List.take_one, List.drop_eq_getElem_cons hltX, hxe] at q)
      have HFX := Lib.hid (show Fine most x from HF.out x (by rw [← hxe]; exact List.getElem_mem _))
      have HXT := Lib.hid (show x.text.size ≤ 65536 from HFX.out.1)
      have HXB := Lib.hid (show ∀ y ∈ L ++ [x], y.text.size ≤ 1000000 from fun y hy => by
        rcases List.mem_append.1 hy with hy | hy
        · have := (HR.out.1.facts).2.2.1 y hy
          omega
        · rw [List.mem_singleton.1 hy]
          have := HXT.out
          omega)
      have HD1 := Lib.hid (show M ≤ d1 ∧ d1 ≤ 9223372036854775807 from HDD.out)
      have hlti : (t : Int) < (M : Int) := by omega
      have hT : (t : Int) < 100000 := by omega
      have htc : ¬ d1 = t := by have := HD1.out.1; omega
      have htci : (t : Int) + 1 ≤ (d1 : Int) := by have := HD1.out.1; omega
      clear hat hxe ht
      by_cases h9 : most < (sizeN (L.length + 1) (sumN L + itN x) : Int)
      · have hl := (addE_nine (fine_add HFX.out) h9).2
        have HE := Lib.hid (addE_nine (fine_add HFX.out) h9).1
        have HE0 := Lib.hid (show addE most [] x = (0, [x]) from addE_zero (l := []) (fine_add HFX.out) (by
          rw [show sumN ([] : List It) + itN x = itN x by simp [sumN]]
          exact fine_add HFX.out))
        have hcut := HG.out.1.cut HF.out HLX.out hl (by rw [HXX.out]; exact h9)
        rw [HXX.out, HLS.out] at hcut
        have hlk := hcut.1
        have HG2 := Lib.hid (show GrI most X (t + 1) (k + 1) [x] from hcut.2)
        have hkl : k < ls.length := (List.getElem?_eq_some_iff.1 hlk).1
        have hkq : k < qs.length := by rw [H2.out.2.2.2.1]; exact hkl
        have h5 := H2.out.2.2.2.2 k _ L (List.getElem?_eq_getElem hkq) hlk
        obtain ⟨cd, rfl, hct⟩ := Sl.at_ cSv_length H2.out.2.2.1 hkq
        obtain ⟨⟨A5, m5, c5⟩, e5⟩ : ∃ q, qs[k]'hkq = q := ⟨_, rfl⟩
        rw [e5] at hct h5
        have HC5 := Lib.hid (show w2.cell? (cd.add k) = some (.slice A5 m5 c5) from by
          have := hct.2 0 _ rfl
          rwa [add_of_add, Nat.mul_one, Nat.add_zero] at this)
        obtain ⟨S, hS⟩ : ∃ S, batS L = S := ⟨_, rfl⟩
        have HPK := Lib.hid (show pkS L = S from by
          have f := HR.out.1.facts
          unfold pkS
          rw [if_pos (chk_goodB f.2.2.1 f.2.1 (by
            rcases f.2.2.2.1 with e | e
            · rw [e] at hl
              simp at hl
            · have := f.1
              omega)), hS])
        have HRT5 := Lib.hid (fun W (hW : Below w2.heap.size w2 W) => rtext_b A5 c5 L W (h5.2.keep hW) (by have := HTL.out; omega) (fun y hy => by have := HR.out.1.facts.2.2.1 y hy; omega))
        rw [← h5.1, hS] at HRT5
        have HLE := Lib.hid (show L ≠ [] from fun e => by rw [e] at hl; simp at hl)
        have hkN : (k : Int) < (N : Int) := by have := HN.out; omega
        have hkg : ((N : Int) ≤ (k : Int)) = False := eq_false (by omega)
        clear h9 hl hcut hlk hkl hkq h5 hct e5 hS
        go_wp2_with (first
          | (go_at_call 22; refine (back_b (some (ad.add (t * 33))) (d1 - t) [x] _ HS1.out (by simp)).mono ?_; rintro e w3 ⟨v3, rfl, ho3, hb3⟩; obtain ⟨A3b, d3, rfl, -, hs3⟩ := ho3.sl; obtain ⟨ad3, rfl, hat3⟩ := Sl.at_ cX_length hs3 (k := 0) (by simp); rw [show ([x][0]'(by simp)) = x from rfl, Nat.zero_mul, add_zeroA] at hat3; have hok := hat3.ok; have hrd := hat3.rd; rw [cX_length] at hok hrd; change rdA w3 ad3 33 = vX x at hrd; have H3 := Lib.hid (show BdL B B most L F w3 ∧ Own w3 B 39 33 cX u10 L ∧ Below w2.heap.size w2 w3 from ⟨HR.out.1.keep hb3, HR.out.2.1.keep hb3, Below.step HR.out.2.2.2 hb3⟩); clear hb3 ho3 hs3 hat3)
          | (have hh := H3; clear hh; go_at_call 26; refine ((H3.out.1.more (below_alloc _ _) [w3.heap.size] (fun k hk => by obtain rfl := List.mem_singleton.1 hk; simp)).add x HXT.out (by have := HTL.out; omega)).mono ?_; rintro e w4 ⟨rfl, hbd4, hk4⟩; rw [HE.out] at hbd4 ⊢; have H4 := Lib.hid (show BdL B B most L ([w3.heap.size] ++ F) w4 ∧ Row w4 w3.heap.size (cX x) 64 ∧ Below w2.heap.size w2 w4 from ⟨hbd4, hk4.rowF (Row.new w3 (cX x) _) (by simp), hk4.step (Below.step H3.out.2.2 (below_alloc _ _)) (Nat.le_of_eq HBQ.out)⟩); clear hbd4 hk4 H3)
          | (have hh := H4; clear hh; go_at_call 27; refine (H4.out.1.flush HLE.out).mono ?_; rintro e w5 ⟨rfl, hbd5, hk5⟩; rw [HPK.out]; have H5 := Lib.hid (show BdL B B most [] ([w3.heap.size] ++ F) w5 ∧ Row w5 w3.heap.size (cX x) 64 ∧ Below w2.heap.size w2 w5 from ⟨hbd5, hk5.rowF H4.out.2.1 (by simp), hk5.step H4.out.2.2 (Nat.le_of_eq HBQ.out)⟩); have hc5 := cell_below HC5.out H5.out.2.2; clear hbd5 hk5 H4)
          | (have hh := H5; clear hh; go_at_call 28; refine (HRT5.out _ H5.out.2.2).mono ?_; rintro e w6 ⟨rfl, hb6⟩; have H6 := Lib.hid (show BdL B B most [] ([w3.heap.size] ++ F) w6 ∧ Row w6 w3.heap.size (cX x) 64 ∧ Below w2.heap.size w2 w6 from ⟨H5.out.1.keep hb6, H5.out.2.1.keep hb6, Below.step H5.out.2.2 hb6⟩); clear hb6 H5 hc5)
          | (have hh := H6; clear hh; go_at_call 29; refine H6.out.1.len.mono ?_; rintro e w7 ⟨rfl, hb7⟩; rw [show ((([] : List It).length : Nat) : Int) = 0 from rfl]; have H7 := Lib.hid (show BdL B B most [] ([w3.heap.size] ++ F) w7 ∧ Row w7 w3.heap.size (cX x) 64 ∧ Below w2.heap.size w2 w7 from ⟨H6.out.1.keep hb7, H6.out.2.1.keep hb7, Below.step H6.out.2.2 hb7⟩); obtain ⟨⟨x0, x1, -⟩, -, -⟩ := rowX H7.out.2.1; clear hb7 H6)
          | (have hh := H7; clear hh; go_at_call 26; refine (H7.out.1.add x HXT.out (by decide)).mono ?_; rintro e w8 ⟨rfl, hbd8, hk8⟩; rw [HE0.out] at hbd8 ⊢; have HA4 := Lib.hid (show BdL B B most [x] ([w3.heap.size] ++ F) w8 ∧ True ∧ Below w2.heap.size w2 w8 from ⟨hbd8, trivial, hk8.step H7.out.2.2 (Nat.le_of_eq HBQ.out)⟩); have hat4 := HAT.out.keep HA4.out.2.2; have hok4 := hat4.ok; have hrd4 := hat4.rd; rw [cX_length] at hok4 hrd4; change rdA w8 (ad.add (t * 33)) 33 = vX x at hrd4; clear hbd8 hk8 H7 hat4)
          | (at_builtin; refine wpList_append_slat _ rfl (.tmp 117) (.tmp 122) 26 rfl B 39 33 48 cX underFs rowXF (by decide) cX_length cX_one (.slice none 0 0) ([] : List It) rfl (Own.nil _ _ _ _ _) (some ⟨w8.heap.size, 0, none⟩) 1 1 [x] rfl rfl (sl_newX _ x _) (by have := HTL.out; simp <;> omega) (by have := HTL.out; simp <;> omega) (by have h1 := HBQ.out; have h2 := HA4.out.2.2.size; simp; omega) ?_))
        intro v9 w9 ho9 hg9 hat9
        replace ho9 : Own w9 B 39 33 cX v9 ([x]) := ho9
        have hsz : (w8.alloc (.cells (aX x) 39)).heap.size = w8.heap.size + 1 := by simp
        have H9 := Lib.hid (show BdL B B most ([x]) (v9.ownBlock.toList ++ ([w3.heap.size] ++ F)) w9 ∧ Own w9 B 39 33 cX v9 ([x]) ∧ (∀ j, v9.ownBlock = some j → j ∈ v9.ownBlock.toList ++ ([w3.heap.size] ++ F)) ∧ Below w2.heap.size w2 w9 from
          ⟨BdL.grewN (HA4.out.1.keep (below_alloc _ _)) hg9 (fun j hj => by cases hj) (hat9.imp id (fun e => by rw [e, hsz])) (fun j hj => (ho9.lt j hj).2), ho9, (fun j hj => List.mem_append_left _ (Option.mem_toList.2 hj)),
           Own.grew (Own.nil (w8.alloc (.cells (aX x) 39)) B 39 33 cX) hg9 (Below.step HA4.out.2.2 (below_alloc _ _)) (Nat.le_of_eq HBQ.out) (by rw [hsz]; exact Nat.le_succ_of_le HA4.out.2.2.size)⟩)
        obtain ⟨A9, c9, rfl, hc9, hs9⟩ := ho9.sl
        obtain ⟨LN, hLN⟩ : ∃ LN, [x] = LN := ⟨_, rfl⟩
        have HG3 := Lib.hid (show GrI most X (t + 1) (k + 1) LN from by rw [← hLN]; exact HG2.out)
        have HXN := Lib.hid (show ∀ y ∈ LN, y.text.size ≤ 1000000 from by rw [← hLN]; exact (fun y hy => by rw [List.mem_singleton.1 hy]; have := HXT.out; omega))
        have HPN := Lib.hid (show 0 < LN.length ∧ LN.length ≤ 1000 from by
          rw [← hLN]
          have := HTL.out
          simp
          try omega)
        rw [hLN] at H9 hs9
        rw [hLN]
        have HFA := Lib.hid H9.out.1.facts
        obtain ⟨n9, hn9⟩ : ∃ n9, LN.length = n9 := ⟨_, rfl⟩
        have HN9 := Lib.hid hn9
        obtain ⟨z, hz⟩ : ∃ z, sizeN LN.length (sumN LN) = z := ⟨_, rfl⟩
        have hzm : (z : Int) ≤ most := by
          rcases HFA.out.2.2.2.1 with e | e
          · have := HPN.out.1
            rw [e] at this
            simp at this
          · rw [← hz]
            exact e
        have hzw : IntKind.i64.wrap (most - (z : Int)) = most - (z : Int) := IntWalk.i64_in _ (by have := HFA.out.1; omega)
        have hz1 : (batS LN).size = z := by rw [bat_size, hz]
        have HROOM := Lib.hid (show max 0 (most - (sizeN LN.length (sumN LN) : Int)) = most - (z : Int) from by rw [hz]; omega)
        have HSL := Lib.hid hs9
        have HRT := Lib.hid (fun W hW => rtext_b A9 c9 LN W hW HPN.out.2 HXN.out)
        rw [hn9] at H9 HRT ⊢
        clear ho9 hg9 hat9 hsz hc9 hs9 hLN hz hn9 hzm
        go_wp2_with (first
          | (have hh := H9; clear hh; go_at_call 29; refine H9.out.1.len.mono ?_; rintro e w10 ⟨rfl, hb10⟩; rw [HN9.out]; have H10 := Lib.hid (show BdL B B most LN ((Value.slice A9 n9 c9).ownBlock.toList ++ ([w3.heap.size] ++ F)) w10 ∧ Own w10 B 39 33 cX (.slice A9 n9 c9) LN ∧ Below w2.heap.size w2 w10 from ⟨H9.out.1.keep hb10, H9.out.2.1.keep hb10, Below.step H9.out.2.2.2 hb10⟩); have HS10 := Lib.hid (HSL.out.keep hb10); have HOF := Lib.hid H9.out.2.2.1; clear hb10 H9)
          | (have hh := H10; clear hh; go_at_call 30; refine H10.out.1.room.mono ?_; rintro e w11 ⟨rfl, hb11⟩; rw [HROOM.out]; have H11 := Lib.hid (show BdL B B most LN ((Value.slice A9 n9 c9).ownBlock.toList ++ ([w3.heap.size] ++ F)) w11 ∧ Own w11 B 39 33 cX (.slice A9 n9 c9) LN ∧ Below w2.heap.size w2 w11 from ⟨H10.out.1.keep hb11, H10.out.2.1.keep hb11, Below.step H10.out.2.2 hb11⟩); have HS11 := Lib.hid (HS10.out.keep hb11); clear hb11 H10)
          | (have hh := H11; clear hh; go_at_call 28; refine (HRT.out _ HS11.out).mono ?_; rintro e w12 ⟨rfl, hb12⟩; have H12 := Lib.hid (show BdL B B most LN ((Value.slice A9 n9 c9).ownBlock.toList ++ ([w3.heap.size] ++ F)) w12 ∧ Own w12 B 39 33 cX (.slice A9 n9 c9) LN ∧ Below w2.heap.size w2 w12 from ⟨H11.out.1.keep hb12, H11.out.2.1.keep hb12, Below.step H11.out.2.2 hb12⟩); clear hb12 H11))
        go_roundw
        case rel => exact ⟨t + 1, k + 1, LN, (Value.slice A9 n9 c9).ownBlock.toList ++ ([w3.heap.size] ++ F), hlt, by go_num, by go_num, HG3.out, fun _ => HPN.out.1, H12.out.1, H12.out.2.1, HOF.out, H12.out.2.2⟩
        case measure => simp [intOf]; omega
      · have HE := Lib.hid (addE_zero (fine_add HFX.out) h9)
        have HG2 := Lib.hid (show GrI most X (t + 1) k (L ++ [x]) from by
          have q := HG.out.1.more HLX.out (by have := HTL.out; omega) (by rw [HXX.out]; exact h9)
          rwa [HXX.out] at q)
        clear h9
        go_wp2_with (first
          | (go_at_call 22; refine (back_b (some (ad.add (t * 33))) (d1 - t) [x] _ HS1.out (by simp)).mono ?_; rintro e w3 ⟨v3, rfl, ho3, hb3⟩; obtain ⟨A3b, d3, rfl, -, hs3⟩ := ho3.sl; obtain ⟨ad3, rfl, hat3⟩ := Sl.at_ cX_length hs3 (k := 0) (by simp); rw [show ([x][0]'(by simp)) = x from rfl, Nat.zero_mul, add_zeroA] at hat3; have hok := hat3.ok; have hrd := hat3.rd; rw [cX_length] at hok hrd; change rdA w3 ad3 33 = vX x at hrd; have H3 := Lib.hid (show BdL B B most L F w3 ∧ Own w3 B 39 33 cX u10 L ∧ Below w2.heap.size w2 w3 from ⟨HR.out.1.keep hb3, HR.out.2.1.keep hb3, Below.step HR.out.2.2.2 hb3⟩); clear hb3 ho3 hs3 hat3)
          | (go_at_call 26; (refine ((H3.out.1.keep (below_alloc _ _)).add x HXT.out (by have := HTL.out; omega)).mono ?_; rintro e w4 ⟨rfl, hbd4, hk4⟩; rw [HE.out] at hbd4 ⊢; have HA4 := Lib.hid (show BdL B B most (L ++ [x]) F w4 ∧ Own w4 B 39 33 cX u10 L ∧ Below w2.heap.size w2 w4 from ⟨hbd4, hk4.own (H3.out.2.1.keep (below_alloc _ _)) HR.out.2.2.1, hk4.step (Below.step H3.out.2.2 (below_alloc _ _)) (Nat.le_of_eq HBQ.out)⟩); have hat4 := HAT.out.keep HA4.out.2.2; have hok4 := hat4.ok; have hrd4 := hat4.rd; rw [cX_length] at hok4 hrd4; change rdA w4 (ad.add (t * 33)) 33 = vX x at hrd4; clear hbd4 hk4 H3 hat4))
          | (at_builtin; refine wpList_append_slat _ rfl (.tmp 117) (.tmp 122) 26 rfl B 39 33 48 cX underFs rowXF (by decide) cX_length cX_one u10 L rfl (HA4.out.2.1.keep (below_alloc _ _)) (some ⟨w4.heap.size, 0, none⟩) 1 1 [x] rfl rfl (sl_newX _ x _) (by have := HTL.out; simp <;> omega) (by have := HTL.out; simp <;> omega) (by have h1 := HBQ.out; have h2 := HA4.out.2.2.size; simp; omega) ?_))
        intro v9 w9 ho9 hg9 hat9
        replace ho9 : Own w9 B 39 33 cX v9 (L ++ [x]) := ho9
        have hsz : (w4.alloc (.cells (aX x) 39)).heap.size = w4.heap.size + 1 := by simp
        have H9 := Lib.hid (show BdL B B most (L ++ [x]) (v9.ownBlock.toList ++ F) w9 ∧ Own w9 B 39 33 cX v9 (L ++ [x]) ∧ (∀ j, v9.ownBlock = some j → j ∈ v9.ownBlock.toList ++ F) ∧ Below w2.heap.size w2 w9 from
          ⟨BdL.grewN (HA4.out.1.keep (below_alloc _ _)) hg9 (fun j hj => ⟨HR.out.2.2.1 j hj, (HR.out.2.1.lt j hj).1⟩) (hat9.imp id (fun e => by rw [e, hsz])) (fun j hj => (ho9.lt j hj).2), ho9, (fun j hj => List.mem_append_left _ (Option.mem_toList.2 hj)),
           Own.grew (HA4.out.2.1.keep (below_alloc _ _)) hg9 (Below.step HA4.out.2.2 (below_alloc _ _)) (Nat.le_of_eq HBQ.out) (by rw [hsz]; exact Nat.le_succ_of_le HA4.out.2.2.size)⟩)
        obtain ⟨A9, c9, rfl, hc9, hs9⟩ := ho9.sl
        obtain ⟨LN, hLN⟩ : ∃ LN, L ++ [x] = LN := ⟨_, rfl⟩
        have HG3 := Lib.hid (show GrI most X (t + 1) (k) LN from by rw [← hLN]; exact HG2.out)
        have HXN := Lib.hid (show ∀ y ∈ LN, y.text.size ≤ 1000000 from by rw [← hLN]; exact HXB.out)
        have HPN := Lib.hid (show 0 < LN.length ∧ LN.length ≤ 1000 from by
          rw [← hLN]
          have := HTL.out
          simp
          try omega)
        rw [hLN] at H9 hs9
        rw [hLN]
        have HFA := Lib.hid H9.out.1.facts
        obtain ⟨n9, hn9⟩ : ∃ n9, LN.length = n9 := ⟨_, rfl⟩
        have HN9 := Lib.hid hn9
        obtain ⟨z, hz⟩ : ∃ z, sizeN LN.length (sumN LN) = z := ⟨_, rfl⟩
        have hzm : (z : Int) ≤ most := by
          rcases HFA.out.2.2.2.1 with e | e
          · have := HPN.out.1
            rw [e] at this
            simp at this
          · rw [← hz]
            exact e
        have hzw : IntKind.i64.wrap (most - (z : Int)) = most - (z : Int) := IntWalk.i64_in _ (by have := HFA.out.1; omega)
        have hz1 : (batS LN).size = z := by rw [bat_size, hz]
        have HROOM := Lib.hid (show max 0 (most - (sizeN LN.length (sumN LN) : Int)) = most - (z : Int) from by rw [hz]; omega)
        have HSL := Lib.hid hs9
        have HRT := Lib.hid (fun W hW => rtext_b A9 c9 LN W hW HPN.out.2 HXN.out)
        rw [hn9] at H9 HRT ⊢
        clear ho9 hg9 hat9 hsz hc9 hs9 hLN hz hn9 hzm
        go_wp2_with (first
          | (have hh := H9; clear hh; go_at_call 29; refine H9.out.1.len.mono ?_; rintro e w10 ⟨rfl, hb10⟩; rw [HN9.out]; have H10 := Lib.hid (show BdL B B most LN ((Value.slice A9 n9 c9).ownBlock.toList ++ F) w10 ∧ Own w10 B 39 33 cX (.slice A9 n9 c9) LN ∧ Below w2.heap.size w2 w10 from ⟨H9.out.1.keep hb10, H9.out.2.1.keep hb10, Below.step H9.out.2.2.2 hb10⟩); have HS10 := Lib.hid (HSL.out.keep hb10); have HOF := Lib.hid H9.out.2.2.1; clear hb10 H9)
          | (have hh := H10; clear hh; go_at_call 30; refine H10.out.1.room.mono ?_; rintro e w11 ⟨rfl, hb11⟩; rw [HROOM.out]; have H11 := Lib.hid (show BdL B B most LN ((Value.slice A9 n9 c9).ownBlock.toList ++ F) w11 ∧ Own w11 B 39 33 cX (.slice A9 n9 c9) LN ∧ Below w2.heap.size w2 w11 from ⟨H10.out.1.keep hb11, H10.out.2.1.keep hb11, Below.step H10.out.2.2 hb11⟩); have HS11 := Lib.hid (HS10.out.keep hb11); clear hb11 H10)
          | (have hh := H11; clear hh; go_at_call 28; refine (HRT.out _ HS11.out).mono ?_; rintro e w12 ⟨rfl, hb12⟩; have H12 := Lib.hid (show BdL B B most LN ((Value.slice A9 n9 c9).ownBlock.toList ++ F) w12 ∧ Own w12 B 39 33 cX (.slice A9 n9 c9) LN ∧ Below w2.heap.size w2 w12 from ⟨H11.out.1.keep hb12, H11.out.2.1.keep hb12, Below.step H11.out.2.2 hb12⟩); clear hb12 H11))
        go_roundw
        case rel => exact ⟨t + 1, k, LN, (Value.slice A9 n9 c9).ownBlock.toList ++ F, hlt, by go_num, by go_num, HG3.out, fun _ => HPN.out.1, H12.out.1, H12.out.2.1, HOF.out, H12.out.2.2⟩
        case measure => simp [intOf]; omega
    · obtain rfl : t = M := by omega
      by_cases hz0 : t = 0
      · subst hz0
        have hl0 : L = [] := List.eq_nil_of_length_eq_zero (by have := HG.out.1.len; omega)
        subst hl0
        obtain ⟨R, hR⟩ : ∃ R : Int, max 0 (most - 12) = R := ⟨_, rfl⟩
        have HRM := Lib.hid (show max 0 (most - (sizeN ([] : List It).length (sumN []) : Int)) = R from by rw [← hR, show sizeN ([] : List It).length (sumN []) = 12 by kernel_rfl]; rfl)
        have hR2 : max (most - 12) 0 = R := by omega
        clear HG
        go_wp2_with (first
          | (go_at_call 27; refine HR.out.1.flush0.mono ?_; rintro e w5 ⟨rfl, hbd5, hk5⟩; have H5 := Lib.hid (show BdL B B most [] F w5 ∧ Below w2.heap.size w2 w5 from ⟨hbd5, hk5.step HR.out.2.2.2 (Nat.le_of_eq HBQ.out)⟩); clear hbd5 hk5)
          | (go_at_call 30; refine H5.out.1.room.mono ?_; rintro e w6 ⟨rfl, hb6⟩; rw [HRM.out]; have H6 := Lib.hid (Below.step (Below.step H2.out.1 H5.out.2) hb6); clear hb6))
        go_ret
        exact ⟨rfl, H6.out⟩
      · have hl : 0 < L.length := HG.out.2 (by omega)
        have hla := HG.out.1.last HF.out HM.out.symm hl
        rw [HLS.out] at hla
        have hlk := hla.1
        have hNk : (N : Int) = (k : Int) + 1 := by have := hla.2; have := HN.out; omega
        have hkl : k < ls.length := (List.getElem?_eq_some_iff.1 hlk).1
        have hkq : k < qs.length := by rw [H2.out.2.2.2.1]; exact hkl
        have h5 := H2.out.2.2.2.2 k _ L (List.getElem?_eq_getElem hkq) hlk
        obtain ⟨cd, rfl, hct⟩ := Sl.at_ cSv_length H2.out.2.2.1 hkq
        obtain ⟨⟨A5, m5, c5⟩, e5⟩ : ∃ q, qs[k]'hkq = q := ⟨_, rfl⟩
        rw [e5] at hct h5
        have HC5 := Lib.hid (show w2.cell? (cd.add k) = some (.slice A5 m5 c5) from by
          have := hct.2 0 _ rfl
          rwa [add_of_add, Nat.mul_one, Nat.add_zero] at this)
        obtain ⟨S, hS⟩ : ∃ S, batS L = S := ⟨_, rfl⟩
        have HPK := Lib.hid (show pkS L = S from by
          have f := HR.out.1.facts
          unfold pkS
          rw [if_pos (chk_goodB f.2.2.1 f.2.1 (by
            rcases f.2.2.2.1 with e | e
            · rw [e] at hl
              simp at hl
            · have := f.1
              omega)), hS])
        have HRT5 := Lib.hid (fun W (hW : Below w2.heap.size w2 W) => rtext_b A5 c5 L W (h5.2.keep hW) (by have := HTL.out; omega) (fun y hy => by have := HR.out.1.facts.2.2.1 y hy; omega))
        rw [← h5.1, hS] at HRT5
        have HLE := Lib.hid (show L ≠ [] from fun e => by rw [e] at hl; simp at hl)
        have hkN : (k : Int) < (N : Int) := by have := HN.out; omega
        have hnw : (N : Int) - 1 = (k : Int) := by omega
        have hnw2 : IntKind.i64.wrap ((N : Int) - 1) = (k : Int) := by rw [hnw]; exact IntWalk.i64_in _ (by omega)
        have hM0 : ((t : Int) == 0) = false := by simp; omega
        clear hl hlk hkl hkq h5 hct e5 hS hla hNk
        go_wp2_with (first
          | (go_at_call 27; refine (HR.out.1.flush HLE.out).mono ?_; rintro e w5 ⟨rfl, hbd5, hk5⟩; rw [HPK.out]; have H5 := Lib.hid (hk5.step HR.out.2.2.2 (Nat.le_of_eq HBQ.out)); have hc5 := cell_below HC5.out H5.out; clear hbd5 hk5)
          | (go_at_call 28; refine (HRT5.out _ H5.out).mono ?_; rintro e w6 ⟨rfl, hb6⟩; have H6 := Lib.hid (Below.step (Below.step H2.out.1 H5.out) hb6); clear hb6))
        go_ret
        exact ⟨rfl, H6.out⟩
end Go.Proofs.YtecalodcbkljoaaGreatDoor
