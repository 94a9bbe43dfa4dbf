/- Items divided into batches by the reference: bulletinref35.Split. -/
import Derived.Test.YtecalodcbkljoaaGreatDoorMSpl
import Derived.Test.YtecalodcbkljoaaGreatDoorMRtx
import Derived.Test.YtecalodcbkljoaaGreatDoorMTo5
namespace Go.Proofs.YtecalodcbkljoaaGreatDoor
open Go.RowKit
@[go_sem] theorem run_bs26_0 (w : World) : (bsA 26 0 #[]).run Tryz.prog w = .ok (.slice (some ⟨w.heap.size, 0, none⟩) 0 0) (w.alloc (.cells #[] 39)) := by
  obtain ⟨i, z, h1, h2, h3⟩ := info_of rowXF
  exact run_bsA (P := Tryz.prog) w vX 26 39 i z 33 Tryz.underlying26 h1 h2 h3 (fun x => by show (aX x).size = 33; simp [aX, cX_length]) [] (by simp)
theorem underFSs : Tryz.prog.underlying 55 = some (.slice 26) := Tryz.underlying55
theorem rowFSs : (Tryz.prog.info? 26).map (fun i => (i.zero.map (·.cells.size), i.size, i.bytes)) = some (some 1, 1, 24) := by kernel_rfl
theorem Cnt.one {most : Int} {l : List It} (h : ∀ x ∈ l, Fine most x) {f : Nat} (hf : f < l.length) : Cnt most (l.drop f) 1 := by
  have h1 : 0 < (l.drop f).length := by rw [List.length_drop]; omega
  refine (Cnt.zero most (l.drop f)).next h1 (by omega) ?_
  have hx := (h ((l.drop f)[0]'h1) (List.mem_of_mem_drop (List.getElem_mem h1))).2
  unfold FitsB at hx
  rw [List.take_zero, show sumN [] + itN ((l.drop f)[0]'h1) = itN ((l.drop f)[0]'h1) by simp [sumN]]
  exact hx
theorem bat_size (l : List It) : (batS l).size = sizeN l.length (sumN l) := by rw [batS_size, batL_len]
theorem Sl.midX {w : World} {ad : Addr} {l : List It} (h : Sl w cX (some ad) l) (f j : Nat) : Sl w cX (some (ad.add (f * 33))) ((l.drop f).take j) := (h.cutA f).take j
/-- How far Split has come: a batch under way from item f on, i - f items counted; or all is done. -/
def RsI (most : Int) (l : List It) (N f i : Nat) : Prop := (i ≤ N ∧ f < i ∧ Cnt most (l.drop f) (i - f)) ∨ (i = N + 1 ∧ f = N)
theorem RsI.from_ {most : Int} {l : List It} {N : Nat} (hl : l.length = N) (h : ∀ x ∈ l, Fine most x) {f : Nat} (hf : f ≤ N) : RsI most l N f (f + 1) := by
  by_cases he : f = N
  · exact .inr ⟨by omega, he⟩
  · exact .inl ⟨by omega, by omega, by rw [Nat.add_sub_cancel_left]; exact Cnt.one h (by omega)⟩
set_option maxRecDepth 100000 in
set_option maxHeartbeats 12800000 in
theorem rsplit_b (A : Option Addr) (c : Nat) (l : List It) (most : Int) (w : World) (hs : Sl w cX A l) (hc : l.length ≤ c) (hcm : c ≤ 9223372036854775807) (hn : l.length ≤ 100000) (hx : ∀ x ∈ l, x.text.size ≤ 1000000) :
    Calls Tryz.prog 23 #[.slice A l.length c, .int .i64 most] w (SplR (splitE most l) w) := by
  by_cases h0 : most < 1 ∨ 4194304 < most
  · have hr : splitE most l = .error 2 := by unfold splitE; rw [if_pos h0]
    rw [hr]
    clear hr hs hx
    by_cases h1 : most < 1
    · clear h0
      go_enter Tryz.func23, Tryz.ntmps23
      go_wp2
      go_ret2
      exact ⟨rfl, Below.refl _ _⟩
    · have h2 : 4194304 < most := by omega
      clear h0
      go_enter Tryz.func23, Tryz.ntmps23
      go_wp2
      go_ret2
      exact ⟨rfl, Below.refl _ _⟩
  have h1 : ¬ most < 1 := by omega
  have h2 : ¬ 4194304 < most := by omega
  have H0 := Lib.hid h0
  have HX := Lib.hid (And.intro hs (And.intro hx (And.intro hc hcm)))
  obtain ⟨N, hN⟩ : ∃ N, l.length = N := ⟨_, rfl⟩
  have HN := Lib.hid hN
  rw [hN] at hn hc
  clear hs hx h0
  go_enter Tryz.func23, Tryz.ntmps23
  rw [hN]
  clear hN
  go_wp2
  go_loopw [6] (fun i wr => ∃ t : Nat, t ≤ N ∧ i = .int .i64 t ∧ (∀ x ∈ l.take t, Fine most x) ∧ Below w.heap.size w wr) (fun i _ => N - (intOf i).toNat)
  case atStart => exact ⟨0, Nat.zero_le _, rfl, fun x hx => by simp at hx, Below.refl _ _⟩
  case round =>
    obtain ⟨t, ht, rfl, hall, hb⟩ := hrel
    have HB := Lib.hid hb
    have HA := Lib.hid hall
    clear hb hall
    by_cases hlt : t < N
    · have hlt2 : t < l.length := by rw [HN.out]; exact hlt
      have hsw := HX.out.1.keep HB.out
      obtain ⟨ad, rfl, hat⟩ := Sl.at_ cX_length hsw hlt2
      obtain ⟨x, hxe⟩ : ∃ x, l[t] = x := ⟨_, rfl⟩
      rw [hxe] at hat
      have HS1 := Lib.hid (show Sl wr cX (some (ad.add (t * 33))) [x] from by
        have := hsw.midX t 1
        rwa [List.take_one, List.drop_eq_getElem_cons hlt2, hxe] at this)
      obtain ⟨-, -, hcl⟩ := at_idX hat
      have hlti : (t : Int) < (N : Int) := by omega
      have hT : (t : Int) < 100000 := by omega
      have htc : ¬ c = t := by omega
      have htci : (t : Int) + 1 ≤ (c : Int) := by omega
      have hmem : x ∈ l := by rw [← hxe]; exact List.getElem_mem _
      have HM := Lib.hid (show x.text.size ≤ 1000000 from HX.out.2.1 x hmem)
      have HXE := Lib.hid hxe
      have HE5 := Lib.hid (fun h => splitE_bad H0.out hmem (most := most) h)
      clear hat hxe hmem hsw
      by_cases hbig : 65536 < x.text.size
      · have hbi : (65536 : Int) < (x.text.size : Int) := by omega
        have HR := Lib.hid (HE5.out (fun h => by have := h.1; omega))
        clear hbig
        go_wp2
        go_ret2
        rw [HR.out]
        exact ⟨rfl, HB.out⟩
      · have hbi : ¬ (65536 : Int) < (x.text.size : Int) := by omega
        obtain ⟨z, hz⟩ : ∃ z, sizeN 1 (itN x) = z := ⟨_, rfl⟩
        have hz1 : (batS [x]).size = z := by rw [bat_size, ← hz]; simp [sumN]
        have HTX := Lib.hid (rtext_b (some (ad.add (t * 33))) (c - t) [x] wr HS1.out (by simp) (by intro y hy; rw [List.mem_singleton.1 hy]; exact HM.out))
        by_cases hfit : most < (z : Int)
        · have HR := Lib.hid (HE5.out (fun h => by have := h.2; unfold FitsB at this; rw [hz] at this; omega))
          have hfb : (most < (z : Int)) = True := by simp; omega
          clear hbig hz hfit
          go_wp2_with (go_at_call 28; refine HTX.out.mono ?_; rintro e w3 ⟨rfl, hb3⟩; have H3 := Lib.hid (Below.step HB.out hb3); clear hb3)
          go_ret2
          rw [HR.out]
          exact ⟨rfl, H3.out⟩
        · have HF := Lib.hid (show Fine most x from ⟨by omega, by unfold FitsB; rw [hz]; omega⟩)
          have HA2 := Lib.hid (show ∀ y ∈ l.take (t + 1), Fine most y from by
            intro y hy
            rw [List.take_succ_eq_append_getElem hlt2, List.mem_append] at hy
            rcases hy with hy | hy
            · exact HA.out y hy
            · rw [List.mem_singleton.1 hy, HXE.out]
              exact HF.out)
          have hfb : (most < (z : Int)) = False := by simp; omega
          clear hbig hz hfit
          go_wp2_with (go_at_call 28; refine HTX.out.mono ?_; rintro e w3 ⟨rfl, hb3⟩; have H3 := Lib.hid (Below.step HB.out hb3); clear hb3)
          go_roundw
          case rel => exact ⟨t + 1, hlt, by go_num, HA2.out, H3.out⟩
          case measure => simp [intOf]; omega
    · obtain rfl : t = N := by omega
      have HF := Lib.hid (show ∀ x ∈ l, Fine most x from by
        have h := HA.out
        rwa [List.take_of_length_le (by rw [HN.out]; exact Nat.le_refl _)] at h)
      have HR := Lib.hid (splitE_good H0.out HF.out)
      clear hlt
      go_wp2
      obtain ⟨w1, hw1⟩ : ∃ w1, w1 = wr := ⟨_, rfl⟩
      subst hw1
      go_loopw [7, 8, 9] (fun v fv iv wr => ∃ (f i : Nat) (qs : List SlV) (ls : List (List It)), fv = .int .i64 (f : Int) ∧ iv = .int .i64 (i : Int) ∧ f ≤ t ∧ RsI most l t f i ∧ LsI wr w.heap.size 26 v qs ls ∧ batches most l = ls ++ batches most (l.drop f) ∧ ls.length ≤ f ∧ Below w.heap.size w wr) (fun _ _ iv _ => t + 1 - (intOf iv).toNat)
      case atStart => exact ⟨0, 1, [], [], rfl, rfl, Nat.zero_le _, RsI.from_ HN.out HF.out (Nat.zero_le _), LsI.nil _ _ _, rfl, Nat.le_refl _, HB.out⟩
      case round =>
        obtain ⟨f, i, qs, ls, rfl, rfl, hft, hri, hls, hbt, hlk, hb⟩ := hrel
        have HO := Lib.hid (show LsI wr w.heap.size 26 u7 qs ls ∧ Below w.heap.size w wr from ⟨hls, hb⟩)
        have HBT := Lib.hid (And.intro hbt (And.intro hlk hft))
        clear hls hb hbt hlk
        rcases hri with ⟨hit, hfi, hcn⟩ | ⟨rfl, rfl⟩
        · have HC := Lib.hid hcn
          obtain ⟨r, hr⟩ : ∃ r, l.drop f = r := ⟨_, rfl⟩
          obtain ⟨n, hnn⟩ : ∃ n, i - f = n := ⟨_, rfl⟩
          have hin : i = f + n := by omega
          subst hin
          have hrl : r.length = t - f := by rw [← hr, List.length_drop, HN.out]
          have HRF := Lib.hid (show ∀ x ∈ r, Fine most x from fun x hx => HF.out x (by rw [← hr] at hx; exact List.mem_of_mem_drop hx))
          rw [hr, hnn] at HC
          have HRD := Lib.hid (And.intro hr (And.intro hrl (show 0 < n ∧ n ≤ 1000 ∧ f + n ≤ t from ⟨by omega, HC.out.le2, hit⟩)))
          have hpos : 0 < n := by omega
          have hn1 : n ≤ 1000 := HC.out.le2
          have HSW := Lib.hid (HX.out.1.keep HO.out.2)
          have hne : l ≠ [] := by
            intro e
            have h := HN.out
            rw [e] at h
            simp at h
            omega
          obtain ⟨ad, rfl, -⟩ := HSW.out hne
          have HSF := Lib.hid (HSW.out.midX f n)
          have HSG := Lib.hid (HX.out.1.midX f n)
          rw [hr] at HSF HSG
          have hft2 : f < t := by omega
          have hfc : ¬ c = f := by omega
          have hfi2 : (f : Int) ≤ (f : Int) + (n : Int) := by omega
          have hic : (f : Int) + (n : Int) ≤ (c : Int) := by omega
          have hile : (f : Int) + (n : Int) ≤ (t : Int) := by omega
          have htl : (t : Int) ≤ 100000 := by omega
          have e0 : (((f + n : Nat)) : Int) = (f : Int) + (n : Int) := by omega
          rw [e0]
          clear hr hnn hcn hft hne hrl hfi hit e0
          by_cases q1 : f + n = t
          · have q1i : ((f : Int) + (n : Int) == (t : Int)) = true := by simp; omega
            have HCUT := Lib.hid (show cut1 most r = n from HC.out.last (fun h1 => by have := HRD.out.2.1; omega))
            have hqf : t - f = n := by omega
            have HTK := Lib.hid (show (r.take n).length = n by rw [List.length_take, HRD.out.2.1]; have := HRD.out.2.2.2.2; omega)
            have HNEW := Lib.hid (Own.new0 (α := It) wr wr.heap.size 39 33 cX cX_length (Nat.le_refl _))
            go_wp2_with ((at_builtin; refine wpList_append_sl _ rfl (.tmp 68) (.tmp 72) 26 rfl wr.heap.size 39 33 48 cX underFs rowXF (by decide) cX_length cX_one (.slice (some ⟨wr.heap.size, 0, none⟩) 0 0) [] rfl HNEW.out (some (ad.add (f * 33))) (f + n - f) (c - f) (r.take n) (HTK.out.trans (Nat.add_sub_cancel_left (n := f) (m := n)).symm) rfl (HSG.out.keep (Below.step HO.out.2 (below_alloc _ _))) (by have := HRD.out.2.2.2.1; simp; omega) (by have := HRD.out.2.2.2.1; simp; omega) (below_alloc _ _).size ?_))
            intro v7 w7 ho7 hg7
            have hb7 := Own.grew HNEW.out hg7 (below_alloc wr (.cells #[] 39)) (Nat.le_refl _) (below_alloc wr (.cells #[] 39)).size
            have ho8 : Own w7 wr.heap.size 39 33 cX v7 (r.take n) := by simpa using ho7
            obtain ⟨A7, c7, rfl, -, -⟩ := ho8.sl
            rw [HTK.out] at ho8 ⊢
            have H7 := Lib.hid (show Own w7 wr.heap.size 39 33 cX (.slice A7 n c7) (r.take n) ∧ LsI w7 w.heap.size 26 u7 qs ls ∧ Below w.heap.size w w7 ∧ (∀ k, u7.ownBlock = some k → k < wr.heap.size) from ⟨ho8, HO.out.1.keep hb7, Below.step HO.out.2 hb7, fun k hk => (HO.out.1.own.lt k hk).2⟩)
            clear ho7 ho8 hg7 hb7 HNEW
            go_wp2_with (at_builtin; refine wpList_append_slat _ rfl (.tmp 67) (.tmp 74) 55 rfl w.heap.size 26 1 24 cSv underFSs rowFSs (by decide) cSv_length cSv_one u7 qs rfl (H7.out.2.1.own.keep (below_alloc _ _)) (some ⟨w7.heap.size, 0, none⟩) 1 1 [(A7, n, c7)] rfl rfl (sl_newS w7 (A7, n, c7) _) (by have := HO.out.1.reads.1; have := HBT.out.2.1; have := HBT.out.2.2; omega) (by have := HO.out.1.reads.1; have := HBT.out.2.1; have := HBT.out.2.2; omega) (by have := H7.out.2.2.1.size; simp; omega) ?_)
            intro v9 w9 ho9 hg9 hat9
            have hb8 := below_alloc w7 (.cells #[.slice A7 n c7] 26)
            have HL9 := Lib.hid (show LsI w9 w.heap.size 26 v9 (qs ++ [(A7, n, c7)]) (ls ++ [r.take n]) ∧ Below w.heap.size w w9 from by
              have h8 := H7.out.2.1.keep hb8
              have ho := H7.out.1.keep hb8
              refine ⟨LsI.push h8 ⟨HTK.out.symm, ?_⟩ ?_ ho9 hg9 (by simpa using hat9), Own.grew h8.own hg9 (Below.step H7.out.2.2.1 hb8) (Nat.le_refl _) (Below.step H7.out.2.2.1 hb8).size⟩
              · obtain ⟨A, c, e, _, hs⟩ := ho.sl
                injection e with e1
                subst e1
                exact hs
              · intro ad7 e
                have h := ho.lt ad7.block (by rw [show A7 = some ad7 from e]; rfl)
                refine ⟨h.2, fun h2 => ?_⟩
                have := H7.out.2.2.2 _ h2
                omega)
            clear ho9 hg9 hat9 hb8
            have HE := Lib.hid (show RsI most l t (f + n) (f + n + 1) ∧ batches most l = (ls ++ [r.take n]) ++ batches most (l.drop (f + n)) ∧ (ls ++ [r.take n]).length ≤ f + n ∧ f + n ≤ t from by
              have h1 : l.drop (f + n) = r.drop n := by rw [← HRD.out.1, List.drop_drop]
              have hne : r ≠ [] := by
                intro e
                have h := HTK.out
                have := HRD.out.2.2.1
                rw [e] at h
                simp at h
                omega
              refine ⟨RsI.from_ HN.out HF.out HRD.out.2.2.2.2, ?_, ?_, HRD.out.2.2.2.2⟩
              · rw [h1, HBT.out.1, HRD.out.1, batches_cons most r hne (fun x hx => (HRF.out x hx).2), HCUT.out, List.append_assoc]
                rfl
              · rw [List.length_append, List.length_singleton]
                have := HBT.out.2.1
                have := HRD.out.2.2.1
                omega)
            go_wp2
            go_roundw
            case rel => exact ⟨f + n, f + n + 1, qs ++ [(A7, n, c7)], ls ++ [r.take n], by go_num, by go_num, HE.out.2.2.2, HE.out.1, HL9.out.1, HE.out.2.1, HE.out.2.2.1, HL9.out.2⟩
            case measure => simp [intOf]; omega
          · have q1i : ((f : Int) + (n : Int) == (t : Int)) = false := by simp; omega
            by_cases q2 : n = 1000
            · have q2i : ((f : Int) + (n : Int) - (f : Int) == 1000) = true := by simp; omega
              have HCUT := Lib.hid (show cut1 most r = n from HC.out.last (fun h1 h2 => by omega))
              clear q2
              have HTK := Lib.hid (show (r.take n).length = n by rw [List.length_take, HRD.out.2.1]; have := HRD.out.2.2.2.2; omega)
              have HNEW := Lib.hid (Own.new0 (α := It) wr wr.heap.size 39 33 cX cX_length (Nat.le_refl _))
              go_wp2_with ((at_builtin; refine wpList_append_sl _ rfl (.tmp 68) (.tmp 72) 26 rfl wr.heap.size 39 33 48 cX underFs rowXF (by decide) cX_length cX_one (.slice (some ⟨wr.heap.size, 0, none⟩) 0 0) [] rfl HNEW.out (some (ad.add (f * 33))) (f + n - f) (c - f) (r.take n) (HTK.out.trans (Nat.add_sub_cancel_left (n := f) (m := n)).symm) rfl (HSG.out.keep (Below.step HO.out.2 (below_alloc _ _))) (by have := HRD.out.2.2.2.1; simp; omega) (by have := HRD.out.2.2.2.1; simp; omega) (below_alloc _ _).size ?_))
              intro v7 w7 ho7 hg7
              have hb7 := Own.grew HNEW.out hg7 (below_alloc wr (.cells #[] 39)) (Nat.le_refl _) (below_alloc wr (.cells #[] 39)).size
              have ho8 : Own w7 wr.heap.size 39 33 cX v7 (r.take n) := by simpa using ho7
              obtain ⟨A7, c7, rfl, -, -⟩ := ho8.sl
              rw [HTK.out] at ho8 ⊢
              have H7 := Lib.hid (show Own w7 wr.heap.size 39 33 cX (.slice A7 n c7) (r.take n) ∧ LsI w7 w.heap.size 26 u7 qs ls ∧ Below w.heap.size w w7 ∧ (∀ k, u7.ownBlock = some k → k < wr.heap.size) from ⟨ho8, HO.out.1.keep hb7, Below.step HO.out.2 hb7, fun k hk => (HO.out.1.own.lt k hk).2⟩)
              clear ho7 ho8 hg7 hb7 HNEW
              go_wp2_with (at_builtin; refine wpList_append_slat _ rfl (.tmp 67) (.tmp 74) 55 rfl w.heap.size 26 1 24 cSv underFSs rowFSs (by decide) cSv_length cSv_one u7 qs rfl (H7.out.2.1.own.keep (below_alloc _ _)) (some ⟨w7.heap.size, 0, none⟩) 1 1 [(A7, n, c7)] rfl rfl (sl_newS w7 (A7, n, c7) _) (by have := HO.out.1.reads.1; have := HBT.out.2.1; have := HBT.out.2.2; omega) (by have := HO.out.1.reads.1; have := HBT.out.2.1; have := HBT.out.2.2; omega) (by have := H7.out.2.2.1.size; simp; omega) ?_)
              intro v9 w9 ho9 hg9 hat9
              have hb8 := below_alloc w7 (.cells #[.slice A7 n c7] 26)
              have HL9 := Lib.hid (show LsI w9 w.heap.size 26 v9 (qs ++ [(A7, n, c7)]) (ls ++ [r.take n]) ∧ Below w.heap.size w w9 from by
                have h8 := H7.out.2.1.keep hb8
                have ho := H7.out.1.keep hb8
                refine ⟨LsI.push h8 ⟨HTK.out.symm, ?_⟩ ?_ ho9 hg9 (by simpa using hat9), Own.grew h8.own hg9 (Below.step H7.out.2.2.1 hb8) (Nat.le_refl _) (Below.step H7.out.2.2.1 hb8).size⟩
                · obtain ⟨A, c, e, _, hs⟩ := ho.sl
                  injection e with e1
                  subst e1
                  exact hs
                · intro ad7 e
                  have h := ho.lt ad7.block (by rw [show A7 = some ad7 from e]; rfl)
                  refine ⟨h.2, fun h2 => ?_⟩
                  have := H7.out.2.2.2 _ h2
                  omega)
              clear ho9 hg9 hat9 hb8
              have HE := Lib.hid (show RsI most l t (f + n) (f + n + 1) ∧ batches most l = (ls ++ [r.take n]) ++ batches most (l.drop (f + n)) ∧ (ls ++ [r.take n]).length ≤ f + n ∧ f + n ≤ t from by
                have h1 : l.drop (f + n) = r.drop n := by rw [← HRD.out.1, List.drop_drop]
                have hne : r ≠ [] := by
                  intro e
                  have h := HTK.out
                  have := HRD.out.2.2.1
                  rw [e] at h
                  simp at h
                  omega
                refine ⟨RsI.from_ HN.out HF.out HRD.out.2.2.2.2, ?_, ?_, HRD.out.2.2.2.2⟩
                · rw [h1, HBT.out.1, HRD.out.1, batches_cons most r hne (fun x hx => (HRF.out x hx).2), HCUT.out, List.append_assoc]
                  rfl
                · rw [List.length_append, List.length_singleton]
                  have := HBT.out.2.1
                  have := HRD.out.2.2.1
                  omega)
              go_wp2
              go_roundw
              case rel => exact ⟨f + n, f + n + 1, qs ++ [(A7, n, c7)], ls ++ [r.take n], by go_num, by go_num, HE.out.2.2.2, HE.out.1, HL9.out.1, HE.out.2.1, HE.out.2.2.1, HL9.out.2⟩
              case measure => simp [intOf]; omega
            · have q2i : ((f : Int) + (n : Int) - (f : Int) == 1000) = false := by simp; omega
              have hnl : n < r.length := by have := HRD.out.2.1; omega
              have HNL := Lib.hid hnl
              obtain ⟨z, hz⟩ : ∃ z, sizeN (n + 1) (sumN (r.take n) + itN (r[n]'hnl)) = z := ⟨_, rfl⟩
              have HZZ := Lib.hid hz
              have htk1 : (r.take (n + 1)).length = n + 1 := by rw [List.length_take]; omega
              have hz1 : (batS (r.take (n + 1))).size = z := by rw [bat_size, htk1, sumN_take r n hnl, hz]
              have HTX := Lib.hid (rtext_b (some (ad.add (f * 33))) (c - f) (r.take (n + 1)) wr (by
                have := HSW.out.midX f (n + 1)
                rwa [HRD.out.1] at this) (by omega) (fun y hy => by have := (HRF.out y (List.mem_of_mem_take hy)).1; omega))
              rw [show (r.take (n + 1)).length = f + n + 1 - f by rw [htk1]; omega] at HTX
              have hic2 : (f : Int) + (n : Int) + 1 ≤ (c : Int) := by omega
              clear htk1
              by_cases q3 : most < (z : Int)
              · have hfb : (most < (z : Int)) = True := by simp; omega
                have HCUT := Lib.hid (show cut1 most r = n from HC.out.last (fun h1 h2 => by rw [HZZ.out]; omega))
                clear q3
                have HTK := Lib.hid (show (r.take n).length = n by rw [List.length_take, HRD.out.2.1]; have := HRD.out.2.2.2.2; omega)
                go_wp2_with (first
                  | (go_at_call 28; refine HTX.out.mono ?_; rintro e w3 ⟨rfl, hb3⟩; have H3 := Lib.hid (show LsI w3 w.heap.size 26 u7 qs ls ∧ Below w.heap.size w w3 from ⟨HO.out.1.keep hb3, Below.step HO.out.2 hb3⟩); have HNEW := Lib.hid (Own.new0 (α := It) w3 w3.heap.size 39 33 cX cX_length (Nat.le_refl _)); clear hb3)
                  | (at_builtin; refine wpList_append_sl _ rfl (.tmp 68) (.tmp 72) 26 rfl w3.heap.size 39 33 48 cX underFs rowXF (by decide) cX_length cX_one (.slice (some ⟨w3.heap.size, 0, none⟩) 0 0) [] rfl HNEW.out (some (ad.add (f * 33))) (f + n - f) (c - f) (r.take n) (HTK.out.trans (Nat.add_sub_cancel_left (n := f) (m := n)).symm) rfl (HSG.out.keep (Below.step H3.out.2 (below_alloc _ _))) (by have := HRD.out.2.2.2.1; simp; omega) (by have := HRD.out.2.2.2.1; simp; omega) (below_alloc _ _).size ?_))
                intro v7 w7 ho7 hg7
                have hb7 := Own.grew HNEW.out hg7 (below_alloc w3 (.cells #[] 39)) (Nat.le_refl _) (below_alloc w3 (.cells #[] 39)).size
                have ho8 : Own w7 w3.heap.size 39 33 cX v7 (r.take n) := by simpa using ho7
                obtain ⟨A7, c7, rfl, -, -⟩ := ho8.sl
                rw [HTK.out] at ho8 ⊢
                have H7 := Lib.hid (show Own w7 w3.heap.size 39 33 cX (.slice A7 n c7) (r.take n) ∧ LsI w7 w.heap.size 26 u7 qs ls ∧ Below w.heap.size w w7 ∧ (∀ k, u7.ownBlock = some k → k < w3.heap.size) from ⟨ho8, H3.out.1.keep hb7, Below.step H3.out.2 hb7, fun k hk => (H3.out.1.own.lt k hk).2⟩)
                clear ho7 ho8 hg7 hb7 HNEW
                go_wp2_with (at_builtin; refine wpList_append_slat _ rfl (.tmp 67) (.tmp 74) 55 rfl w.heap.size 26 1 24 cSv underFSs rowFSs (by decide) cSv_length cSv_one u7 qs rfl (H7.out.2.1.own.keep (below_alloc _ _)) (some ⟨w7.heap.size, 0, none⟩) 1 1 [(A7, n, c7)] rfl rfl (sl_newS w7 (A7, n, c7) _) (by have := HO.out.1.reads.1; have := HBT.out.2.1; have := HBT.out.2.2; omega) (by have := HO.out.1.reads.1; have := HBT.out.2.1; have := HBT.out.2.2; omega) (by have := H7.out.2.2.1.size; simp; omega) ?_)
                intro v9 w9 ho9 hg9 hat9
                have hb8 := below_alloc w7 (.cells #[.slice A7 n c7] 26)
                have HL9 := Lib.hid (show LsI w9 w.heap.size 26 v9 (qs ++ [(A7, n, c7)]) (ls ++ [r.take n]) ∧ Below w.heap.size w w9 from by
                  have h8 := H7.out.2.1.keep hb8
                  have ho := H7.out.1.keep hb8
                  refine ⟨LsI.push h8 ⟨HTK.out.symm, ?_⟩ ?_ ho9 hg9 (by simpa using hat9), Own.grew h8.own hg9 (Below.step H7.out.2.2.1 hb8) (Nat.le_refl _) (Below.step H7.out.2.2.1 hb8).size⟩
                  · obtain ⟨A, c, e, _, hs⟩ := ho.sl
                    injection e with e1
                    subst e1
                    exact hs
                  · intro ad7 e
                    have h := ho.lt ad7.block (by rw [show A7 = some ad7 from e]; rfl)
                    refine ⟨h.2, fun h2 => ?_⟩
                    have := H7.out.2.2.2 _ h2
                    omega)
                clear ho9 hg9 hat9 hb8
                have HE := Lib.hid (show RsI most l t (f + n) (f + n + 1) ∧ batches most l = (ls ++ [r.take n]) ++ batches most (l.drop (f + n)) ∧ (ls ++ [r.take n]).length ≤ f + n ∧ f + n ≤ t from by
                  have h1 : l.drop (f + n) = r.drop n := by rw [← HRD.out.1, List.drop_drop]
                  have hne : r ≠ [] := by
                    intro e
                    have h := HTK.out
                    have := HRD.out.2.2.1
                    rw [e] at h
                    simp at h
                    omega
                  refine ⟨RsI.from_ HN.out HF.out HRD.out.2.2.2.2, ?_, ?_, HRD.out.2.2.2.2⟩
                  · rw [h1, HBT.out.1, HRD.out.1, batches_cons most r hne (fun x hx => (HRF.out x hx).2), HCUT.out, List.append_assoc]
                    rfl
                  · rw [List.length_append, List.length_singleton]
                    have := HBT.out.2.1
                    have := HRD.out.2.2.1
                    omega)
                go_wp2
                go_roundw
                case rel => exact ⟨f + n, f + n + 1, qs ++ [(A7, n, c7)], ls ++ [r.take n], by go_num, by go_num, HE.out.2.2.2, HE.out.1, HL9.out.1, HE.out.2.1, HE.out.2.2.1, HL9.out.2⟩
                case measure => simp [intOf]; omega
              · have hfb : (most < (z : Int)) = False := by simp; omega
                have HRI := Lib.hid (show RsI most l t f (f + n + 1) from .inl ⟨by have := HRD.out.2.2.2.2; omega, by omega, by
                  rw [HRD.out.1, show f + n + 1 - f = n + 1 by omega]
                  exact HC.out.next HNL.out (by omega) (by rw [HZZ.out]; omega)⟩)
                clear q3
                go_wp2_with (go_at_call 28; refine HTX.out.mono ?_; rintro e w3 ⟨rfl, hb3⟩; have H3 := Lib.hid (show LsI w3 w.heap.size 26 u7 qs ls ∧ Below w.heap.size w w3 from ⟨HO.out.1.keep hb3, Below.step HO.out.2 hb3⟩); clear hb3)
                go_roundw
                case rel => exact ⟨f, f + n + 1, qs, ls, rfl, by go_num, HBT.out.2.2, HRI.out, H3.out.1, HBT.out.1, HBT.out.2.1, H3.out.2⟩
                case measure => simp [intOf]; omega
        · have hBB : batches most l = ls := by rw [HBT.out.1, List.drop_eq_nil_of_le (by rw [HN.out]; exact Nat.le_refl _), batches_nil, List.append_nil]
          have HBB := Lib.hid hBB
          obtain ⟨A3, c3, rfl, -, hs3⟩ := HO.out.1.own.sl
          have HS3 := Lib.hid hs3
          have HQ := Lib.hid (show qs.length = (batches most l).length by rw [HBB.out]; exact HO.out.1.reads.1)
          clear hBB hs3
          go_wp2
          go_ret2
          rw [HR.out]
          refine ⟨A3, c3, qs, by rw [← HQ.out]; rfl, HS3.out, by rw [HBB.out]; exact HO.out.1.reads, HO.out.2⟩
end Go.Proofs.YtecalodcbkljoaaGreatDoor
