/- Items divided into batches: batch.Split. -/
import Derived.Test.YtecalodcbkljoaaGreatDoorMCln
import Derived.Test.YtecalodcbkljoaaGreatDoorMGre
namespace Go.Proofs.YtecalodcbkljoaaGreatDoor
open Go.RowKit
theorem underSs : Tryz.prog.underlying 51 = some (.slice 22) := Tryz.underlying51
theorem rowSs : (Tryz.prog.info? 22).map (fun i => (i.zero.map (·.cells.size), i.size, i.bytes)) = some (some 1, 1, 24) := by kernel_rfl
/-- What Split returns. -/
def SplR (r : Except Int (List (List It))) (w : World) (e : Ending) (w' : World) : Prop :=
  match r with
  | .error c => e = .returned (.tuple #[.slice none 0 0, .int .i64 c]) ∧ Below w.heap.size w w'
  | .ok ls => ∃ A c qs, e = .returned (.tuple #[.slice A ls.length c, .int .i64 0]) ∧ Sl w' cSv A qs ∧ Reads w' qs ls ∧ Below w.heap.size w w'
/-- An item that fits into a batch of its own. -/
def Fine (most : Int) (x : It) : Prop := x.text.size ≤ 65536 ∧ FitsB most x
theorem splitE_bad {most : Int} {l : List It} (h1 : ¬ (most < 1 ∨ 4194304 < most)) {x : It} (hx : x ∈ l) (h : ¬ Fine most x) : splitE most l = .error 5 := by
  unfold splitE
  rw [if_neg h1, if_pos]
  rw [List.any_eq_true]
  refine ⟨x, hx, ?_⟩
  unfold Fine FitsB at h
  simp only [Bool.or_eq_true, decide_eq_true_eq]
  omega
theorem splitE_good {most : Int} {l : List It} (h1 : ¬ (most < 1 ∨ 4194304 < most)) (h : ∀ x ∈ l, Fine most x) : splitE most l = .ok (batches most l) := by
  unfold splitE
  rw [if_neg h1, if_neg]
  rw [List.any_eq_true]
  rintro ⟨x, hx, h2⟩
  have := h x hx
  unfold Fine FitsB at this
  simp only [Bool.or_eq_true, decide_eq_true_eq] at h2
  omega
theorem cntP_end (most : Int) (n b : Nat) : cntP most [] n b = n := rfl
/-- A batch's text: its items counted so far, and what follows. -/
structure Cnt (most : Int) (r : List It) (n : Nat) : Prop where
  le : n ≤ r.length
  le2 : n ≤ 1000
  eq : cut1 most r = cntP most (r.drop n) n (sumN (r.take n))
theorem Cnt.zero (most : Int) (r : List It) : Cnt most r 0 := ⟨Nat.zero_le _, Nat.zero_le _, rfl⟩
theorem Cnt.next {most : Int} {r : List It} {n : Nat} (h : Cnt most r n) (hn : n < r.length) (hk : n < 1000) (hs : (sizeN (n + 1) (sumN (r.take n) + itN r[n]) : Int) ≤ most) : Cnt most r (n + 1) := by
  refine ⟨hn, hk, ?_⟩
  rw [h.eq, cntP_step most (r.drop n) n _ r[n] (r.drop (n + 1)) (List.drop_eq_getElem_cons hn), if_pos ⟨hk, hs⟩, sumN_take r n hn]
theorem Cnt.last {most : Int} {r : List It} {n : Nat} (h : Cnt most r n) (hn : ∀ (h1 : n < r.length), n < 1000 → ¬ (sizeN (n + 1) (sumN (r.take n) + itN r[n]) : Int) ≤ most) : cut1 most r = n := by
  rw [h.eq]
  by_cases h1 : n < r.length
  · rw [cntP_step most (r.drop n) n _ r[n] (r.drop (n + 1)) (List.drop_eq_getElem_cons h1), if_neg (fun ⟨h2, h3⟩ => hn h1 h2 h3)]
  · rw [List.drop_eq_nil_of_le (by omega), cntP_end]
theorem sumN_fine {most : Int} {l : List It} (h : ∀ x ∈ l, Fine most x) (n : Nat) (hn : n ≤ 1000) : sumN (l.take n) ≤ 65700000 := by
  have := sumN_bound (l.take n) (fun x hx => (h x (List.mem_of_mem_take hx)).1)
  have h2 : (l.take n).length ≤ n := by rw [List.length_take]; omega
  omega
theorem itN_fine {x : It} (h : x.text.size ≤ 65536) : itN x ≤ 65700 := by
  unfold itN
  have := itoa_len 10 x.text.size (by omega) (by omega)
  omega
theorem Sl.cutA {w : World} {ad : Addr} {r : List It} (h : Sl w cX (some ad) r) (n : Nat) : Sl w cX (some (ad.add (n * 33))) (r.drop n) := by
  have := Sl.cut cX_length h (c := r.length + n + 1) (k := n) (by omega)
  rwa [if_neg (by omega)] at this
set_option maxRecDepth 100000 in
set_option maxHeartbeats 12800000 in
theorem split_l (A : Option Addr) (c : Nat) (l : List It) (most : Int) (w : World) (hL : Laid w) (hs : Sl w cX A l) (hc : l.length ≤ c) (hcm : c ≤ 9223372036854775807) (hn : l.length ≤ 100000) (hx : ∀ x ∈ l, x.text.size ≤ 1073741824) :
    Calls Tryz.prog 21 #[.slice A l.length c, .int .i64 most] w (SplR (splitE most l) w) := by
  by_cases h0 : most < 1 ∨ 4194304 < most
  · have hr : splitE most l = .error 2 := by unfold splitE; rw [if_pos h0]
    rw [hr]
    clear hr hL hs hx
    by_cases h1 : most < 1
    · clear h0
      go_enter Tryz.func21, Tryz.ntmps21
      go_wp2
      go_ret2
      exact ⟨rfl, Below.refl _ _⟩
    · have h2 : 4194304 < most := by omega
      clear h0
      go_enter Tryz.func21, Tryz.ntmps21
      go_wp2
      go_ret2
      exact ⟨rfl, Below.refl _ _⟩
  have h1 : ¬ most < 1 := by omega
  have h2 : ¬ 4194304 < most := by omega
  have H0 := Lib.hid h0
  have HX := Lib.hid (And.intro hL (And.intro hs (And.intro hx (And.intro hc hcm))))
  obtain ⟨N, hN⟩ : ∃ N, l.length = N := ⟨_, rfl⟩
  have HN := Lib.hid hN
  rw [hN] at hn
  clear hL hs hx h0 hc hcm
  go_enter Tryz.func21, Tryz.ntmps21
  rw [hN]
  clear hN
  go_wp2
  go_loopw [19] (fun i wr => ∃ t : Nat, t ≤ N ∧ i = .int .i64 t ∧ (∀ x ∈ l.take t, Fine most x) ∧ Below w.heap.size w wr) (fun i _ => N - (intOf i).toNat)
  case atStart => exact ⟨0, Nat.zero_le _, rfl, fun x hx => by simp at hx, Below.refl _ _⟩
  case round =>
    obtain ⟨t, ht, rfl, hall, hb⟩ := hrel
    have HB := Lib.hid hb
    have HA := Lib.hid hall
    clear hb hall
    by_cases hlt : t < N
    · have hlt2 : t < l.length := by rw [HN.out]; exact hlt
      obtain ⟨ad, rfl, hat⟩ := Sl.at_ cX_length (HX.out.2.1.keep HB.out) hlt2
      obtain ⟨x, hxe⟩ : ∃ x, l[t] = x := ⟨_, rfl⟩
      rw [hxe] at hat
      have hok := hat.ok
      have hrd := hat.rd
      rw [cX_length] at hok hrd
      change rdA wr (ad.add (t * 33)) 33 = vX x at hrd
      have hlti : (t : Int) < (N : Int) := by omega
      have hT : (t : Int) < 100000 := by omega
      have hmem : x ∈ l := by rw [← hxe]; exact List.getElem_mem _
      have HM := Lib.hid (show x.text.size ≤ 1073741824 from HX.out.2.2.1 x hmem)
      have HXE := Lib.hid hxe
      have HE5 := Lib.hid (fun h => splitE_bad H0.out hmem (most := most) h)
      have H2 := Lib.hid (Below.step HB.out (below_alloc wr (.cells (aX x) 64)))
      clear hat hxe hmem
      by_cases hbig : 65536 < x.text.size
      · have hbi : (65536 : Int) < (x.text.size : Int) := by omega
        have HR := Lib.hid (HE5.out (fun h => by have := h.1; omega))
        clear hbig
        go_wp2
        go_ret2
        rw [HR.out]
        exact ⟨rfl, H2.out⟩
      · have hbi : ¬ (65536 : Int) < (x.text.size : Int) := by omega
        have HI := Lib.hid (itN_fine (x := x) (by omega))
        obtain ⟨z, hz⟩ : ∃ z, sizeN 1 (itN x) = z := ⟨_, rfl⟩
        have HZ := Lib.hid (fun W hW => size_l 1 (itN x) (by omega) (by have := HI.out; omega) W hW)
        rw [hz] at HZ
        by_cases hfit : most < (z : Int)
        · have HR := Lib.hid (HE5.out (fun h => by have := h.2; unfold FitsB at this; rw [hz] at this; omega))
          clear hbig hz
          go_wp2_with (first
            | (go_at_call 50; refine (bytes_i x _ (HX.out.1.keep H2.out) HM.out).mono ?_; rintro e w3 ⟨rfl, hb3⟩; have H3 := Lib.hid (Below.step H2.out hb3); clear hb3)
            | (go_at_call 49; refine (HZ.out _ (HX.out.1.keep H3.out)).mono ?_; rintro e w4 ⟨rfl, hb4⟩; have H4 := Lib.hid (Below.step H3.out hb4); clear hb4))
          go_ret2
          rw [HR.out]
          exact ⟨rfl, H4.out⟩
        · have HF := Lib.hid (show Fine most x from ⟨by omega, by unfold FitsB; rw [hz]; omega⟩)
          have HA2 := Lib.hid (show ∀ y ∈ l.take (t + 1), Fine most y from by
            intro y hy
            rw [List.take_succ_eq_append_getElem hlt2, List.mem_append] at hy
            rcases hy with hy | hy
            · exact HA.out y hy
            · rw [List.mem_singleton.1 hy, HXE.out]
              exact HF.out)
          have hfb : (most < (z : Int)) = False := by simp; omega
          clear hbig hz hfit
          go_wp2_with (first
            | (go_at_call 50; refine (bytes_i x _ (HX.out.1.keep H2.out) HM.out).mono ?_; rintro e w3 ⟨rfl, hb3⟩; have H3 := Lib.hid (Below.step H2.out hb3); clear hb3)
            | (go_at_call 49; refine (HZ.out _ (HX.out.1.keep H3.out)).mono ?_; rintro e w4 ⟨rfl, hb4⟩; have H4 := Lib.hid (Below.step H3.out hb4); clear hb4))
          go_roundw
          case rel => exact ⟨t + 1, hlt, by go_num, HA2.out, H4.out⟩
          case measure => simp [intOf]; omega
    · obtain rfl : t = N := by omega
      have HF := Lib.hid (show ∀ x ∈ l, Fine most x from by
        have h := HA.out
        rwa [List.take_of_length_le (by rw [HN.out]; exact Nat.le_refl _)] at h)
      have HR := Lib.hid (splitE_good H0.out HF.out)
      clear hlt
      go_wp2
      obtain ⟨w1, hw1⟩ : ∃ w1, w1 = wr := ⟨_, rfl⟩
      subst hw1
      go_loopw [0, 8] (fun s v wr => ∃ (k : Nat) (B : Option Addr) (cc : Nat) (qs : List SlV) (ls : List (List It)), k ≤ t ∧ s = .slice B (t - k) cc ∧ t - k ≤ cc ∧ cc ≤ 9223372036854775807 ∧ Sl w cX B (l.drop k) ∧ LsI wr w.heap.size 22 v qs ls ∧ batches most l = ls ++ batches most (l.drop k) ∧ ls.length ≤ k ∧ Below w.heap.size w wr) (fun s _ _ => (match s with | .slice _ n _ => n | _ => 0))
      case atStart => exact ⟨0, A, c, [], [], Nat.zero_le _, rfl, by have := HX.out.2.2.2.1; rw [HN.out] at this; omega, HX.out.2.2.2.2, HX.out.2.1, LsI.nil _ _ _, rfl, Nat.le_refl _, HB.out⟩
      case round =>
        obtain ⟨k, B, cc, qs, ls, hk, rfl, hcc, hcm, hsB, hls, hbt, hlk, hb⟩ := hrel
        have HO := Lib.hid (show LsI wr w.heap.size 22 u8 qs ls ∧ Below w.heap.size w wr from ⟨hls, hb⟩)
        have HBT := Lib.hid (And.intro hbt hlk)
        obtain ⟨r, hr⟩ : ∃ r, l.drop k = r := ⟨_, rfl⟩
        have hrl : r.length = t - k := by rw [← hr, List.length_drop, HN.out]
        have HRF := Lib.hid (show ∀ x ∈ r, Fine most x from fun x hx => HF.out x (by rw [← hr] at hx; exact List.mem_of_mem_drop hx))
        obtain ⟨m, hm⟩ : ∃ m, t - k = m := ⟨_, rfl⟩
        rw [hr] at hsB HBT
        rw [hm] at hrl hcc ⊢
        have HRD := Lib.hid (And.intro hr (And.intro hrl hm))
        clear hls hb hbt hlk hr
        by_cases hm0 : m = 0
        · subst hm0
          have hnil : r = [] := List.eq_nil_of_length_eq_zero hrl
          have HBB := Lib.hid (show batches most l = ls from by rw [HBT.out.1, hnil, batches_nil, List.append_nil])
          obtain ⟨A3, c3, rfl, -, hs3⟩ := HO.out.1.own.sl
          have HS3 := Lib.hid hs3
          have HQ := Lib.hid (show qs.length = (batches most l).length by rw [HBB.out]; exact HO.out.1.reads.1)
          clear hnil hs3 hrl hcc hsB
          go_wp2
          go_ret2
          rw [HR.out]
          refine ⟨A3, c3, qs, by rw [← HQ.out]; rfl, HS3.out, by rw [HBB.out]; exact HO.out.1.reads, HO.out.2⟩
        · have hne : r ≠ [] := fun e => hm0 (by rw [← hrl, e]; rfl)
          obtain ⟨ad, rfl, -, -⟩ := hsB hne
          have hmi : (0 < m) = True := by simp; omega
          have hmb : m ≤ 100000 := by omega
          have HSB := Lib.hid (And.intro hsB (And.intro hcc hcm))
          have HNE := Lib.hid hne
          obtain ⟨wo, hwo⟩ : ∃ wo, wo = wr := ⟨_, rfl⟩
          subst hwo
          clear hne hsB
          go_wp2
          go_loopw [9, 10] (fun nv bv wi => ∃ n : Nat, nv = .int .i64 (n : Int) ∧ bv = .int .i64 (sumN (r.take n) : Int) ∧ Cnt most r n ∧ Below wo.heap.size wo wi) (fun nv _ _ => m - (intOf nv).toNat)
          case atStart => exact ⟨0, rfl, rfl, Cnt.zero most r, Below.refl _ _⟩
          case round =>
            obtain ⟨n, rfl, rfl, hcn, hbi⟩ := hrel
            have HC := Lib.hid (And.intro hcn hbi)
            have hbw := Below.step HO.out.2 hbi
            have HBW := Lib.hid hbw
            have hn1 : n ≤ 1000 := hcn.le2
            have hnm : n ≤ m := by have := hcn.le; omega
            have hsf := sumN_fine HRF.out n hn1
            have HSF := Lib.hid hsf
            obtain ⟨bs, hbs⟩ : ∃ bs, sumN (r.take n) = bs := ⟨_, rfl⟩
            have HBS := Lib.hid hbs
            rw [hbs] at HSF hsf
            rw [hbs]
            clear hcn hbi hbs
            by_cases q1 : n < m
            · have q1i : (n : Int) < (m : Int) := by omega
              by_cases q2 : n < 1000
              · have q2i : (n : Int) < 1000 := by omega
                obtain ⟨ad', had, hat⟩ := Sl.at_ cX_length (HSB.out.1.keep hbw) (show n < r.length by omega)
                obtain rfl : ad = ad' := Option.some.inj had
                obtain ⟨x, hxe⟩ : ∃ x, r[n]'(by omega) = x := ⟨_, rfl⟩
                rw [hxe] at hat
                have hok := hat.ok
                have hrd := hat.rd
                rw [cX_length] at hok hrd
                change rdA wr (ad.add (n * 33)) 33 = vX x at hrd
                have HFX := Lib.hid (HRF.out x (by rw [← hxe]; exact List.getElem_mem _))
                have HIN := Lib.hid (itN_fine HFX.out.1)
                obtain ⟨z, hz⟩ : ∃ z, sizeN (n + 1) (bs + itN x) = z := ⟨_, rfl⟩
                have HZ := Lib.hid (fun W hW => size_l (n + 1) (bs + itN x) (by omega) (by have := HSF.out; have := HIN.out; omega) W hW)
                rw [hz] at HZ
                have e1 : IntKind.i64.wrap ((bs : Int) + (itN x : Int)) = ((bs + itN x : Nat) : Int) := (IntWalk.i64_in _ (by have := HSF.out; have := HIN.out; omega)).trans (by omega)
                have e2 : IntKind.i64.wrap ((n : Int) + 1) = ((n + 1 : Nat) : Int) := (IntWalk.i64_in _ (by omega)).trans (by omega)
                have HXE := Lib.hid (And.intro hxe hz)
                have HAT := Lib.hid hat
                clear hat had hxe hz hbw hsf
                by_cases q3 : (z : Int) ≤ most
                · have HCN := Lib.hid (show Cnt most r (n + 1) ∧ sumN (r.take (n + 1)) = bs + itN x from by
                    have hnl : n < r.length := by have := HRD.out.2.1; omega
                    refine ⟨HC.out.1.next hnl q2 (by rw [HBS.out, HXE.out.1, HXE.out.2]; exact q3), by rw [sumN_take r n hnl, HBS.out, HXE.out.1]⟩)
                  go_wp2_with (first
                    | (have hh := HBW; clear hh; go_at_call 50; refine (bytes_i x _ (HX.out.1.keep HBW.out) (by have := HFX.out.1; omega)).mono ?_; rintro e w3 ⟨rfl, hb3⟩; have H3 := Lib.hid (Below.step HBW.out hb3); have H3k := Lib.hid (Below.step HC.out.2 hb3); have hat3 := HAT.out.keep hb3; clear hb3 HBW)
                    | (have hh := H3; clear hh; go_at_call 49; refine (HZ.out _ (HX.out.1.keep H3.out)).mono ?_; rintro e w4 ⟨rfl, hb4⟩; have H4 := Lib.hid (Below.step H3.out hb4); have H4k := Lib.hid (Below.step H3k.out hb4); have hat4 := hat3.keep hb4; have hok4 := hat4.ok; have hrd4 := hat4.rd; rw [cX_length] at hok4 hrd4; change rdA w4 (ad.add (n * 33)) 33 = vX x at hrd4; clear hb4 H3 H3k hat3 hat4)
                    | (have hh := H4; clear hh; go_at_call 50; refine (bytes_i x _ (HX.out.1.keep H4.out) (by have := HFX.out.1; omega)).mono ?_; rintro e w5 ⟨rfl, hb5⟩; have H5 := Lib.hid (Below.step H4k.out hb5); clear hb5 H4 H4k))
                  go_roundw
                  case rel => exact ⟨n + 1, by go_num, by rw [HCN.out.2]; go_num, HCN.out.1, H5.out⟩
                  case measure => simp [intOf]; omega
                · have HCUT := Lib.hid (show cut1 most r = n from HC.out.1.last (fun h1 h2 => by rw [HBS.out, HXE.out.1, HXE.out.2]; exact q3))
                  have HPOS := Lib.hid (show 0 < n from by
                    obtain ⟨y, r2, he⟩ := List.exists_cons_of_ne_nil HNE.out
                    rw [← HCUT.out, he]
                    exact cut1_pos most y r2 (HRF.out y (by rw [he]; exact List.mem_cons_self)).2)
                  have HCB := Lib.hid HC.out.2
                  have HNM := Lib.hid (And.intro hnm hn1)
                  have p1 : (n : Int) ≤ (cc : Int) := by have := HSB.out.2.1; omega
                  have p2 : (0 : Int) ≤ (n : Int) := by omega
                  have p3 : (n : Int) ≤ (m : Int) := by omega
                  have HTK := Lib.hid (show (r.take n).length = n by rw [List.length_take, HRD.out.2.1]; omega)
                  go_wp2_with (first
                    | (have hh := HBW; clear hh; go_at_call 50; refine (bytes_i x _ (HX.out.1.keep HBW.out) (by have := HFX.out.1; omega)).mono ?_; rintro e w3 ⟨rfl, hb3⟩; have H3 := Lib.hid (Below.step HBW.out hb3); have H3k := Lib.hid (Below.step HC.out.2 hb3); clear hb3 HBW)
                    | (have hh := H3; clear hh; go_at_call 49; refine (HZ.out _ (HX.out.1.keep H3.out)).mono ?_; rintro e w4 ⟨rfl, hb4⟩; have H4 := Lib.hid (Below.step H3.out hb4); have H4k := Lib.hid (Below.step H3k.out hb4); clear hb4 H3 H3k)
                    | (go_at_call 51; refine (clone_x (some ad) n n (r.take n) _ HTK.out ((HSB.out.1.take n).keep H4.out) (by have := HNM.out.2; omega)).mono ?_; rintro e w7 ⟨A7, c7, rfl, ho7, hb7⟩; have H7 := Lib.hid (show Own w7 w4.heap.size 64 33 cX (.slice A7 n c7) (r.take n) ∧ LsI w7 w.heap.size 22 u8 qs ls ∧ Below w.heap.size w w7 ∧ (∀ k, u8.ownBlock = some k → k < w4.heap.size) from ⟨ho7, HO.out.1.keep (Below.step H4k.out hb7), Below.step H4.out hb7, fun k hk => ((HO.out.1.keep H4k.out).own.lt k hk).2⟩); clear ho7 hb7)
                    | (at_builtin; refine wpList_append_slat _ rfl (.tmp 69) (.tmp 75) 51 rfl w.heap.size 22 1 24 cSv underSs rowSs (by decide) cSv_length cSv_one u8 qs rfl (H7.out.2.1.own.keep (below_alloc _ _)) (some ⟨w7.heap.size, 0, none⟩) 1 1 [(A7, n, c7)] rfl rfl (sl_newS w7 (A7, n, c7) _) (by have := HO.out.1.reads.1; have := HBT.out.2; omega) (by have := HO.out.1.reads.1; have := HBT.out.2; omega) (by have := H7.out.2.2.1.size; simp; omega) ?_))
                  intro v9 w9 ho9 hg9 hat9
                  have hb8 := below_alloc w7 (.cells #[.slice A7 n c7] 22)
                  have HL9 := Lib.hid (show LsI w9 w.heap.size 22 v9 (qs ++ [(A7, n, c7)]) (ls ++ [r.take n]) ∧ Below w.heap.size w w9 from by
                    have h8 := H7.out.2.1.keep hb8
                    have ho := H7.out.1.keep hb8
                    refine ⟨LsI.push h8 ⟨HTK.out.symm, ?_⟩ ?_ ho9 hg9 (by simpa using hat9), Own.grew h8.own hg9 (Below.step H7.out.2.2.1 hb8) (Nat.le_refl _) (Below.step H7.out.2.2.1 hb8).size⟩
                    · obtain ⟨A, c, e, _, hs⟩ := ho.sl
                      injection e with e1
                      subst e1
                      exact hs
                    · intro ad7 e
                      have h := ho.lt ad7.block (by rw [show A7 = some ad7 from e]; rfl)
                      refine ⟨h.2, fun h2 => ?_⟩
                      have := H7.out.2.2.2 _ h2
                      omega)
                  clear ho9 hg9 hat9 hb8
                  go_wp2
                  have HE2 := Lib.hid (show Sl w cX (if cc = n then some ad else some (ad.add (n * 33))) (l.drop (k + n)) from by
                    rw [show l.drop (k + n) = r.drop n by rw [← HRD.out.1, List.drop_drop]]
                    exact Sl.cut cX_length HSB.out.1 (by have := HSB.out.2.1; have := HRD.out.2.1; omega))
                  have HE := Lib.hid (show Sl w cX (some (ad.add (n * 33))) (l.drop (k + n)) ∧ batches most l = (ls ++ [r.take n]) ++ batches most (l.drop (k + n)) ∧ (ls ++ [r.take n]).length ≤ k + n ∧ k + n ≤ t ∧ t - (k + n) = m - n ∧ m - n ≤ cc - n ∧ cc - n ≤ 9223372036854775807 from by
                    have h1 : l.drop (k + n) = r.drop n := by rw [← HRD.out.1, List.drop_drop]
                    rw [h1]
                    refine ⟨HSB.out.1.cutA n, ?_, ?_, ?_, ?_, ?_, ?_⟩
                    · rw [HBT.out.1, batches_cons most r HNE.out (fun x hx => (HRF.out x hx).2), HCUT.out, List.append_assoc]
                      rfl
                    · rw [List.length_append, List.length_singleton]
                      have := HBT.out.2
                      have := HPOS.out
                      omega
                    · have := HNM.out.1; have := HRD.out.2.2; omega
                    · have := HRD.out.2.2; omega
                    · have := HSB.out.2.1; omega
                    · have := HSB.out.2.2; omega)
                  go_roundw
                  case rel => exact ⟨k + n, _, cc - n, qs ++ [(A7, n, c7)], ls ++ [r.take n], HE.out.2.2.2.1, by rw [HE.out.2.2.2.2.1], by rw [HE.out.2.2.2.2.1]; exact HE.out.2.2.2.2.2.1, HE.out.2.2.2.2.2.2, HE.out.1, HL9.out.1, HE.out.2.1, HE.out.2.2.1, HL9.out.2⟩
                  case measure => have := HPOS.out; have := HNM.out.1; simp; omega
              · have q2i : ¬ (n : Int) < 1000 := by omega
                have HCUT := Lib.hid (show cut1 most r = n from HC.out.1.last (fun h1 h2 => absurd h2 q2))
                clear hbw hsf
                have HPOS := Lib.hid (show 0 < n from by
                  obtain ⟨y, r2, he⟩ := List.exists_cons_of_ne_nil HNE.out
                  rw [← HCUT.out, he]
                  exact cut1_pos most y r2 (HRF.out y (by rw [he]; exact List.mem_cons_self)).2)
                have HCB := Lib.hid HC.out.2
                have HNM := Lib.hid (And.intro hnm hn1)
                have p1 : (n : Int) ≤ (cc : Int) := by have := HSB.out.2.1; omega
                have p2 : (0 : Int) ≤ (n : Int) := by omega
                have p3 : (n : Int) ≤ (m : Int) := by omega
                have HTK := Lib.hid (show (r.take n).length = n by rw [List.length_take, HRD.out.2.1]; omega)
                go_wp2_with (first
                  | (go_at_call 51; refine (clone_x (some ad) n n (r.take n) _ HTK.out ((HSB.out.1.take n).keep HBW.out) (by have := HNM.out.2; omega)).mono ?_; rintro e w7 ⟨A7, c7, rfl, ho7, hb7⟩; have H7 := Lib.hid (show Own w7 wr.heap.size 64 33 cX (.slice A7 n c7) (r.take n) ∧ LsI w7 w.heap.size 22 u8 qs ls ∧ Below w.heap.size w w7 ∧ (∀ k, u8.ownBlock = some k → k < wr.heap.size) from ⟨ho7, HO.out.1.keep (Below.step HCB.out hb7), Below.step HBW.out hb7, fun k hk => ((HO.out.1.keep HCB.out).own.lt k hk).2⟩); clear ho7 hb7)
                  | (at_builtin; refine wpList_append_slat _ rfl (.tmp 69) (.tmp 75) 51 rfl w.heap.size 22 1 24 cSv underSs rowSs (by decide) cSv_length cSv_one u8 qs rfl (H7.out.2.1.own.keep (below_alloc _ _)) (some ⟨w7.heap.size, 0, none⟩) 1 1 [(A7, n, c7)] rfl rfl (sl_newS w7 (A7, n, c7) _) (by have := HO.out.1.reads.1; have := HBT.out.2; omega) (by have := HO.out.1.reads.1; have := HBT.out.2; omega) (by have := H7.out.2.2.1.size; simp; omega) ?_))
                intro v9 w9 ho9 hg9 hat9
                have hb8 := below_alloc w7 (.cells #[.slice A7 n c7] 22)
                have HL9 := Lib.hid (show LsI w9 w.heap.size 22 v9 (qs ++ [(A7, n, c7)]) (ls ++ [r.take n]) ∧ Below w.heap.size w w9 from by
                  have h8 := H7.out.2.1.keep hb8
                  have ho := H7.out.1.keep hb8
                  refine ⟨LsI.push h8 ⟨HTK.out.symm, ?_⟩ ?_ ho9 hg9 (by simpa using hat9), Own.grew h8.own hg9 (Below.step H7.out.2.2.1 hb8) (Nat.le_refl _) (Below.step H7.out.2.2.1 hb8).size⟩
                  · obtain ⟨A, c, e, _, hs⟩ := ho.sl
                    injection e with e1
                    subst e1
                    exact hs
                  · intro ad7 e
                    have h := ho.lt ad7.block (by rw [show A7 = some ad7 from e]; rfl)
                    refine ⟨h.2, fun h2 => ?_⟩
                    have := H7.out.2.2.2 _ h2
                    omega)
                clear ho9 hg9 hat9 hb8
                go_wp2
                have HE2 := Lib.hid (show Sl w cX (if cc = n then some ad else some (ad.add (n * 33))) (l.drop (k + n)) from by
                  rw [show l.drop (k + n) = r.drop n by rw [← HRD.out.1, List.drop_drop]]
                  exact Sl.cut cX_length HSB.out.1 (by have := HSB.out.2.1; have := HRD.out.2.1; omega))
                have HE := Lib.hid (show Sl w cX (some (ad.add (n * 33))) (l.drop (k + n)) ∧ batches most l = (ls ++ [r.take n]) ++ batches most (l.drop (k + n)) ∧ (ls ++ [r.take n]).length ≤ k + n ∧ k + n ≤ t ∧ t - (k + n) = m - n ∧ m - n ≤ cc - n ∧ cc - n ≤ 9223372036854775807 from by
                  have h1 : l.drop (k + n) = r.drop n := by rw [← HRD.out.1, List.drop_drop]
                  rw [h1]
                  refine ⟨HSB.out.1.cutA n, ?_, ?_, ?_, ?_, ?_, ?_⟩
                  · rw [HBT.out.1, batches_cons most r HNE.out (fun x hx => (HRF.out x hx).2), HCUT.out, List.append_assoc]
                    rfl
                  · rw [List.length_append, List.length_singleton]
                    have := HBT.out.2
                    have := HPOS.out
                    omega
                  · have := HNM.out.1; have := HRD.out.2.2; omega
                  · have := HRD.out.2.2; omega
                  · have := HSB.out.2.1; omega
                  · have := HSB.out.2.2; omega)
                go_roundw
                case rel => exact ⟨k + n, _, cc - n, qs ++ [(A7, n, c7)], ls ++ [r.take n], HE.out.2.2.2.1, by rw [HE.out.2.2.2.2.1], by rw [HE.out.2.2.2.2.1]; exact HE.out.2.2.2.2.2.1, HE.out.2.2.2.2.2.2, HE.out.1, HL9.out.1, HE.out.2.1, HE.out.2.2.1, HL9.out.2⟩
                case measure => have := HPOS.out; have := HNM.out.1; simp; omega
            · have q1i : ¬ (n : Int) < (m : Int) := by omega
              have HCUT := Lib.hid (show cut1 most r = n from HC.out.1.last (fun h1 => by have := HRD.out.2.1; omega))
              clear hbw hsf
              have HPOS := Lib.hid (show 0 < n from by
                obtain ⟨y, r2, he⟩ := List.exists_cons_of_ne_nil HNE.out
                rw [← HCUT.out, he]
                exact cut1_pos most y r2 (HRF.out y (by rw [he]; exact List.mem_cons_self)).2)
              have HCB := Lib.hid HC.out.2
              have HNM := Lib.hid (And.intro hnm hn1)
              have p1 : (n : Int) ≤ (cc : Int) := by have := HSB.out.2.1; omega
              have p2 : (0 : Int) ≤ (n : Int) := by omega
              have p3 : (n : Int) ≤ (m : Int) := by omega
              have HTK := Lib.hid (show (r.take n).length = n by rw [List.length_take, HRD.out.2.1]; omega)
              go_wp2_with (first
                | (go_at_call 51; refine (clone_x (some ad) n n (r.take n) _ HTK.out ((HSB.out.1.take n).keep HBW.out) (by have := HNM.out.2; omega)).mono ?_; rintro e w7 ⟨A7, c7, rfl, ho7, hb7⟩; have H7 := Lib.hid (show Own w7 wr.heap.size 64 33 cX (.slice A7 n c7) (r.take n) ∧ LsI w7 w.heap.size 22 u8 qs ls ∧ Below w.heap.size w w7 ∧ (∀ k, u8.ownBlock = some k → k < wr.heap.size) from ⟨ho7, HO.out.1.keep (Below.step HCB.out hb7), Below.step HBW.out hb7, fun k hk => ((HO.out.1.keep HCB.out).own.lt k hk).2⟩); clear ho7 hb7)
                | (at_builtin; refine wpList_append_slat _ rfl (.tmp 69) (.tmp 75) 51 rfl w.heap.size 22 1 24 cSv underSs rowSs (by decide) cSv_length cSv_one u8 qs rfl (H7.out.2.1.own.keep (below_alloc _ _)) (some ⟨w7.heap.size, 0, none⟩) 1 1 [(A7, n, c7)] rfl rfl (sl_newS w7 (A7, n, c7) _) (by have := HO.out.1.reads.1; have := HBT.out.2; omega) (by have := HO.out.1.reads.1; have := HBT.out.2; omega) (by have := H7.out.2.2.1.size; simp; omega) ?_))
              intro v9 w9 ho9 hg9 hat9
              have hb8 := below_alloc w7 (.cells #[.slice A7 n c7] 22)
              have HL9 := Lib.hid (show LsI w9 w.heap.size 22 v9 (qs ++ [(A7, n, c7)]) (ls ++ [r.take n]) ∧ Below w.heap.size w w9 from by
                have h8 := H7.out.2.1.keep hb8
                have ho := H7.out.1.keep hb8
                refine ⟨LsI.push h8 ⟨HTK.out.symm, ?_⟩ ?_ ho9 hg9 (by simpa using hat9), Own.grew h8.own hg9 (Below.step H7.out.2.2.1 hb8) (Nat.le_refl _) (Below.step H7.out.2.2.1 hb8).size⟩
                · obtain ⟨A, c, e, _, hs⟩ := ho.sl
                  injection e with e1
                  subst e1
                  exact hs
                · intro ad7 e
                  have h := ho.lt ad7.block (by rw [show A7 = some ad7 from e]; rfl)
                  refine ⟨h.2, fun h2 => ?_⟩
                  have := H7.out.2.2.2 _ h2
                  omega)
              clear ho9 hg9 hat9 hb8
              go_wp2
              have HE2 := Lib.hid (show Sl w cX (if cc = n then some ad else some (ad.add (n * 33))) (l.drop (k + n)) from by
                rw [show l.drop (k + n) = r.drop n by rw [← HRD.out.1, List.drop_drop]]
                exact Sl.cut cX_length HSB.out.1 (by have := HSB.out.2.1; have := HRD.out.2.1; omega))
              have HE := Lib.hid (show Sl w cX (some (ad.add (n * 33))) (l.drop (k + n)) ∧ batches most l = (ls ++ [r.take n]) ++ batches most (l.drop (k + n)) ∧ (ls ++ [r.take n]).length ≤ k + n ∧ k + n ≤ t ∧ t - (k + n) = m - n ∧ m - n ≤ cc - n ∧ cc - n ≤ 9223372036854775807 from by
                have h1 : l.drop (k + n) = r.drop n := by rw [← HRD.out.1, List.drop_drop]
                rw [h1]
                refine ⟨HSB.out.1.cutA n, ?_, ?_, ?_, ?_, ?_, ?_⟩
                · rw [HBT.out.1, batches_cons most r HNE.out (fun x hx => (HRF.out x hx).2), HCUT.out, List.append_assoc]
                  rfl
                · rw [List.length_append, List.length_singleton]
                  have := HBT.out.2
                  have := HPOS.out
                  omega
                · have := HNM.out.1; have := HRD.out.2.2; omega
                · have := HRD.out.2.2; omega
                · have := HSB.out.2.1; omega
                · have := HSB.out.2.2; omega)
              go_roundw
              case rel => exact ⟨k + n, _, cc - n, qs ++ [(A7, n, c7)], ls ++ [r.take n], HE.out.2.2.2.1, by rw [HE.out.2.2.2.2.1], by rw [HE.out.2.2.2.2.1]; exact HE.out.2.2.2.2.2.1, HE.out.2.2.2.2.2.2, HE2.out, HL9.out.1, HE.out.2.1, HE.out.2.2.1, HL9.out.2⟩
              case measure => have := HPOS.out; have := HNM.out.1; simp; omega
end Go.Proofs.YtecalodcbkljoaaGreatDoor
