/- BatchSplits is true for all items and limits. -/
import Derived.Test.YtecalodcbkljoaaGreatDoorMRss
import Derived.Test.YtecalodcbkljoaaGreatDoorMSam
import Derived.Test.YtecalodcbkljoaaGreatDoorMPkp
namespace Go.Proofs.YtecalodcbkljoaaGreatDoor
open Go.RowKit
theorem Own.slm {α : Type} {w : World} {base : Nat} {e : TypeId} {s : Nat} {enc : α → List Value} {v : Value} {xs : List α} (h : Own w base e s enc v xs) : ∃ A c, v = .slice A xs.length c ∧ xs.length ≤ c ∧ c ≤ 9223372036854775807 ∧ Sl w enc A xs := by
  obtain ⟨A, c, rfl, h1, h2⟩ := h.sl
  refine ⟨A, c, rfl, h1, ?_, h2⟩
  rcases h.2 with ⟨e, _⟩ | ⟨g, c2, cur, e, _, _, _, h5, _⟩
  · injection e with _ _ e3
    subst e3
    decide
  · injection e with _ _ e3
    subst e3
    unfold maxLen at h5
    omega
theorem chk_good2 {l : List It} (h1 : ∀ x ∈ l, x.text.size ≤ 65536) (h2 : l.length ≤ 1000) (h3 : sizeN l.length (sumN l) ≤ 4194304) : (chkB l).2 = 0 := by
  unfold chkB
  rw [if_neg (by omega), if_neg (by
    rw [List.any_eq_true]
    rintro ⟨x, hx, h⟩
    have := h1 x hx
    have h3 : 65536 < x.text.size := by simpa using h
    omega), if_neg (by omega)]
/-- What is true of each batch. -/
theorem batch_ok {most : Int} {X : List It} (hm : ¬ (most < 1 ∨ 4194304 < most)) (hf : ∀ x ∈ X, Fine most x) {b : List It} (hb : b ∈ batches most X) : b.length ≤ 1000 ∧ (∀ x ∈ b, x.text.size ≤ 65536) ∧ ((pkS b).size : Int) ≤ most := by
  obtain ⟨h1, h2⟩ := batches_flat most X.length X (Nat.le_refl _) (fun x hx => (hf x hx).2)
  obtain ⟨-, h4, h5⟩ := h2 b hb
  have h6 : ∀ x ∈ b, x.text.size ≤ 65536 := fun x hx => (hf x (by rw [← h1]; exact List.mem_flatten.2 ⟨b, hb, hx⟩)).1
  refine ⟨h4, h6, ?_⟩
  unfold pkS
  rw [if_pos (chk_good2 h6 h4 (by omega)), bat_size]
  exact h5
theorem flat_take (ls : List (List It)) (k : Nat) (h : k < ls.length) : ((ls.take (k + 1)).flatten).length = ((ls.take k).flatten).length + ls[k].length := by
  rw [List.take_succ_eq_append_getElem h, List.flatten_append, List.length_append]
  simp
set_option maxRecDepth 100000 in
set_option maxHeartbeats 12800000 in
theorem splits_law (A : Option Addr) (c : Nat) (l : List It) (most : Int) (w : World) (hs : Sl w cX A l) (hc : l.length ≤ c) (_hm : c ≤ maxLen) (_hi : -9223372036854775808 ≤ most ∧ most ≤ 9223372036854775807) (hL : Laid w) : Calls Tryz.prog 6 #[.slice A l.length c, .int .i64 most] w fun e w' => e = .returned (.bool true) ∧ Below w.heap.size w w' := by
  obtain ⟨X, hX⟩ : ∃ X, toL l = X := ⟨_, rfl⟩
  have HX := Lib.hid (show X.length ≤ 10 ∧ (∀ x ∈ X, x.text.size ≤ 400) from by
    rw [← hX]
    exact ⟨toL_len l, toL_size l⟩)
  have HXE := Lib.hid hX
  have H0 := Lib.hid (And.intro hs (And.intro hc hL))
  have HBA := Lib.hid (show ∀ x ∈ X, x.text.size ≤ 1073741824 from fun x hx => by have := HX.out.2 x hx; omega)
  have HBB := Lib.hid (show ∀ x ∈ X, x.text.size ≤ 1000000 from fun x hx => by have := HX.out.2 x hx; omega)
  obtain ⟨M, hM⟩ : ∃ M, X.length = M := ⟨_, rfl⟩
  have HM := Lib.hid hM
  clear hs hc hL hX hM
  cases hsp : splitE most X with
  | error er =>
    have HS := Lib.hid hsp
    have her : er = 2 ∨ er = 5 := by
      unfold splitE at hsp
      split at hsp
      · cases hsp
        exact .inl rfl
      · split at hsp
        · cases hsp
          exact .inr rfl
        · cases hsp
    have hne : (er != 0) = true := by simp; omega
    clear hsp her
    go_enter Tryz.func6, Tryz.ntmps6
    go_wp2_with (first
      | (go_at_call 17; refine (to_b A c l _ H0.out.1 H0.out.2.1).mono ?_; rintro e w1 ⟨v1, rfl, ho1, hb1⟩; rw [HXE.out] at ho1; obtain ⟨A1, d1, rfl, hd1, hd1m, hs1⟩ := ho1.slm; have H1 := Lib.hid (And.intro hb1 (And.intro hs1 (And.intro hd1 hd1m))); clear hb1 ho1 hd1 hd1m hs1)
      | (go_at_call 22; refine (back_b A1 d1 X _ H1.out.2.1 (by have := HX.out.1; omega)).mono ?_; rintro e w2 ⟨v2, rfl, ho2, hb2⟩; obtain ⟨A2, d2, rfl, hd2, hd2m, hs2⟩ := ho2.slm; have H2 := Lib.hid (show Below w.heap.size w w2 ∧ Sl w2 cX A1 X ∧ Sl w2 cX A2 X ∧ X.length ≤ d2 ∧ d2 ≤ 9223372036854775807 from ⟨Below.step H1.out.1 hb2, H1.out.2.1.keep hb2, hs2, hd2, hd2m⟩); clear hb2 ho2 hd2 hd2m hs2)
      | (go_at_call 21; refine (split_l A2 d2 X most _ (H0.out.2.2.keep H2.out.1) H2.out.2.2.1 H2.out.2.2.2.1 H2.out.2.2.2.2 (by have := HX.out.1; omega) HBA.out).mono ?_; rintro e w3 hr3; rw [HS.out] at hr3; obtain ⟨rfl, hb3⟩ := hr3; have H3 := Lib.hid (show Below w.heap.size w w3 ∧ Sl w3 cX A1 X from ⟨Below.step H2.out.1 hb3, H2.out.2.1.keep hb3⟩); clear hb3)
      | (go_at_call 23; refine (rsplit_b A1 d1 X most _ H3.out.2 H1.out.2.2.1 H1.out.2.2.2 (by have := HX.out.1; omega) HBB.out).mono ?_; rintro e w4 hr4; rw [HS.out] at hr4; obtain ⟨rfl, hb4⟩ := hr4; have H4 := Lib.hid (Below.step H3.out.1 hb4); clear hb4)
      | (go_at_call 12; refine (known_c _ (H0.out.2.2.keep H4.out)).mono ?_; rintro en w5 ⟨rfl, hb5⟩; have H5 := Lib.hid (Below.step H4.out hb5); clear hb5))
    go_loop [10, 11] (fun n i => i = .int .i64 0) (fun _ _ => 0)
    case atStart => rfl
    case round =>
      obtain rfl := hrel
      go_wp2
      go_ret
      exact ⟨rfl, H5.out⟩
  | ok ls =>
    have hq : ¬ (most < 1 ∨ 4194304 < most) ∧ (∀ x ∈ X, Fine most x) ∧ ls = batches most X := by
      unfold splitE at hsp
      split at hsp
      · cases hsp
      · rename_i h1
        split at hsp
        · cases hsp
        · rename_i h2
          cases hsp
          refine ⟨h1, fun x hx => ?_, rfl⟩
          rw [List.any_eq_true] at h2
          have h3 : ¬ (decide (65536 < x.text.size) || decide (most < (sizeN 1 (itN x) : Int))) = true := fun h => h2 ⟨x, hx, h⟩
          simp only [Bool.or_eq_true, decide_eq_true_eq] at h3
          exact ⟨by omega, by unfold FitsB; omega⟩
    have HS := Lib.hid hsp
    have HQ := Lib.hid hq
    have HFL := Lib.hid (show ls.flatten = X from by
      rw [hq.2.2]
      exact (batches_flat most X.length X (Nat.le_refl _) (fun x hx => (hq.2.1 x hx).2)).1)
    have HLN := Lib.hid (show ls.length ≤ 10 from by
      have h1 : ∀ (n : Nat) (r : List It), r.length ≤ n → (∀ x ∈ r, FitsB most x) → (batches most r).length ≤ r.length := by
        intro n
        induction n with
        | zero =>
          intro r hr _
          obtain rfl : r = [] := List.eq_nil_of_length_eq_zero (by omega)
          simp [batches_nil]
        | succ n ih =>
          intro r hr hf
          by_cases hne : r = []
          · subst hne
            simp [batches_nil]
          · obtain ⟨y, r2, rfl⟩ := List.exists_cons_of_ne_nil hne
            have hp := cut1_pos most y r2 (hf y List.mem_cons_self)
            have hle := cut1_le most (y :: r2)
            rw [batches_cons most _ hne hf, List.length_cons]
            have := ih ((y :: r2).drop (cut1 most (y :: r2))) (by rw [List.length_drop]; omega) (fun z hz => hf z (List.mem_of_mem_drop hz))
            rw [List.length_drop] at this
            omega
      rw [hq.2.2]
      have := h1 X.length X (Nat.le_refl _) (fun x hx => (hq.2.1 x hx).2)
      have := HX.out.1
      omega)
    obtain ⟨N, hN⟩ : ∃ N, ls.length = N := ⟨_, rfl⟩
    have HN := Lib.hid hN
    clear hsp hq hN
    go_enter Tryz.func6, Tryz.ntmps6
    go_wp2_with (first
      | (go_at_call 17; refine (to_b A c l _ H0.out.1 H0.out.2.1).mono ?_; rintro e w1 ⟨v1, rfl, ho1, hb1⟩; rw [HXE.out] at ho1; obtain ⟨A1, d1, rfl, hd1, hd1m, hs1⟩ := ho1.slm; have H1 := Lib.hid (And.intro hb1 (And.intro hs1 (And.intro hd1 hd1m))); clear hb1 ho1 hd1 hd1m hs1)
      | (go_at_call 22; refine (back_b A1 d1 X _ H1.out.2.1 (by have := HX.out.1; omega)).mono ?_; rintro e w2 ⟨v2, rfl, ho2, hb2⟩; obtain ⟨A2, d2, rfl, hd2, hd2m, hs2⟩ := ho2.slm; have H2 := Lib.hid (show Below w.heap.size w w2 ∧ Sl w2 cX A1 X ∧ Sl w2 cX A2 X ∧ X.length ≤ d2 ∧ d2 ≤ 9223372036854775807 from ⟨Below.step H1.out.1 hb2, H1.out.2.1.keep hb2, hs2, hd2, hd2m⟩); clear hb2 ho2 hd2 hd2m hs2)
      | (go_at_call 21; refine (split_l A2 d2 X most _ (H0.out.2.2.keep H2.out.1) H2.out.2.2.1 H2.out.2.2.2.1 H2.out.2.2.2.2 (by have := HX.out.1; omega) HBA.out).mono ?_; rintro e w3 hr3; rw [HS.out] at hr3; obtain ⟨A3, c3, qs, rfl, hs3, hq3, hb3⟩ := hr3; rw [HN.out]; have H3 := Lib.hid (show Below w.heap.size w w3 ∧ Sl w3 cX A1 X ∧ Sl w3 cSv A3 qs ∧ Reads w3 qs ls from ⟨Below.step H2.out.1 hb3, H2.out.2.1.keep hb3, hs3, hq3⟩); clear hb3 hs3 hq3)
      | (go_at_call 23; refine (rsplit_b A1 d1 X most _ H3.out.2.1 H1.out.2.2.1 H1.out.2.2.2 (by have := HX.out.1; omega) HBB.out).mono ?_; rintro e w4 hr4; rw [HS.out] at hr4; obtain ⟨A4, c4, ps, rfl, hs4, hq4, hb4⟩ := hr4; rw [HN.out]; have H4 := Lib.hid (show Below w.heap.size w w4 ∧ Sl w4 cSv A3 qs ∧ Reads w4 qs ls ∧ Sl w4 cSv A4 ps ∧ Reads w4 ps ls from ⟨Below.step H3.out.1 hb4, H3.out.2.2.1.keep hb4, H3.out.2.2.2.keep hb4, hs4, hq4⟩); clear hb4 hs4 hq4)
      | (go_at_call 12; refine (known_c _ (H0.out.2.2.keep H4.out.1)).mono ?_; rintro en w5 ⟨rfl, hb5⟩; have H5 := Lib.hid hb5; clear hb5))
    clear H2 H3
    go_loopw [10, 11] (fun nv i wr => ∃ k : Nat, k ≤ N ∧ i = .int .i64 (k : Int) ∧ nv = .int .i64 (((ls.take k).flatten).length : Int) ∧ Below w4.heap.size w4 wr) (fun _ i _ => N - (intOf i).toNat)
    case atStart => exact ⟨0, Nat.zero_le _, rfl, rfl, H5.out⟩
    case round =>
      obtain ⟨k, hk, rfl, rfl, hb⟩ := hrel
      have HB := Lib.hid hb
      have HW := Lib.hid (Below.step H4.out.1 hb)
      clear hb
      have hn1 : (N : Int) ≤ 10 := by have := HLN.out; have := HN.out; omega
      by_cases hlt : k < N
      · have hki : (k : Int) < (N : Int) := by omega
        have hkl : k < ls.length := by rw [HN.out]; exact hlt
        obtain ⟨b, hbe⟩ : ∃ b, ls[k] = b := ⟨_, rfl⟩
        have hbm : b ∈ batches most X := by rw [← HQ.out.2.2, ← hbe]; exact List.getElem_mem _
        obtain ⟨b1, b2, b3⟩ := batch_ok HQ.out.1 HQ.out.2.1 hbm
        have hR := H4.out.2.2.1.keep HB.out
        have hR2 := H4.out.2.2.2.2.keep HB.out
        have hkq : k < qs.length := by rw [hR.1]; exact hkl
        have hkp : k < ps.length := by rw [hR2.1]; exact hkl
        obtain ⟨ad, rfl, hat⟩ := Sl.at_ cSv_length (H4.out.2.1.keep HB.out) hkq
        obtain ⟨bd, rfl, hbt⟩ := Sl.at_ cSv_length (H4.out.2.2.2.1.keep HB.out) hkp
        have h5 := hR.2 k _ b (List.getElem?_eq_getElem hkq) (by rw [List.getElem?_eq_getElem hkl, hbe])
        have h6 := hR2.2 k _ b (List.getElem?_eq_getElem hkp) (by rw [List.getElem?_eq_getElem hkl, hbe])
        obtain ⟨⟨A5, m5, c5⟩, e5⟩ : ∃ q, qs[k] = q := ⟨_, rfl⟩
        obtain ⟨⟨A6, m6, c6⟩, e6⟩ : ∃ q, ps[k] = q := ⟨_, rfl⟩
        rw [e5] at hat h5
        rw [e6] at hbt h6
        obtain ⟨n5, hn5⟩ : ∃ n5, b.length = n5 := ⟨_, rfl⟩
        obtain rfl : m5 = n5 := h5.1.trans hn5
        obtain rfl : m6 = m5 := h6.1.trans hn5
        obtain ⟨z, hz⟩ : ∃ z, (pkS b).size = z := ⟨_, rfl⟩
        have hzb : (most < (z : Int)) = False := by simp; omega
        have HC5 := Lib.hid (show wr.cell? (ad.add k) = some (.slice A5 m6 c5) from by
          have := hat.2 0 _ rfl
          rwa [add_of_add, Nat.mul_one, Nat.add_zero] at this)
        have HC6 := Lib.hid (show wr.cell? (bd.add k) = some (.slice A6 m6 c6) from by
          have := hbt.2 0 _ rfl
          rwa [add_of_add, Nat.mul_one, Nat.add_zero] at this)
        have HR5 := Lib.hid h5.2
        have HR6 := Lib.hid h6.2
        have HB5 := Lib.hid (show b.length ≤ 1073741824 ∧ b.length = m6 ∧ (∀ x ∈ b, x.text.size ≤ 1073741824) ∧ (pkS b).size = z from ⟨by omega, hn5, fun x hx => by have := b2 x hx; omega, hz⟩)
        have HFT := Lib.hid (show (((ls.take (k + 1)).flatten).length : Int) = (((ls.take k).flatten).length : Int) + (m6 : Int) ∧ ((ls.take k).flatten).length ≤ 10 ∧ m6 ≤ 1000 from by
          rw [flat_take ls k hkl, hbe, hn5]
          refine ⟨by omega, ?_, by omega⟩
          have h1 : ((ls.take k).flatten).length ≤ ls.flatten.length := by
            conv => rhs; rw [← List.take_append_drop k ls, List.flatten_append, List.length_append]
            omega
          rw [HFL.out] at h1
          have := HX.out.1
          omega)
        obtain ⟨s, hss⟩ : ∃ s, ((ls.take k).flatten).length = s := ⟨_, rfl⟩
        rw [hss] at HFT ⊢
        have hs10 : (s : Int) ≤ 10 := by have := HFT.out.2.1; omega
        have hm10 : (m6 : Int) ≤ 1000 := by have := HFT.out.2.2; omega
        clear hat hbt h5 h6 hR hR2 e5 e6 hn5 hz b1 b2 b3 hbm hbe hkq hkp hkl hss
        go_wp2_with fail
        refine AnyO.wp_any_tail 18 (by kernel_rfl) (by kernel_rfl) (by kernel_rfl) (by kernel_rfl) (by kernel_rfl) (by kernel_rfl) (pstP [isV (.slice (some ad) N c3), isV (.int .i64 (k : Int)), isV (.pointer (some (ad.add k))), isV (.slice A5 m6 c5), isV (.slice (some bd) N c4), isV (.int .i64 (k : Int)), isV (.pointer (some (bd.add k))), isV (.slice A6 m6 c6), isV (.bool true), isV (.bool false), isV (.bool false), isV (.slice (some ad) N c3), isV (.int .i64 (k : Int)), isV (.pointer (some (ad.add k))), isV (.slice A5 m6 c5), isV (.int .i64 (z : Int)), isV (.int .i64 most), isV (.bool false)]) (MonoL.cons (Mono.v _) (MonoL.cons (Mono.v _) (MonoL.cons (Mono.v _) (MonoL.cons (Mono.v _) (MonoL.cons (Mono.v _) (MonoL.cons (Mono.v _) (MonoL.cons (Mono.v _) (MonoL.cons (Mono.v _) (MonoL.cons (Mono.v _) (MonoL.cons (Mono.v _) (MonoL.cons (Mono.v _) (MonoL.cons (Mono.v _) (MonoL.cons (Mono.v _) (MonoL.cons (Mono.v _) (MonoL.cons (Mono.v _) (MonoL.cons (Mono.v _) (MonoL.cons (Mono.v _) (MonoL.cons (Mono.v _) MonoL.nil)))))))))))))))))) ?_ ?_
        · intro i hi
          have hi2 : i = 0 ∨ i = 1 ∨ i = 2 ∨ i = 3 ∨ i = 4 ∨ i = 5 ∨ i = 6 ∨ i = 7 ∨ i = 8 ∨ i = 9 ∨ i = 10 ∨ i = 11 ∨ i = 12 ∨ i = 13 ∨ i = 14 ∨ i = 15 ∨ i = 16 ∨ i = 17 := by omega
          clear hi
          rcases hi2 with rfl | rfl | rfl | rfl | rfl | rfl | rfl | rfl | rfl | rfl | rfl | rfl | rfl | rfl | rfl | rfl | rfl | rfl
          · -- 0: Op.move (Operand.tmp 6)
            refine AnyO.Step.mk rfl [] (by kernel_rfl) ?_
            intro vs u hE hp ac hb K hK
            have s6 : ac.tmps[6]?.getD undef = .slice (some ad) N c3 := by rw [hb]; kernel_rfl
            rw [if_pos (AnyO.wanted_none rfl)]
            clear hb hp
            go_simp
            exact hK _ _ (Below.refl _ _) rfl
          · -- 1: Op.move (Operand.tmp 11)
            refine AnyO.Step.mk rfl [] (by kernel_rfl) ?_
            intro vs u hE hp ac hb K hK
            have s11 : ac.tmps[11]?.getD undef = .int .i64 (k : Int) := by rw [hb]; kernel_rfl
            rw [if_pos (AnyO.wanted_none rfl)]
            clear hb hp
            go_simp
            exact hK _ _ (Below.refl _ _) rfl
          · -- 2: Op.indexAddr 51 (Operand.tmp 47) (Operand.tmp 48)
            refine AnyO.Step.mk rfl [0, 1] (by kernel_rfl) ?_
            intro vs u hE hp ac hb K hK
            have s47 : ac.tmps[47]?.getD undef = .slice (some ad) N c3 := by rw [hb]; exact (show _ = vs 0 by kernel_rfl).trans (hp 0 (by decide))
            have s48 : ac.tmps[48]?.getD undef = .int .i64 (k : Int) := by rw [hb]; exact (show _ = vs 1 by kernel_rfl).trans (hp 1 (by decide))
            rw [if_pos (AnyO.wanted_none rfl)]
            clear hb hp
            have r1 := hki
            have r2 := hn1
            go_simp
            exact hK _ _ (Below.refl _ _) rfl
          · -- 3: Op.load 22 (Operand.tmp 49)
            refine AnyO.Step.mk rfl [2] (by kernel_rfl) ?_
            intro vs u hE hp ac hb K hK
            have s49 : ac.tmps[49]?.getD undef = .pointer (some (ad.add k)) := by rw [hb]; exact (show _ = vs 2 by kernel_rfl).trans (hp 2 (by decide))
            rw [if_pos (AnyO.wanted_none rfl)]
            clear hb hp
            have r1 := cell_below HC5.out (Below.step (below_drew wr) hE)
            go_simp
            exact hK _ _ (Below.refl _ _) rfl
          · -- 4: Op.move (Operand.tmp 8)
            refine AnyO.Step.mk rfl [] (by kernel_rfl) ?_
            intro vs u hE hp ac hb K hK
            have s8 : ac.tmps[8]?.getD undef = .slice (some bd) N c4 := by rw [hb]; kernel_rfl
            rw [if_pos (AnyO.wanted_none rfl)]
            clear hb hp
            go_simp
            exact hK _ _ (Below.refl _ _) rfl
          · -- 5: Op.move (Operand.tmp 11)
            refine AnyO.Step.mk rfl [] (by kernel_rfl) ?_
            intro vs u hE hp ac hb K hK
            have s11 : ac.tmps[11]?.getD undef = .int .i64 (k : Int) := by rw [hb]; kernel_rfl
            rw [if_pos (AnyO.wanted_none rfl)]
            clear hb hp
            go_simp
            exact hK _ _ (Below.refl _ _) rfl
          · -- 6: Op.indexAddr 55 (Operand.tmp 51) (Operand.tmp 52)
            refine AnyO.Step.mk rfl [4, 5] (by kernel_rfl) ?_
            intro vs u hE hp ac hb K hK
            have s51 : ac.tmps[51]?.getD undef = .slice (some bd) N c4 := by rw [hb]; exact (show _ = vs 4 by kernel_rfl).trans (hp 4 (by decide))
            have s52 : ac.tmps[52]?.getD undef = .int .i64 (k : Int) := by rw [hb]; exact (show _ = vs 5 by kernel_rfl).trans (hp 5 (by decide))
            rw [if_pos (AnyO.wanted_none rfl)]
            clear hb hp
            have r1 := hki
            have r2 := hn1
            go_simp
            exact hK _ _ (Below.refl _ _) rfl
          · -- 7: Op.load 26 (Operand.tmp 53)
            refine AnyO.Step.mk rfl [6] (by kernel_rfl) ?_
            intro vs u hE hp ac hb K hK
            have s53 : ac.tmps[53]?.getD undef = .pointer (some (bd.add k)) := by rw [hb]; exact (show _ = vs 6 by kernel_rfl).trans (hp 6 (by decide))
            rw [if_pos (AnyO.wanted_none rfl)]
            clear hb hp
            have r1 := cell_below HC6.out (Below.step (below_drew wr) hE)
            go_simp
            exact hK _ _ (Below.refl _ _) rfl
          · -- 8: Op.call { callee := Callee.value (Operand.func 13), args := 
            refine AnyO.Step.mk rfl [3, 7] (by kernel_rfl) ?_
            intro vs u hE hp ac hb K hK
            have s50 : ac.tmps[50]?.getD undef = .slice A5 m6 c5 := by rw [hb]; exact (show _ = vs 3 by kernel_rfl).trans (hp 3 (by decide))
            have s54 : ac.tmps[54]?.getD undef = .slice A6 m6 c6 := by rw [hb]; exact (show _ = vs 7 by kernel_rfl).trans (hp 7 (by decide))
            rw [if_pos (AnyO.wanted_none rfl)]
            clear hb hp
            go_simp
            go_at_call 13
            have hsm := same_b A5 A6 c5 c6 b b u (HR5.out.keep (Below.step (below_drew wr) hE)) (HR6.out.keep (Below.step (below_drew wr) hE)) HB5.out.1 HB5.out.1
            rw [HB5.out.2.1] at hsm
            refine hsm.mono ?_
            rintro en w2 ⟨rfl, hb2⟩
            rw [decide_eq_true rfl]
            exact hK _ _ hb2 rfl
          · -- 9: Op.unOp UnOp.not 4 (Operand.tmp 55)
            refine AnyO.Step.mk rfl [8] (by kernel_rfl) ?_
            intro vs u hE hp ac hb K hK
            have s55 : ac.tmps[55]?.getD undef = .bool true := by rw [hb]; exact (show _ = vs 8 by kernel_rfl).trans (hp 8 (by decide))
            rw [if_pos (AnyO.wanted_none rfl)]
            clear hb hp
            go_simp
            exact hK _ _ (Below.refl _ _) rfl
          · -- 10: Op.move (Operand.tmp 56)
            refine AnyO.Step.mk rfl [9, 8] (by kernel_rfl) ?_
            intro vs u hE hp ac hb K hK
            have s56 : ac.tmps[56]?.getD undef = .bool false := by rw [hb]; exact (show _ = vs 9 by kernel_rfl).trans (hp 9 (by decide))
            rw [if_pos (AnyO.wanted_none rfl)]
            clear hb hp
            go_simp
            exact hK _ _ (Below.refl _ _) rfl
          · -- 11: Op.move (Operand.tmp 6)
            refine AnyO.Step.mk rfl [10] (by kernel_rfl) ?_
            intro vs u hE hp ac hb K hK
            have s6 : ac.tmps[6]?.getD undef = .slice (some ad) N c3 := by rw [hb]; kernel_rfl
            have s57 : ac.tmps[57]?.getD undef = .bool false := by rw [hb]; exact (show _ = vs 10 by kernel_rfl).trans (hp 10 (by decide))
            rw [if_pos (AnyO.wanted_some (g := 10) (t := 57) (want := false) rfl rfl s57)]
            clear hb hp
            go_simp
            exact hK _ _ (Below.refl _ _) rfl
          · -- 12: Op.move (Operand.tmp 11)
            refine AnyO.Step.mk rfl [10] (by kernel_rfl) ?_
            intro vs u hE hp ac hb K hK
            have s11 : ac.tmps[11]?.getD undef = .int .i64 (k : Int) := by rw [hb]; kernel_rfl
            have s57 : ac.tmps[57]?.getD undef = .bool false := by rw [hb]; exact (show _ = vs 10 by kernel_rfl).trans (hp 10 (by decide))
            rw [if_pos (AnyO.wanted_some (g := 10) (t := 57) (want := false) rfl rfl s57)]
            clear hb hp
            go_simp
            exact hK _ _ (Below.refl _ _) rfl
          · -- 13: Op.indexAddr 51 (Operand.tmp 58) (Operand.tmp 59)
            refine AnyO.Step.mk rfl [11, 12, 10] (by kernel_rfl) ?_
            intro vs u hE hp ac hb K hK
            have s58 : ac.tmps[58]?.getD undef = .slice (some ad) N c3 := by rw [hb]; exact (show _ = vs 11 by kernel_rfl).trans (hp 11 (by decide))
            have s59 : ac.tmps[59]?.getD undef = .int .i64 (k : Int) := by rw [hb]; exact (show _ = vs 12 by kernel_rfl).trans (hp 12 (by decide))
            have s57 : ac.tmps[57]?.getD undef = .bool false := by rw [hb]; exact (show _ = vs 10 by kernel_rfl).trans (hp 10 (by decide))
            rw [if_pos (AnyO.wanted_some (g := 10) (t := 57) (want := false) rfl rfl s57)]
            clear hb hp
            have r1 := hki
            have r2 := hn1
            go_simp
            exact hK _ _ (Below.refl _ _) rfl
          · -- 14: Op.load 22 (Operand.tmp 60)
            refine AnyO.Step.mk rfl [13, 10] (by kernel_rfl) ?_
            intro vs u hE hp ac hb K hK
            have s60 : ac.tmps[60]?.getD undef = .pointer (some (ad.add k)) := by rw [hb]; exact (show _ = vs 13 by kernel_rfl).trans (hp 13 (by decide))
            have s57 : ac.tmps[57]?.getD undef = .bool false := by rw [hb]; exact (show _ = vs 10 by kernel_rfl).trans (hp 10 (by decide))
            rw [if_pos (AnyO.wanted_some (g := 10) (t := 57) (want := false) rfl rfl s57)]
            clear hb hp
            have r1 := cell_below HC5.out (Below.step (below_drew wr) hE)
            go_simp
            exact hK _ _ (Below.refl _ _) rfl
          · -- 15: Op.call { callee := Callee.value (Operand.func 24), args := 
            refine AnyO.Step.mk rfl [14, 10, 10] (by kernel_rfl) ?_
            intro vs u hE hp ac hb K hK
            have s61 : ac.tmps[61]?.getD undef = .slice A5 m6 c5 := by rw [hb]; exact (show _ = vs 14 by kernel_rfl).trans (hp 14 (by decide))
            have s57 : ac.tmps[57]?.getD undef = .bool false := by rw [hb]; exact (show _ = vs 10 by kernel_rfl).trans (hp 10 (by decide))
            rw [if_pos (AnyO.wanted_some (g := 10) (t := 57) (want := false) rfl rfl s57)]
            clear hb hp
            go_simp
            go_at_call 24
            have hsz := size_p A5 c5 b u (H0.out.2.2.keep (Below.step HW.out (Below.step (below_drew wr) hE))) (HR5.out.keep (Below.step (below_drew wr) hE)) HB5.out.1 HB5.out.2.2.1
            rw [HB5.out.2.1, HB5.out.2.2.2] at hsz
            refine hsz.mono ?_
            rintro en w2 ⟨rfl, hb2⟩
            exact hK _ _ hb2 rfl
          · -- 16: Op.move (Operand.tmp 1)
            refine AnyO.Step.mk rfl [10] (by kernel_rfl) ?_
            intro vs u hE hp ac hb K hK
            have s1 : ac.tmps[1]?.getD undef = .int .i64 most := by rw [hb]; kernel_rfl
            have s57 : ac.tmps[57]?.getD undef = .bool false := by rw [hb]; exact (show _ = vs 10 by kernel_rfl).trans (hp 10 (by decide))
            rw [if_pos (AnyO.wanted_some (g := 10) (t := 57) (want := false) rfl rfl s57)]
            clear hb hp
            go_simp
            exact hK _ _ (Below.refl _ _) rfl
          · -- 17: Op.binOp BinOp.gtr 3 (Operand.tmp 62) (Operand.tmp 63) 3
            refine AnyO.Step.mk rfl [15, 16, 10] (by kernel_rfl) ?_
            intro vs u hE hp ac hb K hK
            have s62 : ac.tmps[62]?.getD undef = .int .i64 (z : Int) := by rw [hb]; exact (show _ = vs 15 by kernel_rfl).trans (hp 15 (by decide))
            have s63 : ac.tmps[63]?.getD undef = .int .i64 most := by rw [hb]; exact (show _ = vs 16 by kernel_rfl).trans (hp 16 (by decide))
            have s57 : ac.tmps[57]?.getD undef = .bool false := by rw [hb]; exact (show _ = vs 10 by kernel_rfl).trans (hp 10 (by decide))
            rw [if_pos (AnyO.wanted_some (g := 10) (t := 57) (want := false) rfl rfl s57)]
            clear hb hp
            have r1 := hzb
            go_simp
            exact hK _ _ (Below.refl _ _) rfl
        · intro vs u hE hp
          have e0 : vs 0 = .slice (some ad) N c3 := hp 0 (by decide)
          have e1 : vs 1 = .int .i64 (k : Int) := hp 1 (by decide)
          have e2 : vs 2 = .pointer (some (ad.add k)) := hp 2 (by decide)
          have e3 : vs 3 = .slice A5 m6 c5 := hp 3 (by decide)
          have e4 : vs 4 = .slice (some bd) N c4 := hp 4 (by decide)
          have e5 : vs 5 = .int .i64 (k : Int) := hp 5 (by decide)
          have e6 : vs 6 = .pointer (some (bd.add k)) := hp 6 (by decide)
          have e7 : vs 7 = .slice A6 m6 c6 := hp 7 (by decide)
          have e8 : vs 8 = .bool true := hp 8 (by decide)
          have e9 : vs 9 = .bool false := hp 9 (by decide)
          have e10 : vs 10 = .bool false := hp 10 (by decide)
          have e11 : vs 11 = .slice (some ad) N c3 := hp 11 (by decide)
          have e12 : vs 12 = .int .i64 (k : Int) := hp 12 (by decide)
          have e13 : vs 13 = .pointer (some (ad.add k)) := hp 13 (by decide)
          have e14 : vs 14 = .slice A5 m6 c5 := hp 14 (by decide)
          have e15 : vs 15 = .int .i64 (z : Int) := hp 15 (by decide)
          have e16 : vs 16 = .int .i64 most := hp 16 (by decide)
          have e17 : vs 17 = .bool false := hp 17 (by decide)
          clear hp
          have HE := Lib.hid hE
          clear hE
          have c5a := cell_below HC5.out HE.out
          have H5 := Lib.hid (Below.step HW.out HE.out)
          have H5k := Lib.hid (Below.step HB.out HE.out)
          rw [puts_range [some 47, some 48, some 49, some 50, some 51, some 52, some 53, some 54, some 55, some 56, some 57, some 58, some 59, some 60, some 61, some 62, some 63, some 64] (by kernel_rfl)]
          simp only [putL, Nat.reduceAdd, List.drop_succ_cons, List.drop_zero, e0, e1, e2, e3, e4, e5, e6, e7, e8, e9, e10, e11, e12, e13, e14, e15, e16, e17]
          clear e0 e1 e2 e3 e4 e5 e6 e7 e8 e9 e10 e11 e12 e13 e14 e15 e16 e17
          go_simp
          go_wp2
          go_roundw
          case rel => exact ⟨k + 1, hlt, by go_num, by rw [HFT.out.1], H5k.out⟩
          case measure => simp [intOf]; omega
      · obtain rfl : k = N := by omega
        have hfl : ((ls.take k).flatten).length = M := by
          rw [List.take_of_length_le (by rw [HN.out]; exact Nat.le_refl _), HFL.out]
          exact HM.out
        rw [hfl]
        have HW2 := Lib.hid (Below.step H4.out.1 HB.out)
        clear hfl
        have hMM := HM.out
        go_wp2
        go_ret
        exact ⟨rfl, HW2.out⟩
end Go.Proofs.YtecalodcbkljoaaGreatDoor
