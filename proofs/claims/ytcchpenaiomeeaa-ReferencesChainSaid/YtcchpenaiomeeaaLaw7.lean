/- The law of Reply: it agrees with the reference. -/
import Derived.Test.YtcchpenaiomeeaaReplyB
namespace Go.Proofs.Ytcchpenaiomeeaa
open Go.RowKit
theorem reply26b (A : Option Addr) (c n : Nat) (p : Id) (xs r : List Id) (no : Int) (w : World) (he : replyE xs p = (r, no)) (hl : xs.length = n) (hx : Sl w cI A xs) (hm : xs.length ≤ 1000) :
    Calls Try.prog 26 #[.slice A n c, vI p] w (OutE w r no) := by
  have h := reply26 A c n p xs w hl hx hm
  rwa [he] at h
theorem reply27b (A : Option Addr) (c n : Nat) (p : Id) (xs r : List Id) (no : Int) (w : World) (he : replyE xs p = (r, no)) (hl : xs.length = n) (hx : Sl w cI A xs) (hc : n ≤ c) (hm : xs.length ≤ 1000) :
    Calls Try.prog 27 #[.slice A n c, vI p] w (OutE w r no) := by
  have h := reply27 A c n p xs w hl hx hc hm
  rwa [he] at h
theorem replyE_len (xs : List Id) (p : Id) : (replyE xs p).1.length ≤ xs.length + 1 := by
  unfold replyE
  split
  · simp
  · split
    · simp
    · split
      · simp
      · have := trimL_length_le (xs ++ [p]) 20 (by decide)
        simpa using this
set_option maxRecDepth 100000 in
set_option maxHeartbeats 1600000 in
theorem law7 (A : Option Addr) (c : Nat) (p : Id) (xs : List Id) (w : World) (hx : Sl w cI A xs) (hc : xs.length ≤ c) :
    Calls Try.prog 7 #[.slice A xs.length c, vI p] w fun e w' => e = .returned (.bool true) ∧ Below w.heap.size w w' := by
  have HB := Lib.hid (below_alloc w (.cells (aI p) 38))
  have HA := Lib.hid (at_new w (cI p) 38 w.heap.size rfl)
  have T0 := Lib.hid trivial
  by_cases hl : 30 < xs.length
  · have h1 : (30 : Int) < (xs.length : Int) := by omega
    clear hl hx hc
    go_enter Try.func7, Try.ntmps7
    go_wp2_with (go_at_call 12; refine (known12 _).mono ?_; rintro e w1 ⟨rfl, hb1⟩; replace HB := Lib.hid (Below.step HB.out hb1); clear hb1)
    go_ret
    exact ⟨rfl, HB.out⟩
  · have h1 : ¬ (30 : Int) < (xs.length : Int) := by omega
    have hln := replyE_len xs p
    rcases hE : replyE xs p with ⟨r, no⟩
    rw [hE] at hln
    have HR := Lib.hid (show r.length ≤ 4294967296 by simp only at hln; omega)
    have HX := Lib.hid (And.intro hx (And.intro hc (show xs.length ≤ 30 by omega)))
    have HE := Lib.hid hE
    clear hE hln hl hx hc
    go_enter Try.func7, Try.ntmps7
    go_wp2_with (go_at_call 12; have hh := T0; clear hh; refine (known12 _).mono ?_; rintro e W ⟨rfl, hb1⟩; replace HA := Lib.hid (HA.out.keep hb1); replace HB := Lib.hid (Below.step HB.out hb1); clear hb1 T0; have T0 := Lib.hid trivial)
    have LD : ∀ u, Below W.drew.heap.size W.drew u → okA u ⟨w.heap.size, 0, none⟩ 32 = true ∧ rdA u ⟨w.heap.size, 0, none⟩ 32 = vI p := by
      intro u hb
      have h := HA.out.keep (w' := u) ⟨hb.os, hb.tape, hb.output, hb.size, hb.block⟩
      exact ⟨by have := h.ok; rwa [cI_length] at this, by have := h.rd; rwa [cI_length] at this⟩
    replace LD := Lib.hid LD
    clear HA
    refine AnyO.wp_any (by kernel_rfl) (by kernel_rfl) (pstP [isV (.slice A xs.length c), isSl (xs), isV (vI p), isSlE (r) (no), isSlE (r) (no), isSl (r), isV (.int .i64 no), isSl (r), isV (.int .i64 no)]) (MonoL.cons (Mono.v _) (MonoL.cons (Mono.sl _) (MonoL.cons (Mono.v _) (MonoL.cons (Mono.slE _ _) (MonoL.cons (Mono.slE _ _) (MonoL.cons (Mono.sl _) (MonoL.cons (Mono.v _) (MonoL.cons (Mono.sl _) (MonoL.cons (Mono.v _) MonoL.nil))))))))) ?_ ?_
    · intro i hi
      have hi2 : i = 0 ∨ i = 1 ∨ i = 2 ∨ i = 3 ∨ i = 4 ∨ i = 5 ∨ i = 6 ∨ i = 7 ∨ i = 8 := by simp only [List.size_toArray, List.length_cons, List.length_nil] at hi; omega
      clear hi
      rcases hi2 with rfl | rfl | rfl | rfl | rfl | rfl | rfl | rfl | rfl
      · -- 0: Op.move (Operand.tmp 0)
        refine AnyO.Step.mk rfl [] (by kernel_rfl) ?_
        intro vs u hE hp ac hb K hK
        have s0 : ac.tmps[0]?.getD undef = .slice A xs.length c := by rw [hb]; kernel_rfl
        rw [if_pos (AnyO.wanted_none rfl)]
        clear hb hp
        go_simp
        exact hK _ _ (Below.refl _ _) rfl
      · -- 1: Op.call { callee := Callee.value (Operand.func 14), args := 
        refine AnyO.Step.mk rfl [0] (by kernel_rfl) ?_
        intro vs u hE hp ac hb K hK
        have s18 : ac.tmps[18]?.getD undef = .slice A xs.length c := by rw [hb]; exact (show _ = vs 0 by kernel_rfl).trans (hp 0 (by decide))
        rw [if_pos (AnyO.wanted_none rfl)]
        clear hb hp
        go_simp
        refine (own14 A c xs.length xs u rfl (HX.out.1.keep (Below.step HB.out (Below.undrew hE))) (by have := HX.out.2.2; omega)).mono ?_
        rintro e w2 ⟨A2, n2, c2, rfl, hl2, hc2, hb2, ho2⟩
        exact hK _ _ hb2 ⟨_, _, _, rfl, hl2, hc2, ho2⟩
      · -- 2: Op.load 38 (Operand.tmp 3)
        refine AnyO.Step.mk rfl [] (by kernel_rfl) ?_
        intro vs u hE hp ac hb K hK
        have s3 : ac.tmps[3]?.getD undef = .pointer (some ⟨w.heap.size, 0, none⟩) := by rw [hb]; kernel_rfl
        rw [if_pos (AnyO.wanted_none rfl)]
        clear hb hp
        obtain ⟨q1, q2⟩ := LD.out u hE
        go_simp
        exact hK _ _ (Below.refl _ _) rfl
      · -- 3: Op.call { callee := Callee.value (Operand.func 26), args := 
        refine AnyO.Step.mk rfl [1, 2, 1] (by kernel_rfl) ?_
        intro vs u hE hp ac hb K hK
        obtain ⟨A19, n19, c19, e19, h19⟩ := hp 1 (by decide)
        have s19 : ac.tmps[19]?.getD undef = .slice A19 n19 c19 := by rw [hb]; exact (show _ = vs 1 by kernel_rfl).trans e19
        clear e19
        have s20 : ac.tmps[20]?.getD undef = vI p := by rw [hb]; exact (show _ = vs 2 by kernel_rfl).trans (hp 2 (by decide))
        rw [if_pos (AnyO.wanted_none rfl)]
        clear hb hp
        go_simp
        refine (reply26b A19 c19 n19 p xs r no u HE.out h19.1 h19.2.2 (by have := HX.out.2.2; omega)).mono ?_
        rintro e w2 ⟨A2, n2, c2, rfl, hl2, hc2, hb2, ho2⟩
        exact hK _ _ hb2 ⟨_, _, _, rfl, hl2, hc2, ho2⟩
      · -- 4: Op.move (Operand.tmp 21)
        refine AnyO.Step.mk rfl [3] (by kernel_rfl) ?_
        intro vs u hE hp ac hb K hK
        obtain ⟨A21, n21, c21, e21, h21⟩ := hp 3 (by decide)
        have s21 : ac.tmps[21]?.getD undef = .tuple #[.slice A21 n21 c21, .int .i64 (no)] := by rw [hb]; exact (show _ = vs 3 by kernel_rfl).trans e21
        clear e21
        rw [if_pos (AnyO.wanted_none rfl)]
        clear hb hp
        go_simp
        exact hK _ _ (Below.refl _ _) ⟨A21, n21, c21, rfl, h21⟩
      · -- 5: Op.extract (Operand.tmp 17) 0
        refine AnyO.Step.mk rfl [4] (by kernel_rfl) ?_
        intro vs u hE hp ac hb K hK
        obtain ⟨A17, n17, c17, e17, h17⟩ := hp 4 (by decide)
        have s17 : ac.tmps[17]?.getD undef = .tuple #[.slice A17 n17 c17, .int .i64 (no)] := by rw [hb]; exact (show _ = vs 4 by kernel_rfl).trans e17
        clear e17
        rw [if_pos (AnyO.wanted_none rfl)]
        clear hb hp
        go_simp
        exact hK _ _ (Below.refl _ _) ⟨_, _, _, rfl, h17⟩
      · -- 6: Op.extract (Operand.tmp 17) 1
        refine AnyO.Step.mk rfl [4] (by kernel_rfl) ?_
        intro vs u hE hp ac hb K hK
        obtain ⟨A17, n17, c17, e17, h17⟩ := hp 4 (by decide)
        have s17 : ac.tmps[17]?.getD undef = .tuple #[.slice A17 n17 c17, .int .i64 (no)] := by rw [hb]; exact (show _ = vs 4 by kernel_rfl).trans e17
        clear e17
        rw [if_pos (AnyO.wanted_none rfl)]
        clear hb hp
        go_simp
        exact hK _ _ (Below.refl _ _) rfl
      · -- 7: Op.assign (Operand.tmp 22)
        refine AnyO.Step.mk rfl [5, 3, 0, 1, 2, 3, 4, 5] (by kernel_rfl) ?_
        intro vs u hE hp ac hb K hK
        obtain ⟨A22, n22, c22, e22, h22⟩ := hp 5 (by decide)
        have s22 : ac.tmps[22]?.getD undef = .slice A22 n22 c22 := by rw [hb]; exact (show _ = vs 5 by kernel_rfl).trans e22
        clear e22
        rw [if_pos (AnyO.wanted_none rfl)]
        clear hb hp
        go_simp
        exact hK _ _ (Below.refl _ _) ⟨A22, n22, c22, rfl, h22⟩
      · -- 8: Op.assign (Operand.tmp 23)
        refine AnyO.Step.mk rfl [6, 7, 0, 1, 2, 3, 4, 5, 6, 7] (by kernel_rfl) ?_
        intro vs u hE hp ac hb K hK
        have s23 : ac.tmps[23]?.getD undef = .int .i64 no := by rw [hb]; exact (show _ = vs 6 by kernel_rfl).trans (hp 6 (by decide))
        rw [if_pos (AnyO.wanted_none rfl)]
        clear hb hp
        go_simp
        exact hK _ _ (Below.refl _ _) rfl
    · intro vs u hE hp
      have e0 : vs 0 = .slice A xs.length c := hp 0 (by decide)
      obtain ⟨A_1, n_1, c_1, e1, h_1⟩ := show isSl (xs) (vs 1) u from hp 1 (by decide)
      have e2 : vs 2 = vI p := hp 2 (by decide)
      obtain ⟨A_3, n_3, c_3, e3, h_3⟩ := show isSlE (r) (no) (vs 3) u from hp 3 (by decide)
      obtain ⟨A_4, n_4, c_4, e4, h_4⟩ := show isSlE (r) (no) (vs 4) u from hp 4 (by decide)
      obtain ⟨A_5, n_5, c_5, e5, h_5⟩ := show isSl (r) (vs 5) u from hp 5 (by decide)
      have e6 : vs 6 = .int .i64 no := hp 6 (by decide)
      obtain ⟨A_7, n_7, c_7, e7, h_7⟩ := show isSl (r) (vs 7) u from hp 7 (by decide)
      have e8 : vs 8 = .int .i64 no := hp 8 (by decide)
      clear hp
      obtain ⟨q1, q2⟩ := LD.out u ⟨hE.os, hE.tape, hE.output, hE.size, hE.block⟩
      have F1 := Lib.hid (show SlF u A_7 n_7 c_7 r from h_7)
      replace HB := Lib.hid (Below.step HB.out hE)
      clear h_1 h_3 h_4 h_5 h_7 hE
      rw [puts_range [some 18, some 19, some 20, some 21, some 17, some 22, some 23, some 5, some 6] (by kernel_rfl)]
      simp only [putL, Nat.reduceAdd, e0, e1, e2, e3, e4, e5, e6, e7, e8]
      clear e0 e1 e2 e3 e4 e5 e6 e7 e8
      go_wp2_with (first
        | (go_at_call 27; have hh := T0; clear hh; refine (reply27b A c xs.length p xs r no _ HE.out rfl (HX.out.1.keep HB.out) HX.out.2.1 (by have := HX.out.2.2; omega)).mono ?_; rintro e w1 ⟨AF2, nF2, cF2, rfl, hl1, hc1, hb1, ho1⟩; have F2 := Lib.hid (And.intro hl1 (And.intro hc1 ho1)); clear hl1 hc1 ho1; replace F1 := SlF.carry F1 hb1; replace HB := Lib.hid (Below.step HB.out hb1); clear hb1 T0; have T1 := Lib.hid trivial)
        | (go_at_call 16; have hh := T1; clear hh; refine (same16t _ _ _ _ _ _ _ _ F1.out.1 F2.out.1 F1.out.2.2 F2.out.2.2 HR.out).mono ?_; rintro e w1 ⟨rfl, hb1⟩; clear F1; clear F2; replace HB := Lib.hid (Below.step HB.out hb1); clear hb1 T1; have T2 := Lib.hid trivial))
      go_ret
      exact ⟨rfl, HB.out⟩
end Go.Proofs.Ytcchpenaiomeeaa
