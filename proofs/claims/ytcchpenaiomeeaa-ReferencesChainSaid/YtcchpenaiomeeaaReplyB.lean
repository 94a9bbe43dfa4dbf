/- Reply of the reference of package references: the list of an answer, or the number of the error. -/
import Derived.Test.YtcchpenaiomeeaaReply
import Derived.Test.YtcchpenaiomeeaaPst
namespace Go.Proofs.Ytcchpenaiomeeaa
open Go.RowKit
theorem ev_tmp {a : Act} {t : Nat} {v : Value} (h : a.tmps[t]?.getD undef = v) : a.eval (.tmp t) = v := by simpa [Act.eval] using h
theorem Below.undrew {w u : World} (h : Below w.drew.heap.size w.drew u) : Below w.heap.size w u := ⟨h.os, h.tape, h.output, h.size, h.block⟩
theorem cut33b (A : Option Addr) (c n most : Nat) (xs : List Id) (w : World) (hl : xs.length = n) (hx : Sl w cI A xs) (hc : n ≤ c) (hn : xs.length * 32 ≤ 140737488355328) (hm : 1 ≤ most) (hm2 : most ≤ 4294967296) :
    Calls Try.prog 33 #[.slice A n c, .int .i64 (most : Int)] w (Out w (trimL xs most)) := by
  subst hl
  exact cut33 A c most xs w hx hc hn hm hm2
set_option maxRecDepth 100000 in
set_option maxHeartbeats 1600000 in
theorem reply27 (A : Option Addr) (c n : Nat) (p : Id) (xs : List Id) (w : World) (hl : xs.length = n) (hx : Sl w cI A xs) (hc : n ≤ c) (hm : xs.length ≤ 1000) :
    Calls Try.prog 27 #[.slice A n c, vI p] w (OutE w (replyE xs p).1 (replyE xs p).2) := by
  have HB := Lib.hid (below_alloc w (.cells (aI p) 38))
  have HA := Lib.hid (at_new w (cI p) 38 w.heap.size rfl)
  have HX := Lib.hid (And.intro hl (And.intro hx (And.intro hc hm)))
  clear hx hm hc
  by_cases h1 : chk xs = 0
  · have q1 : (chk xs != 0) = false := by simp [h1]
    by_cases h2 : p = zI
    · have e : replyE xs p = ([], 1) := by unfold replyE; rw [if_neg (by simp [h1]), if_pos h2]
      have q2 : decide (p = zI) = true := by simp [h2]
      rw [e]
      clear e h1 h2 hl
      go_enter Try.func27, Try.ntmps27
      go_wp2_with (go_at_call 37; refine (check37 _ _ _ xs _ HX.out.1 HX.out.2.2.1 (HX.out.2.1.keep HB.out)).mono ?_; rintro e w1 ⟨rfl, hb1⟩; have hok2 := (HA.out.keep hb1).ok; have hrd2 := (HA.out.keep hb1).rd; rw [cI_length] at hok2 hrd2; replace HA := Lib.hid (HA.out.keep hb1); replace HB := Lib.hid (Below.step HB.out hb1); clear hb1)
      go_ret2
      exact OutE.none HB.out
    · have q2 : decide (p = zI) = false := by simp [h2]
      by_cases h3 : p ∈ xs
      · have e : replyE xs p = ([], 7) := by unfold replyE; rw [if_neg (by simp [h1]), if_neg h2, if_pos h3]
        have q3 : decide (p ∈ xs) = true := by simp [h3]
        rw [e]
        clear e h1 h2 h3 hl
        go_enter Try.func27, Try.ntmps27
        go_wp2_with (first
          | (go_at_call 37; refine (check37 _ _ _ xs _ HX.out.1 HX.out.2.2.1 (HX.out.2.1.keep HB.out)).mono ?_; rintro e w1 ⟨rfl, hb1⟩; have hok2 := (HA.out.keep hb1).ok; have hrd2 := (HA.out.keep hb1).rd; rw [cI_length] at hok2 hrd2; replace HA := Lib.hid (HA.out.keep hb1); replace HB := Lib.hid (Below.step HB.out hb1); clear hb1)
          | (go_at_call 44; refine (has44 _ _ _ p xs _ HX.out.1 (HX.out.2.1.keep HB.out) (by have := HX.out.2.2.2; omega)).mono ?_; rintro e W ⟨rfl, hb1⟩; clear hok2 hrd2; have hok2 := (HA.out.keep hb1).ok; have hrd2 := (HA.out.keep hb1).rd; rw [cI_length] at hok2 hrd2; replace HA := Lib.hid (HA.out.keep hb1); replace HB := Lib.hid (Below.step HB.out hb1); clear hb1))
        go_ret2
        exact OutE.none HB.out
      · have e : replyE xs p = (trimL (xs ++ [p]) 20, 0) := by unfold replyE; rw [if_neg (by simp [h1]), if_neg h2, if_neg h3]
        have q3 : decide (p ∈ xs) = false := by simp [h3]
        rw [e]
        clear e h1 h2 h3 hl
        go_enter Try.func27, Try.ntmps27
        go_wp2_with (first
          | (go_at_call 37; refine (check37 _ _ _ xs _ HX.out.1 HX.out.2.2.1 (HX.out.2.1.keep HB.out)).mono ?_; rintro e w1 ⟨rfl, hb1⟩; have hok2 := (HA.out.keep hb1).ok; have hrd2 := (HA.out.keep hb1).rd; rw [cI_length] at hok2 hrd2; replace HA := Lib.hid (HA.out.keep hb1); replace HB := Lib.hid (Below.step HB.out hb1); clear hb1)
          | (go_at_call 44; refine (has44 _ _ _ p xs _ HX.out.1 (HX.out.2.1.keep HB.out) (by have := HX.out.2.2.2; omega)).mono ?_; rintro e W ⟨rfl, hb1⟩; clear hok2 hrd2; have hok2 := (HA.out.keep hb1).ok; have hrd2 := (HA.out.keep hb1).rd; rw [cI_length] at hok2 hrd2; replace HA := Lib.hid (HA.out.keep hb1); replace HB := Lib.hid (Below.step HB.out hb1); clear hb1))
        have LD : ∀ u, Below W.drew.heap.size W.drew u → okA u ⟨w.heap.size, 0, none⟩ 32 = true ∧ rdA u ⟨w.heap.size, 0, none⟩ 32 = vI p := by
          intro u hb
          have h := HA.out.keep (w' := u) ⟨hb.os, hb.tape, hb.output, hb.size, hb.block⟩
          exact ⟨by have := h.ok; rwa [cI_length] at this, by have := h.rd; rwa [cI_length] at this⟩
        replace LD := Lib.hid LD
        clear hok2 hrd2
        refine AnyO.wp_any_tail 5 (by kernel_rfl) (by kernel_rfl) (by kernel_rfl) (by kernel_rfl) (by kernel_rfl) (by kernel_rfl) (pstP [isOwn0 (W.heap.size) 38, isV (.slice A n c), isOwn (W.heap.size) 38 (xs), isV (vI p), isSl ([p])]) (MonoL.cons (Mono.own0 _ _) (MonoL.cons (Mono.v _) (MonoL.cons (Mono.own _ _ _) (MonoL.cons (Mono.v _) (MonoL.cons (Mono.sl _) MonoL.nil))))) ?_ ?_
        · intro i hi
          have hi2 : i = 0 ∨ i = 1 ∨ i = 2 ∨ i = 3 ∨ i = 4 := by omega
          clear hi
          rcases hi2 with rfl | rfl | rfl | rfl | rfl
          · -- 0: Op.buildSlice 22 0 #[]
            refine AnyO.Step.mk rfl [] (by kernel_rfl) ?_
            intro vs u hE hp ac hb K hK
            rw [if_pos (AnyO.wanted_none rfl)]
            clear hb hp
            go_simp
            exact hK _ _ (below_alloc _ _) ⟨_, rfl, Own.newI u W.heap.size 38 [] hE.size (by simp)⟩
          · -- 1: Op.move (Operand.tmp 0)
            refine AnyO.Step.mk rfl [] (by kernel_rfl) ?_
            intro vs u hE hp ac hb K hK
            have s0 : ac.tmps[0]?.getD undef = .slice A n c := by rw [hb]; kernel_rfl
            rw [if_pos (AnyO.wanted_none rfl)]
            clear hb hp
            go_simp
            exact hK _ _ (Below.refl _ _) rfl
          · -- 2: Op.call { callee := Callee.builtin Builtin.append, args := #
            refine AnyO.Step.mk rfl [0, 1] (by kernel_rfl) ?_
            intro vs u hE hp ac hb K hK
            obtain ⟨g18, e18, h18⟩ := hp 0 (by decide)
            have s18 : ac.tmps[18]?.getD undef = .slice (some ⟨g18, 0, none⟩) 0 0 := by rw [hb]; exact (show _ = vs 0 by kernel_rfl).trans e18
            clear e18
            have s19 : ac.tmps[19]?.getD undef = .slice A n c := by rw [hb]; exact (show _ = vs 1 by kernel_rfl).trans (hp 1 (by decide))
            rw [if_pos (AnyO.wanted_none rfl)]
            clear hb hp
            refine wp_append_fresh u (.tmp 18) (.tmp 19) 22 rfl W.heap.size 38 32 32 cI under22 row38 (by decide) cI_length g18 (ev_tmp s18) h18 A n c xs HX.out.1 (ev_tmp s19) (HX.out.2.1.keep (Below.step HB.out (Below.undrew hE))) (by have := HX.out.1; have := HX.out.2.2.2; omega) (by have := HX.out.1; have := HX.out.2.2.2; omega) hE.size ?_
            exact fun v w2 h1 h2 => hK _ _ h2 h1
          · -- 3: Op.load 38 (Operand.tmp 3)
            refine AnyO.Step.mk rfl [] (by kernel_rfl) ?_
            intro vs u hE hp ac hb K hK
            have s3 : ac.tmps[3]?.getD undef = .pointer (some ⟨w.heap.size, 0, none⟩) := by rw [hb]; kernel_rfl
            rw [if_pos (AnyO.wanted_none rfl)]
            clear hb hp
            obtain ⟨q1, q2⟩ := LD.out u hE
            go_simp
            exact hK _ _ (Below.refl _ _) rfl
          · -- 4: Op.buildSlice 22 1 #[(0, Operand.tmp 21)]
            refine AnyO.Step.mk rfl [3] (by kernel_rfl) ?_
            intro vs u hE hp ac hb K hK
            have s21 : ac.tmps[21]?.getD undef = vI p := by rw [hb]; exact (show _ = vs 3 by kernel_rfl).trans (hp 3 (by decide))
            rw [if_pos (AnyO.wanted_none rfl)]
            clear hb hp
            go_simp
            exact hK _ _ (below_alloc _ _) ⟨_, _, _, rfl, rfl, Nat.le_refl _, sl_newI _ _ _⟩
        · intro vs u hE hp
          obtain ⟨g_0, e0, h_0⟩ := show isOwn0 (W.heap.size) 38 (vs 0) u from hp 0 (by decide)
          have e1 : vs 1 = .slice A n c := hp 1 (by decide)
          have f2 : isOwn (W.heap.size) 38 (xs) (vs 2) u := hp 2 (by decide)
          have e3 : vs 3 = vI p := hp 3 (by decide)
          obtain ⟨A_4, n_4, c_4, e4, h_4⟩ := show isSl ([p]) (vs 4) u from hp 4 (by decide)
          clear hp
          have HF := Lib.hid (And.intro f2 (And.intro h_4 hE))
          clear f2 h_4 hE
          rw [puts_range [some 18, some 19, some 20, some 21, some 22] (by kernel_rfl)]
          simp only [putL, Nat.reduceAdd, List.drop_succ_cons, List.drop_zero, e0, e1, e3, e4]
          clear e0 e1 e3 e4
          go_wp2_with (first
            | (at_builtin; refine wpList_append_sl u rfl (.tmp 20) (.tmp 22) 22 rfl W.heap.size 38 32 32 cI under22 row38 (by decide) cI_length cI_one (vs 2) xs rfl HF.out.1 A_4 n_4 c_4 [p] HF.out.2.1.1 rfl HF.out.2.1.2.2 (by have := HF.out.2.1.1; have := HX.out.1; have := HX.out.2.2.2; simp at *; omega) (by have := HF.out.2.1.1; have := HX.out.1; have := HX.out.2.2.2; simp at *; omega) HF.out.2.2.size ?_; intro v2 w2 ho hg; have H2 := Lib.hid (And.intro ho (Own.grew HF.out.1 hg HF.out.2.2 (Nat.le_refl _) HF.out.2.2.size)); clear ho hg; obtain ⟨A2, n2, c2, rfl, hl2, hc2, hs2⟩ := H2.out.1.sl'; have H3 := Lib.hid (And.intro hl2 (And.intro hc2 hs2)); clear hl2 hc2 hs2)
            | (go_at_call 33; refine (cut33b _ _ _ 20 (xs ++ [p]) _ H3.out.1 H3.out.2.2 H3.out.2.1 (by have := HX.out.1; have := HX.out.2.2.2; simp; omega) (by decide) (by decide)).mono ?_; rintro e w3 ⟨A3, n3, c3, rfl, hl3, hc3, hb3, ho3⟩; have H4 := Lib.hid (And.intro hl3 (And.intro hc3 (And.intro (Below.step (Below.step HB.out H2.out.2) hb3) ho3))); clear hl3 hc3 hb3 ho3))
          go_ret2
          exact ⟨_, _, _, rfl, H4.out⟩
  · have q1 : (chk xs != 0) = true := by simp [h1]
    have e : replyE xs p = ([], chk xs) := by unfold replyE; rw [if_pos h1]
    rw [e]
    clear e h1 hl
    go_enter Try.func27, Try.ntmps27
    go_wp2_with (go_at_call 37; refine (check37 _ _ _ xs _ HX.out.1 HX.out.2.2.1 (HX.out.2.1.keep HB.out)).mono ?_; rintro e w1 ⟨rfl, hb1⟩; have hok2 := (HA.out.keep hb1).ok; have hrd2 := (HA.out.keep hb1).rd; rw [cI_length] at hok2 hrd2; replace HA := Lib.hid (HA.out.keep hb1); replace HB := Lib.hid (Below.step HB.out hb1); clear hb1)
    go_ret2
    exact OutE.none HB.out
end Go.Proofs.Ytcchpenaiomeeaa
