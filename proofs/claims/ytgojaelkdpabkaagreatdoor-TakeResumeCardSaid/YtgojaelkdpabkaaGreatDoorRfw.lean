/- The reference's without. -/
import Derived.Test.YtgojaelkdpabkaaGreatDoorRfd
namespace Go.Proofs.YtgojaelkdpabkaaGreatDoor
open Go.RowKit
/-- Without the element at an index; the list itself below zero. -/
def withoutI (l : List Pt) (i : Int) : List Pt := if i < 0 then l else l.take i.toNat ++ l.drop (i.toNat + 1)
set_option maxRecDepth 100000 in
set_option maxHeartbeats 3200000 in
theorem refWithout73 (A : Option Addr) (c : Nat) (l : List Pt) (i : Int) (w : World) (hl : Sl w cA A l) (hc : l.length ≤ c) (hn : l.length ≤ 1000000) (hi : i < (l.length : Int)) (hi0 : -1 ≤ i) :
    Calls Tryz.prog 73 #[.slice A l.length c, .int .i64 i] w fun e w' => ∃ A' c', e = .returned (.slice A' (withoutI l i).length c') ∧ Own w' w.heap.size 98 35 cA (.slice A' (withoutI l i).length c') (withoutI l i) ∧ Below w.heap.size w w' := by
  obtain ⟨n, hnn⟩ : ∃ n, l.length = n := ⟨_, rfl⟩
  by_cases h0 : i < 0
  · have HWI := Lib.hid (show withoutI l i = l by unfold withoutI; rw [if_pos h0])
    have HL := Lib.hid hl
    rw [hnn]
    clear hl
    go_enter Tryz.func73, Tryz.ntmps73
    go_wp2_with (at_builtin; refine wpList_append_sl _ rfl (.tmp 7) (.tmp 8) 58 rfl w.heap.size 98 35 64 cA underRAs rowRA (by decide) cA_length cA_one _ [] rfl (Own.new0 w w.heap.size _ 35 cA cA_length (Nat.le_refl _)) A n c l hnn rfl (HL.out.keep (below_alloc _ _)) (by simp; omega) (by simp; omega) (below_alloc w (.cells (aAs []) 98)).size ?_)
    intro v2 w2 ho hg
    have hb2 := Own.grew (Own.new0 w w.heap.size 98 35 cA cA_length (Nat.le_refl _)) hg (below_alloc w _) (Nat.le_refl _) (below_alloc w _).size
    obtain ⟨A2, c2, rfl, hc2, hs2⟩ := Own.sl ho
    have HO := Lib.hid (And.intro ho hb2)
    clear ho hb2 hg
    go_wp2
    go_ret
    rw [HWI.out]
    exact ⟨_, _, rfl, HO.out.1, HO.out.2⟩
  · obtain ⟨k, rfl⟩ : ∃ k : Nat, i = (k : Int) := ⟨i.toNat, by omega⟩
    have HE := Lib.hid (show withoutI l (k : Int) = l.take k ++ l.drop (k + 1) by unfold withoutI; rw [if_neg h0, Int.toNat_natCast])
    obtain ⟨ad, rfl, -⟩ := hl (by intro e; subst e; simp at hi; omega)
    have hk : k < n := by omega
    have hkb : k < 1000000 := by omega
    have hcut := Sl.cut cA_length hl (c := c) (k := k + 1) hc
    rw [hnn]
    have htk : (l.take k).length = k := by rw [List.length_take]; omega
    have hkc : (k : Int) ≤ (c : Int) := by omega
    have hkn : (k : Int) + 1 ≤ (n : Int) := by omega
    have hnc : (n : Int) ≤ (c : Int) := by omega
    by_cases hc1 : c = k + 1
    · rw [if_pos hc1] at hcut
      subst hc1
      obtain rfl : n = k + 1 := by omega
      have HL := Lib.hid (And.intro (hl.take k) (And.intro hcut htk))
      have HHL := Lib.hid hl
      clear hl hcut
      go_enter Tryz.func73, Tryz.ntmps73
      go_wp2
      · skip
        refine AnyO.wp_any_tail 9 (by kernel_rfl) (by kernel_rfl) (by kernel_rfl) (by kernel_rfl) (by kernel_rfl) (by kernel_rfl) (pstP [isOwn0G (α := Pt) w.heap.size 98 35 cA, isV (.slice (some ad) (k + 1) (k + 1)), isV (.int .i64 (k : Int)), isV (.slice (some ad) k (k + 1)), isOwnG w.heap.size 98 35 cA (l.take k), isV (.slice (some ad) (k + 1) (k + 1)), isV (.int .i64 (k : Int)), isV (.int .i64 ((k : Int) + 1)), isV (.slice (some ad) 0 0)]) (MonoL.cons (Mono.own0G _ _ _ _) (MonoL.cons (Mono.v _) (MonoL.cons (Mono.v _) (MonoL.cons (Mono.v _) (MonoL.cons (Mono.ownG _ _ _ _ _) (MonoL.cons (Mono.v _) (MonoL.cons (Mono.v _) (MonoL.cons (Mono.v _) (MonoL.cons (Mono.v _) MonoL.nil))))))))) ?_ ?_
        · intro i hi
          have hi2 : i = 4 ∨ i = 0 ∨ i = 1 ∨ i = 2 ∨ i = 3 ∨ i = 5 ∨ i = 6 ∨ i = 7 ∨ i = 8 := by omega
          clear hi
          rcases hi2 with rfl | rfl | rfl | rfl | rfl | rfl | rfl | rfl | rfl
          · refine AnyO.Step.mk rfl [0, 3] (by kernel_rfl) ?_; intro vs u hE hp ac hb K hK
            obtain ⟨g10, e10, h10⟩ := hp 0 (by decide)
            have s10 : ac.tmps[10]?.getD undef = .slice (some ⟨g10, 0, none⟩) 0 0 := by rw [hb]; exact (show _ = vs 0 by kernel_rfl).trans e10
            clear e10
            have s13 := AnyO.slot 13 hb (by kernel_rfl) (hp 3 (by decide))
            rw [if_pos (AnyO.wanted_none rfl)]; clear hb hp
            refine wp_append_fresh u (.tmp 10) (.tmp 13) 58 rfl w.heap.size 98 35 64 cA underRAs rowRA (by decide) cA_length g10 (ev_tmp s10) h10 (some ad) k (k + 1) (l.take k) HL.out.2.2 (ev_tmp s13) (HL.out.1.keep (Below.step (below_drew _) hE)) (by omega) (by omega) hE.size ?_
            exact fun v w2 h1 h2 => hK _ _ h2 h1
          all_goals
            refine AnyO.Step.mk rfl _ rfl ?_; intro vs u hE hp ac hb K hK
            try have s0 : ac.tmps[0]?.getD undef = .slice (some ad) (k + 1) (k + 1) := by rw [hb]; kernel_rfl
            try have s1 : ac.tmps[1]?.getD undef = .int .i64 (k : Int) := by rw [hb]; kernel_rfl
            try have s11 := AnyO.slot 11 hb (by kernel_rfl) (hp 1 (by decide +kernel))
            try have s12 := AnyO.slot 12 hb (by kernel_rfl) (hp 2 (by decide +kernel))
            try have s16 := AnyO.slot 16 hb (by kernel_rfl) (hp 6 (by decide +kernel))
            try have s15 := AnyO.slot 15 hb (by kernel_rfl) (hp 5 (by decide +kernel))
            try have s17 := AnyO.slot 17 hb (by kernel_rfl) (hp 7 (by decide +kernel))
            rw [if_pos (AnyO.wanted_none rfl)]; clear hb hp
            have q1_0 : (k : Int) ≤ ((k + 1) : Int) := by omega
            have q2_1 : IntKind.i64.wrap ((k : Int) + 1) = (k : Int) + 1 := by rw [IntKind.wrap_i64]; omega
            have q3_2 : (k : Int) + 1 ≤ ((k + 1) : Int) := by omega
            go_simp
            first | exact hK _ _ (below_alloc _ _) ⟨_, rfl, Own.new0 u w.heap.size 98 35 cA cA_length hE.size⟩ | exact hK _ _ (Below.refl _ _) rfl
        · intro vs u hE hp
          obtain ⟨g_0, e0, h_0⟩ := show isOwn0G (α := Pt) w.heap.size 98 35 cA (vs 0) u from hp 0 (by decide)
          have e1 : _ = _ := hp 1 (by decide)
          have e2 : _ = _ := hp 2 (by decide)
          have e3 : _ = _ := hp 3 (by decide)
          have f4 : isOwnG w.heap.size 98 35 cA (l.take k) (vs 4) u := hp 4 (by decide)
          have e5 : _ = _ := hp 5 (by decide)
          have e6 : _ = _ := hp 6 (by decide)
          have e7 : _ = _ := hp 7 (by decide)
          have e8 : _ = _ := hp 8 (by decide)
          clear hp
          have HF := Lib.hid (And.intro f4 hE)
          clear f4 hE
          rw [puts_range [some 10, some 11, some 12, some 13, some 14, some 15, some 16, some 17, some 18] (by kernel_rfl)]
          simp only [putL, Nat.reduceAdd, List.drop_succ_cons, List.drop_zero, e0, e1, e2, e3, e5, e6, e7, e8]
          clear e0 e1 e2 e3 e5 e6 e7 e8
          go_simp
          go_wp2_with (at_builtin; refine wpList_append_sl u rfl (.tmp 14) (.tmp 18) 58 rfl w.heap.size 98 35 64 cA underRAs rowRA (by decide) cA_length cA_one (vs 4) (l.take k) rfl HF.out.1 (some ad) 0 0 (l.drop (k + 1)) (by rw [List.length_drop]; omega) rfl (HL.out.2.1.keep HF.out.2) (by rw [HL.out.2.2]; omega) (by rw [HL.out.2.2]; omega) HF.out.2.size ?_)
          intro v2 w2 ho hg
          have hb2 := Own.grew HF.out.1 hg HF.out.2 (Nat.le_refl _) HF.out.2.size
          rw [← HE.out] at ho
          obtain ⟨lz, hlz⟩ : ∃ lz, withoutI l (k : Int) = lz := ⟨_, rfl⟩
          rw [hlz] at ho
          have HLZ := Lib.hid hlz
          clear hlz
          obtain ⟨A2, c2, rfl, hc2, hs2⟩ := Own.sl ho
          have HO := Lib.hid (And.intro ho hb2)
          clear ho hb2 hg hs2 hc2
          go_wp2
          go_ret
          exact ⟨A2, c2, by rw [HLZ.out]; rfl, by rw [HLZ.out]; exact HO.out.1, HO.out.2⟩
    · rw [if_neg hc1] at hcut
      rw [show Option.map (fun x : Addr => x.add ((k + 1) * 35)) (some ad) = some (ad.add ((k + 1) * 35)) from rfl] at hcut
      have HL := Lib.hid (And.intro (hl.take k) (And.intro hcut htk))
      have HHL := Lib.hid hl
      clear hl hcut
      go_enter Tryz.func73, Tryz.ntmps73
      go_wp2
      · skip
        refine AnyO.wp_any_tail 9 (by kernel_rfl) (by kernel_rfl) (by kernel_rfl) (by kernel_rfl) (by kernel_rfl) (by kernel_rfl) (pstP [isOwn0G (α := Pt) w.heap.size 98 35 cA, isV (.slice (some ad) n c), isV (.int .i64 (k : Int)), isV (.slice (some ad) k c), isOwnG w.heap.size 98 35 cA (l.take k), isV (.slice (some ad) n c), isV (.int .i64 (k : Int)), isV (.int .i64 ((k : Int) + 1)), isV (.slice (some (ad.add ((k + 1) * 35))) (n - (k + 1)) (c - (k + 1)))]) (MonoL.cons (Mono.own0G _ _ _ _) (MonoL.cons (Mono.v _) (MonoL.cons (Mono.v _) (MonoL.cons (Mono.v _) (MonoL.cons (Mono.ownG _ _ _ _ _) (MonoL.cons (Mono.v _) (MonoL.cons (Mono.v _) (MonoL.cons (Mono.v _) (MonoL.cons (Mono.v _) MonoL.nil))))))))) ?_ ?_
        · intro i hi
          have hi2 : i = 4 ∨ i = 0 ∨ i = 1 ∨ i = 2 ∨ i = 3 ∨ i = 5 ∨ i = 6 ∨ i = 7 ∨ i = 8 := by omega
          clear hi
          rcases hi2 with rfl | rfl | rfl | rfl | rfl | rfl | rfl | rfl | rfl
          · refine AnyO.Step.mk rfl [0, 3] (by kernel_rfl) ?_; intro vs u hE hp ac hb K hK
            obtain ⟨g10, e10, h10⟩ := hp 0 (by decide)
            have s10 : ac.tmps[10]?.getD undef = .slice (some ⟨g10, 0, none⟩) 0 0 := by rw [hb]; exact (show _ = vs 0 by kernel_rfl).trans e10
            clear e10
            have s13 := AnyO.slot 13 hb (by kernel_rfl) (hp 3 (by decide))
            rw [if_pos (AnyO.wanted_none rfl)]; clear hb hp
            refine wp_append_fresh u (.tmp 10) (.tmp 13) 58 rfl w.heap.size 98 35 64 cA underRAs rowRA (by decide) cA_length g10 (ev_tmp s10) h10 (some ad) k c (l.take k) HL.out.2.2 (ev_tmp s13) (HL.out.1.keep (Below.step (below_drew _) hE)) (by omega) (by omega) hE.size ?_
            exact fun v w2 h1 h2 => hK _ _ h2 h1
          all_goals
            refine AnyO.Step.mk rfl _ rfl ?_; intro vs u hE hp ac hb K hK
            try have s0 : ac.tmps[0]?.getD undef = .slice (some ad) n c := by rw [hb]; kernel_rfl
            try have s1 : ac.tmps[1]?.getD undef = .int .i64 (k : Int) := by rw [hb]; kernel_rfl
            try have s11 := AnyO.slot 11 hb (by kernel_rfl) (hp 1 (by decide +kernel))
            try have s12 := AnyO.slot 12 hb (by kernel_rfl) (hp 2 (by decide +kernel))
            try have s16 := AnyO.slot 16 hb (by kernel_rfl) (hp 6 (by decide +kernel))
            try have s15 := AnyO.slot 15 hb (by kernel_rfl) (hp 5 (by decide +kernel))
            try have s17 := AnyO.slot 17 hb (by kernel_rfl) (hp 7 (by decide +kernel))
            rw [if_pos (AnyO.wanted_none rfl)]; clear hb hp
            have q1_0 : (k : Int) ≤ (c : Int) := by omega
            have q2_1 : IntKind.i64.wrap ((k : Int) + 1) = (k : Int) + 1 := by rw [IntKind.wrap_i64]; omega
            have q3_2 : (k : Int) + 1 ≤ (n : Int) := by omega
            go_simp
            first | exact hK _ _ (below_alloc _ _) ⟨_, rfl, Own.new0 u w.heap.size 98 35 cA cA_length hE.size⟩ | exact hK _ _ (Below.refl _ _) rfl
        · intro vs u hE hp
          obtain ⟨g_0, e0, h_0⟩ := show isOwn0G (α := Pt) w.heap.size 98 35 cA (vs 0) u from hp 0 (by decide)
          have e1 : _ = _ := hp 1 (by decide)
          have e2 : _ = _ := hp 2 (by decide)
          have e3 : _ = _ := hp 3 (by decide)
          have f4 : isOwnG w.heap.size 98 35 cA (l.take k) (vs 4) u := hp 4 (by decide)
          have e5 : _ = _ := hp 5 (by decide)
          have e6 : _ = _ := hp 6 (by decide)
          have e7 : _ = _ := hp 7 (by decide)
          have e8 : _ = _ := hp 8 (by decide)
          clear hp
          have HF := Lib.hid (And.intro f4 hE)
          clear f4 hE
          rw [puts_range [some 10, some 11, some 12, some 13, some 14, some 15, some 16, some 17, some 18] (by kernel_rfl)]
          simp only [putL, Nat.reduceAdd, List.drop_succ_cons, List.drop_zero, e0, e1, e2, e3, e5, e6, e7, e8]
          clear e0 e1 e2 e3 e5 e6 e7 e8
          go_simp
          go_wp2_with (at_builtin; refine wpList_append_sl u rfl (.tmp 14) (.tmp 18) 58 rfl w.heap.size 98 35 64 cA underRAs rowRA (by decide) cA_length cA_one (vs 4) (l.take k) rfl HF.out.1 (some (ad.add ((k + 1) * 35))) (n - (k + 1)) (c - (k + 1)) (l.drop (k + 1)) (by rw [List.length_drop]; omega) rfl (HL.out.2.1.keep HF.out.2) (by rw [HL.out.2.2]; omega) (by rw [HL.out.2.2]; omega) HF.out.2.size ?_)
          intro v2 w2 ho hg
          have hb2 := Own.grew HF.out.1 hg HF.out.2 (Nat.le_refl _) HF.out.2.size
          rw [← HE.out] at ho
          obtain ⟨lz, hlz⟩ : ∃ lz, withoutI l (k : Int) = lz := ⟨_, rfl⟩
          rw [hlz] at ho
          have HLZ := Lib.hid hlz
          clear hlz
          obtain ⟨A2, c2, rfl, hc2, hs2⟩ := Own.sl ho
          have HO := Lib.hid (And.intro ho hb2)
          clear ho hb2 hg hs2 hc2
          go_wp2
          go_ret
          exact ⟨A2, c2, by rw [HLZ.out]; rfl, by rw [HLZ.out]; exact HO.out.1, HO.out.2⟩
end Go.Proofs.YtgojaelkdpabkaaGreatDoor
