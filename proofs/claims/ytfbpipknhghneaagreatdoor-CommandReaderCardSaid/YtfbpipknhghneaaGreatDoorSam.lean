/- sameAll: equal lists are found equal. -/
import Derived.Test.YtfbpipknhghneaaGreatDoorAll
namespace Go.Proofs.YtfbpipknhghneaaGreatDoor
open Go.RowKit
theorem cm_at {w : World} {A : Option Addr} {xs : List Cm} (h : Sl w cC A xs) {k : Nat} (hk : k < xs.length) : ∃ ad, A = some ad ∧ ∀ u, Below w.heap.size w u → okA u (ad.add (k * 39)) 39 = true ∧ rdA u (ad.add (k * 39)) 39 = vC xs[k] := by
  obtain ⟨ad, rfl, hat⟩ := Sl.at_ cC_length h hk
  refine ⟨ad, rfl, fun u hu => ?_⟩
  have h3 := hat.keep hu
  have h4 := h3.ok
  have h5 := h3.rd
  rw [cC_length] at h4 h5
  exact ⟨h4, h5⟩
set_option maxRecDepth 100000 in
set_option maxHeartbeats 3200000 in
theorem sameAll10 (A0 A1 : Option Addr) (cap0 cap1 : Nat) (xs : List Cm) (w : World) (h0 : Sl w cC A0 xs) (h1 : Sl w cC A1 xs) (hn : xs.length ≤ 1000000) :
    Calls Tryz.prog 10 #[.slice A0 xs.length cap0, .slice A1 xs.length cap1] w fun e w' => e = .returned (.bool true) ∧ Below w.heap.size w w' := by
  obtain ⟨n, hnn⟩ : ∃ n, xs.length = n := ⟨_, rfl⟩
  rw [hnn]
  have HS := Lib.hid (And.intro h0 h1)
  clear h0 h1
  go_enter Tryz.func10, Tryz.ntmps10
  go_wp2
  go_loopw [5] (fun i wr => ∃ k : Nat, i = .int .i64 k ∧ k ≤ n ∧ Below w.heap.size w wr) (fun i _ => n + 1 - (intOf i).toNat)
  case atStart => exact ⟨0, rfl, Nat.zero_le _, Below.refl _ _⟩
  case round =>
    obtain ⟨k, rfl, hk, hb⟩ := hrel
    by_cases hlt : k < n
    · have hlt1 : (k : Int) < (n : Int) := by omega
      obtain ⟨a0, rfl, x0⟩ := cm_at (HS.out.1.keep hb) (show k < xs.length by omega)
      obtain ⟨a1, rfl, x1⟩ := cm_at (HS.out.2.keep hb) (show k < xs.length by omega)
      obtain ⟨c, hc⟩ : ∃ c, xs[k]'(by omega) = c := ⟨_, rfl⟩
      rw [hc] at x0 x1
      have HX := Lib.hid (And.intro x0 x1)
      have HB := Lib.hid hb
      clear x0 x1 hb hc
      go_wp2
      refine AnyO.wp_any (by kernel_rfl) (by kernel_rfl) (pstP [isV (.slice (some a0) n cap0), isV (.int .i64 k), isV (.pointer (some (a0.add (k * 39)))), isV (vC c), isV (.slice (some a1) n cap1), isV (.int .i64 k), isV (.pointer (some (a1.add (k * 39)))), isV (vC c), isV (vC c), isV (.bool false)]) (MonoL.cons (Mono.v _) (MonoL.cons (Mono.v _) (MonoL.cons (Mono.v _) (MonoL.cons (Mono.v _) (MonoL.cons (Mono.v _) (MonoL.cons (Mono.v _) (MonoL.cons (Mono.v _) (MonoL.cons (Mono.v _) (MonoL.cons (Mono.v _) (MonoL.cons (Mono.v _) MonoL.nil)))))))))) ?_ ?_
      · intro i hi
        have hi2 : i = 0 ∨ i = 1 ∨ i = 2 ∨ i = 3 ∨ i = 4 ∨ i = 5 ∨ i = 6 ∨ i = 7 ∨ i = 8 ∨ i = 9 := by simp only [List.size_toArray, List.length_cons, List.length_nil] at hi; omega
        clear hi
        rcases hi2 with rfl | rfl | rfl | rfl | rfl | rfl | rfl | rfl | rfl | rfl
        · -- 0: Op.move (Operand.tmp 0)
          refine AnyO.Step.mk rfl [] (by kernel_rfl) ?_
          intro vs u hE hp ac hb K hK
          have s0 : ac.tmps[0]?.getD undef = .slice (some a0) n cap0 := by rw [hb]; kernel_rfl
          rw [if_pos (AnyO.wanted_none rfl)]
          clear hb hp
          go_simp
          exact hK _ _ (Below.refl _ _) rfl
        · -- 1: Op.move (Operand.tmp 5)
          refine AnyO.Step.mk rfl [] (by kernel_rfl) ?_
          intro vs u hE hp ac hb K hK
          have s5 : ac.tmps[5]?.getD undef = .int .i64 k := by rw [hb]; kernel_rfl
          rw [if_pos (AnyO.wanted_none rfl)]
          clear hb hp
          go_simp
          exact hK _ _ (Below.refl _ _) rfl
        · -- 2: Op.indexAddr 26 (Operand.tmp 17) (Operand.tmp 18)
          refine AnyO.Step.mk rfl [0, 1] (by kernel_rfl) ?_
          intro vs u hE hp ac hb K hK
          have s17 : ac.tmps[17]?.getD undef = .slice (some a0) n cap0 := by rw [hb]; exact (show _ = vs 0 by kernel_rfl).trans (hp 0 (by decide))
          have s18 : ac.tmps[18]?.getD undef = .int .i64 k := by rw [hb]; exact (show _ = vs 1 by kernel_rfl).trans (hp 1 (by decide))
          rw [if_pos (AnyO.wanted_none rfl)]
          clear hb hp
          go_simp
          exact hK _ _ (Below.refl _ _) rfl
        · -- 3: Op.load 39 (Operand.tmp 19)
          refine AnyO.Step.mk rfl [2] (by kernel_rfl) ?_
          intro vs u hE hp ac hb K hK
          have s19 : ac.tmps[19]?.getD undef = .pointer (some (a0.add (k * 39))) := by rw [hb]; exact (show _ = vs 2 by kernel_rfl).trans (hp 2 (by decide))
          rw [if_pos (AnyO.wanted_none rfl)]
          clear hb hp
          have rr1 := (HX.out.1 _ (Below.step (below_drew _) hE)).1
          have rr2 := (HX.out.1 _ (Below.step (below_drew _) hE)).2
          go_simp
          exact hK _ _ (Below.refl _ _) rfl
        · -- 4: Op.move (Operand.tmp 1)
          refine AnyO.Step.mk rfl [] (by kernel_rfl) ?_
          intro vs u hE hp ac hb K hK
          have s1 : ac.tmps[1]?.getD undef = .slice (some a1) n cap1 := by rw [hb]; kernel_rfl
          rw [if_pos (AnyO.wanted_none rfl)]
          clear hb hp
          go_simp
          exact hK _ _ (Below.refl _ _) rfl
        · -- 5: Op.move (Operand.tmp 5)
          refine AnyO.Step.mk rfl [] (by kernel_rfl) ?_
          intro vs u hE hp ac hb K hK
          have s5 : ac.tmps[5]?.getD undef = .int .i64 k := by rw [hb]; kernel_rfl
          rw [if_pos (AnyO.wanted_none rfl)]
          clear hb hp
          go_simp
          exact hK _ _ (Below.refl _ _) rfl
        · -- 6: Op.indexAddr 32 (Operand.tmp 21) (Operand.tmp 22)
          refine AnyO.Step.mk rfl [4, 5] (by kernel_rfl) ?_
          intro vs u hE hp ac hb K hK
          have s21 : ac.tmps[21]?.getD undef = .slice (some a1) n cap1 := by rw [hb]; exact (show _ = vs 4 by kernel_rfl).trans (hp 4 (by decide))
          have s22 : ac.tmps[22]?.getD undef = .int .i64 k := by rw [hb]; exact (show _ = vs 5 by kernel_rfl).trans (hp 5 (by decide))
          rw [if_pos (AnyO.wanted_none rfl)]
          clear hb hp
          go_simp
          exact hK _ _ (Below.refl _ _) rfl
        · -- 7: Op.load 49 (Operand.tmp 23)
          refine AnyO.Step.mk rfl [6] (by kernel_rfl) ?_
          intro vs u hE hp ac hb K hK
          have s23 : ac.tmps[23]?.getD undef = .pointer (some (a1.add (k * 39))) := by rw [hb]; exact (show _ = vs 6 by kernel_rfl).trans (hp 6 (by decide))
          rw [if_pos (AnyO.wanted_none rfl)]
          clear hb hp
          have rr1 := (HX.out.2 _ (Below.step (below_drew _) hE)).1
          have rr2 := (HX.out.2 _ (Below.step (below_drew _) hE)).2
          go_simp
          exact hK _ _ (Below.refl _ _) rfl
        · -- 8: Op.call { callee := Callee.value (Operand.func 16), args := 
          refine AnyO.Step.mk rfl [7] (by kernel_rfl) ?_
          intro vs u hE hp ac hb K hK
          have s24 : ac.tmps[24]?.getD undef = vC c := by rw [hb]; exact (show _ = vs 7 by kernel_rfl).trans (hp 7 (by decide))
          rw [if_pos (AnyO.wanted_none rfl)]
          clear hb hp
          go_simp
          go_at_call 16
          refine (own14 c u).mono ?_
          rintro e w2 ⟨rfl, hb2⟩
          exact hK _ _ hb2 rfl
        · -- 9: Op.binOp BinOp.neq 39 (Operand.tmp 20) (Operand.tmp 25) 39
          refine AnyO.Step.mk rfl [3, 8] (by kernel_rfl) ?_
          intro vs u hE hp ac hb K hK
          have s20 : ac.tmps[20]?.getD undef = vC c := by rw [hb]; exact (show _ = vs 3 by kernel_rfl).trans (hp 3 (by decide))
          have s25 : ac.tmps[25]?.getD undef = vC c := by rw [hb]; exact (show _ = vs 8 by kernel_rfl).trans (hp 8 (by decide))
          rw [if_pos (AnyO.wanted_none rfl)]
          clear hb hp
          go_simp
          exact hK _ _ (Below.refl _ _) rfl
      · intro vs u hE hp
        have e0 : vs 0 = .slice (some a0) n cap0 := hp 0 (by decide)
        have e1 : vs 1 = .int .i64 k := hp 1 (by decide)
        have e2 : vs 2 = .pointer (some (a0.add (k * 39))) := hp 2 (by decide)
        have e3 : vs 3 = vC c := hp 3 (by decide)
        have e4 : vs 4 = .slice (some a1) n cap1 := hp 4 (by decide)
        have e5 : vs 5 = .int .i64 k := hp 5 (by decide)
        have e6 : vs 6 = .pointer (some (a1.add (k * 39))) := hp 6 (by decide)
        have e7 : vs 7 = vC c := hp 7 (by decide)
        have e8 : vs 8 = vC c := hp 8 (by decide)
        have e9 : vs 9 = .bool false := hp 9 (by decide)
        clear hp
        have HE := Lib.hid hE
        clear hE
        rw [puts_range [some 17, some 18, some 19, some 20, some 21, some 22, some 23, some 24, some 25, some 26] (by kernel_rfl)]
        simp only [putL, Nat.reduceAdd, e0, e1, e2, e3, e4, e5, e6, e7, e8, e9]
        clear e0 e1 e2 e3 e4 e5 e6 e7 e8 e9
        go_simp
        go_wp2
        go_roundw
        case rel => exact ⟨k + 1, by go_num, by omega, Below.step HB.out HE.out⟩
        case measure => simp [intOf] <;> omega
    · have hlt1 : ¬ (k : Int) < (n : Int) := by omega
      have HB := Lib.hid hb
      clear hb
      go_wp2
      go_ret
      exact ⟨rfl, HB.out⟩
end Go.Proofs.YtfbpipknhghneaaGreatDoor
