/- The reference's Digits. -/
import Derived.Test.YtnljplnjdbjplaaDoorRefSq
import Derived.Test.YtnljplnjdbjplaaDoorLawHx
namespace Go.Proofs.YtnljplnjdbjplaaDoor
open Go.RowKit
/-- A digit as a byte; a number in decimal as a string. -/
def dgB (x : Nat) : UInt8 := UInt8.ofNat (48 + x)
def decS (u : Nat) : ByteArray := mkS (Lib.decDigits u)
theorem dgB_toNat (x : Nat) (h : x < 10) : (dgB x).toNat = 48 + x := by unfold dgB; rw [UInt8.toNat_ofNat']; omega
theorem dec_len : ∀ (k u : Nat), u < 10 ^ (k + 1) → (Lib.decDigits u).length ≤ k + 1
  | 0, u, h => by rw [Lib.decDigits, dif_pos (by simpa using h)]; simp
  | k + 1, u, h => by
    rw [Lib.decDigits]
    split
    · simp
    · have := dec_len k (u / 10) (by rw [Nat.pow_succ] at h; omega)
      rw [List.length_append, List.length_singleton]
      omega
theorem decS_size (u : Nat) (h : u < 18446744073709551616) : (decS u).size ≤ 20 := by
  rw [← bl_length, decS, bl_mkS]
  exact dec_len 19 u (by omega)
theorem decS_small (u : Nat) (h : u < 10) : decS u = mkS [dgB u] := by unfold decS; rw [Lib.decDigits, dif_pos h]; rfl
theorem decS_step (u : Nat) (h : ¬ u < 10) : decS (u / 10) ++ mkS [dgB (u % 10)] = decS u := by
  conv => rhs; unfold decS; rw [Lib.decDigits, dif_neg h]
  unfold decS mkS
  rw [mk_append]
  rfl
set_option maxRecDepth 100000 in
set_option maxHeartbeats 1600000 in
theorem plain56_small (u : Nat) (hu : u < 10) (w : World) : Calls Tryd.prog 56 #[.int .u64 (u : Int)] w fun e w' => e = .returned (.string (decS u)) ∧ Below w.heap.size w w' := by
  rw [decS_small u hu]
  have h1 : (u : Int) < 10 := by omega
  have h2 : IntKind.u64.wrap (48 + (u : Int)) = 48 + (u : Int) := by simp [IntKind.wrap, IntKind.bits, IntKind.signed]; omega
  have h3 : IntKind.u8.wrap (48 + (u : Int)) = ((dgB u).toNat : Int) := by rw [dgB_toNat u hu]; simp [IntKind.wrap, IntKind.bits, IntKind.signed]; omega
  have h4 : (convert 39 9 (.slice (some ⟨w.heap.size, 0, none⟩) 1 1)).run Tryd.prog (w.alloc (.cells #[.int .u8 ((dgB u).toNat : Int)] 5)) = .ok (.string (mkS [dgB u])) (w.alloc (.cells #[.int .u8 ((dgB u).toNat : Int)] 5)) := conv_keep (c := 1) (sl_newBs w [dgB u]) rfl (Below.refl _ _)
  go_enter Tryd.func56, Tryd.ntmps56
  go_wp2
  go_ret
  exact ⟨rfl, below_alloc _ _⟩
set_option maxRecDepth 100000 in
set_option maxHeartbeats 1600000 in
theorem plain56_step (un : Nat) (hu : ¬ un < 10) (h64 : un < 18446744073709551616) (ih : ∀ q, q < un → ∀ w, Calls Tryd.prog 56 #[.int .u64 (q : Int)] w fun e w' => e = .returned (.string (decS q)) ∧ Below w.heap.size w w') (w : World) :
    Calls Tryd.prog 56 #[.int .u64 (un : Int)] w fun e w' => e = .returned (.string (decS un)) ∧ Below w.heap.size w w' := by
  obtain ⟨q, hq⟩ : ∃ q, un / 10 = q := ⟨_, rfl⟩
  obtain ⟨x, hx⟩ : ∃ x, un % 10 = x := ⟨_, rfl⟩
  have HD := Lib.hid (show decS q ++ mkS [dgB x] = decS un by rw [← hq, ← hx]; exact decS_step un hu)
  have HZ := Lib.hid (show (decS q).size + (mkS [dgB x]).size ≤ 40 by
    have h1 := decS_size q (by omega)
    have h2 : (mkS [dgB x]).size = 1 := rfl
    omega)
  have HI := Lib.hid ih
  have HA := Lib.hid (And.intro (show (un : Int) / 10 = (q : Int) by omega) (And.intro (show IntKind.u64.wrap (q : Int) = (q : Int) by simp [IntKind.wrap, IntKind.bits, IntKind.signed]; omega) (And.intro (show ((un : Int)).tmod 10 = (x : Int) by rw [Int.tmod_eq_emod_of_nonneg (by omega)]; omega) (And.intro (show IntKind.u64.wrap (48 + (x : Int)) = 48 + (x : Int) by simp [IntKind.wrap, IntKind.bits, IntKind.signed]; omega) (And.intro (show IntKind.u8.wrap (48 + (x : Int)) = ((dgB x).toNat : Int) by rw [dgB_toNat x (by omega)]; simp [IntKind.wrap, IntKind.bits, IntKind.signed]; omega) (show q < un by omega))))))
  have h1 : ¬ (un : Int) < 10 := by omega
  clear ih hq hx hu h64
  go_enter Tryd.func56, Tryd.ntmps56
  go_wp2_with fail
  refine AnyO.wp_any_tail 9 (by kernel_rfl) (by kernel_rfl) (by kernel_rfl) (by kernel_rfl) (by kernel_rfl) (by kernel_rfl) (pstP [isV (.int .u64 (un : Int)), isV (.int .u64 (q : Int)), isV (.string (decS q)), isV (.int .u64 (un : Int)), isV (.int .u64 (x : Int)), isV (.int .u64 (48 + (x : Int))), isV (vB (dgB x)), isSlB [dgB x], isV (.string (mkS [dgB x]))]) (MonoL.cons (Mono.v _) (MonoL.cons (Mono.v _) (MonoL.cons (Mono.v _) (MonoL.cons (Mono.v _) (MonoL.cons (Mono.v _) (MonoL.cons (Mono.v _) (MonoL.cons (Mono.v _) (MonoL.cons (Mono.slB _) (MonoL.cons (Mono.v _) MonoL.nil))))))))) ?_ ?_
  · intro i hi
    have hi2 : i = 0 ∨ i = 1 ∨ i = 2 ∨ i = 3 ∨ i = 4 ∨ i = 5 ∨ i = 6 ∨ i = 7 ∨ i = 8 := by omega
    clear hi
    rcases hi2 with rfl | rfl | rfl | rfl | rfl | rfl | rfl | rfl | rfl
    · -- 0: Op.move (Operand.tmp 0)
      refine AnyO.Step.mk rfl [] (by kernel_rfl) ?_
      intro vs u hE hp ac hb K hK
      have s0 : ac.tmps[0]?.getD undef = .int .u64 (un : Int) := by rw [hb]; kernel_rfl
      rw [if_pos (AnyO.wanted_none rfl)]
      clear hb hp
      go_simp
      exact hK _ _ (Below.refl _ _) rfl
    · -- 1: Op.binOp BinOp.quo 52 (Operand.tmp 10) (Operand.const (Value
      refine AnyO.Step.mk rfl [0] (by kernel_rfl) ?_
      intro vs u hE hp ac hb K hK
      have s10 : ac.tmps[10]?.getD undef = .int .u64 (un : Int) := by rw [hb]; exact (show _ = vs 0 by kernel_rfl).trans (hp 0 (by decide))
      rw [if_pos (AnyO.wanted_none rfl)]
      clear hb hp
      have r1 := HA.out.1
      have r2 := HA.out.2.1
      go_simp
      exact hK _ _ (Below.refl _ _) rfl
    · -- 2: Op.call { callee := Callee.value (Operand.func 56), args := 
      refine AnyO.Step.mk rfl [1] (by kernel_rfl) ?_
      intro vs u hE hp ac hb K hK
      have s11 : ac.tmps[11]?.getD undef = .int .u64 (q : Int) := by rw [hb]; exact (show _ = vs 1 by kernel_rfl).trans (hp 1 (by decide))
      rw [if_pos (AnyO.wanted_none rfl)]
      clear hb hp
      go_simp
      go_at_call 56
      refine (HI.out q HA.out.2.2.2.2.2 _).mono ?_
      rintro e w2 ⟨rfl, hb2⟩
      exact hK _ _ hb2 rfl
    · -- 3: Op.move (Operand.tmp 0)
      refine AnyO.Step.mk rfl [] (by kernel_rfl) ?_
      intro vs u hE hp ac hb K hK
      have s0 : ac.tmps[0]?.getD undef = .int .u64 (un : Int) := by rw [hb]; kernel_rfl
      rw [if_pos (AnyO.wanted_none rfl)]
      clear hb hp
      go_simp
      exact hK _ _ (Below.refl _ _) rfl
    · -- 4: Op.binOp BinOp.rem 52 (Operand.tmp 13) (Operand.const (Value
      refine AnyO.Step.mk rfl [3] (by kernel_rfl) ?_
      intro vs u hE hp ac hb K hK
      have s13 : ac.tmps[13]?.getD undef = .int .u64 (un : Int) := by rw [hb]; exact (show _ = vs 3 by kernel_rfl).trans (hp 3 (by decide))
      rw [if_pos (AnyO.wanted_none rfl)]
      clear hb hp
      have r1 := HA.out.2.2.1
      go_simp
      exact hK _ _ (Below.refl _ _) rfl
    · -- 5: Op.binOp BinOp.add 52 (Operand.const (Value.int IntKind.u64 
      refine AnyO.Step.mk rfl [4] (by kernel_rfl) ?_
      intro vs u hE hp ac hb K hK
      have s14 : ac.tmps[14]?.getD undef = .int .u64 (x : Int) := by rw [hb]; exact (show _ = vs 4 by kernel_rfl).trans (hp 4 (by decide))
      rw [if_pos (AnyO.wanted_none rfl)]
      clear hb hp
      have r1 := HA.out.2.2.2.1
      go_simp
      exact hK _ _ (Below.refl _ _) rfl
    · -- 6: Op.convert 52 5 (Operand.tmp 15)
      refine AnyO.Step.mk rfl [5] (by kernel_rfl) ?_
      intro vs u hE hp ac hb K hK
      have s15 : ac.tmps[15]?.getD undef = .int .u64 (48 + (x : Int)) := by rw [hb]; exact (show _ = vs 5 by kernel_rfl).trans (hp 5 (by decide))
      rw [if_pos (AnyO.wanted_none rfl)]
      clear hb hp
      have r1 := HA.out.2.2.2.2.1
      go_simp
      exact hK _ _ (Below.refl _ _) rfl
    · -- 7: Op.buildSlice 39 1 #[(0, Operand.tmp 16)]
      refine AnyO.Step.mk rfl [6] (by kernel_rfl) ?_
      intro vs u hE hp ac hb K hK
      have s16 : ac.tmps[16]?.getD undef = vB (dgB x) := by rw [hb]; exact (show _ = vs 6 by kernel_rfl).trans (hp 6 (by decide))
      rw [if_pos (AnyO.wanted_none rfl)]
      clear hb hp
      go_simp
      exact hK _ _ (below_alloc _ _) ⟨_, _, _, rfl, rfl, Nat.le_refl _, sl_newBs _ [dgB x]⟩
    · -- 8: Op.convert 39 9 (Operand.tmp 17)
      refine AnyO.Step.mk rfl [7] (by kernel_rfl) ?_
      intro vs u hE hp ac hb K hK
      obtain ⟨A17, n17, c17, e17, h17⟩ := hp 7 (by decide)
      have s17 : ac.tmps[17]?.getD undef = .slice A17 n17 c17 := by rw [hb]; exact (show _ = vs 7 by kernel_rfl).trans e17
      clear e17
      rw [if_pos (AnyO.wanted_none rfl)]
      clear hb hp
      have r1 := conv_keep (c := c17) h17.2.2 h17.1 (Below.refl _ _)
      go_simp
      exact hK _ _ (Below.refl _ _) rfl
  · intro vs u hE hp
    have e0 : vs 0 = .int .u64 (un : Int) := hp 0 (by decide)
    have e1 : vs 1 = .int .u64 (q : Int) := hp 1 (by decide)
    have e2 : vs 2 = .string (decS q) := hp 2 (by decide)
    have e3 : vs 3 = .int .u64 (un : Int) := hp 3 (by decide)
    have e4 : vs 4 = .int .u64 (x : Int) := hp 4 (by decide)
    have e5 : vs 5 = .int .u64 (48 + (x : Int)) := hp 5 (by decide)
    have e6 : vs 6 = vB (dgB x) := hp 6 (by decide)
    obtain ⟨A_7, n_7, c_7, e7, h_7⟩ := show isSlB [dgB x] (vs 7) u from hp 7 (by decide)
    have e8 : vs 8 = .string (mkS [dgB x]) := hp 8 (by decide)
    clear hp
    have HE := Lib.hid hE; clear hE
    rw [puts_range [some 10, some 11, some 12, some 13, some 14, some 15, some 16, some 17, some 18] (by kernel_rfl)]
    simp only [putL, Nat.reduceAdd, List.drop_succ_cons, List.drop_zero, e0, e1, e2, e3, e4, e5, e6, e7, e8]
    clear e0 e1 e2 e3 e4 e5 e6 e7 e8
    go_simp
    have hz : ¬ 9223372036854775807 < (decS q).size + (mkS [dgB x]).size := by have := HZ.out; omega
    go_wp2
    go_ret
    refine ⟨?_, HE.out⟩
    rw [← HD.out]
    rfl
theorem plain56 (u : Nat) : u < 18446744073709551616 → ∀ w, Calls Tryd.prog 56 #[.int .u64 (u : Int)] w fun e w' => e = .returned (.string (decS u)) ∧ Below w.heap.size w w' := by
  induction u using Nat.strongRecOn with
  | _ u ih =>
    intro h64 w
    by_cases hu : u < 10
    · exact plain56_small u hu w
    · exact plain56_step u hu h64 (fun q hq w => ih q hq (by omega) w) w
end Go.Proofs.YtnljplnjdbjplaaDoor
