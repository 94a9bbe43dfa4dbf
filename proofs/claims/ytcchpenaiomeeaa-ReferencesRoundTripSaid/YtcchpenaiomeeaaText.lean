/- Text of the reference: the text of an identity. -/
import Derived.Test.YtcchpenaiomeeaaDigits
namespace Go.Proofs.Ytcchpenaiomeeaa
open Go.RowKit
/-- A digit as a string. -/
def dS (p : Nat) : ByteArray := ⟨[digC p].toArray⟩
theorem dS_size (p : Nat) : (dS p).size = 1 := rfl
theorem dS_eq (p : Nat) (h : p < 16) : (⟨#[48, 49, 50, 51, 52, 53, 54, 55, 56, 57, 97, 98, 99, 100, 101, 102]⟩ : ByteArray).extract p (p + 1) = dS p := by
  match p, h with
  | 0, _ => rfl
  | 1, _ => rfl
  | 2, _ => rfl
  | 3, _ => rfl
  | 4, _ => rfl
  | 5, _ => rfl
  | 6, _ => rfl
  | 7, _ => rfl
  | 8, _ => rfl
  | 9, _ => rfl
  | 10, _ => rfl
  | 11, _ => rfl
  | 12, _ => rfl
  | 13, _ => rfl
  | 14, _ => rfl
  | 15, _ => rfl
  | n + 16, h => exact absurd h (by omega)
theorem textR_step (x : Id) (k : Nat) (hk : k < 32) (b : UInt8) (hb : x.1[k]'(by rw [x.2]; exact hk) = b) (a : ByteArray) (ha : a = ⟨([60] ++ hexL (x.1.take k)).toArray⟩) :
    a ++ dS (b.toNat / 16) ++ dS (b.toNat % 16) = ⟨([60] ++ hexL (x.1.take (k + 1))).toArray⟩ := by
  subst ha
  unfold dS
  rw [mk_append, mk_append]
  congr 2
  rw [List.take_succ_eq_append_getElem (by rw [x.2]; exact hk), hb]
  unfold hexL
  rw [List.flatMap_append, List.flatMap_singleton]
  simp [hexC]
set_option maxRecDepth 100000 in
set_option maxHeartbeats 1600000 in
theorem text_r (x : Id) (w : World) : Calls Try.prog 51 #[vI x] w fun e w' => e = .returned (.string ⟨(textL x).toArray⟩) ∧ Below w.heap.size w w' := by
  have HB := Lib.hid (And.intro (below_alloc w (.cells (aI x) 38)) (at_new w (cI x) 38 w.heap.size rfl))
  go_enter Try.func51, Try.ntmps51
  go_wp2
  go_loopw [4, 5] (fun t i wr => ∃ (k : Nat) (a : ByteArray), k ≤ 32 ∧ i = .int .i64 k ∧ t = .string a ∧ a = ⟨([60] ++ hexL (x.1.take k)).toArray⟩ ∧ Below w.heap.size w wr ∧ At wr ⟨w.heap.size, 0, none⟩ (cI x)) (fun _ i _ => 32 - (intOf i).toNat)
  case atStart => exact ⟨0, _, Nat.zero_le _, rfl, rfl, rfl, HB.out.1, HB.out.2⟩
  case round =>
    obtain ⟨k, a, hk, rfl, rfl, ha, hb, hat⟩ := hrel
    have HO := Lib.hid (And.intro hb hat)
    have hsz : a.size = 1 + 2 * k := by
      rw [ha]
      refine (Lib.size_eq _).trans ?_
      simp [hexL_length, List.length_take, x.2]
      omega
    by_cases hlt : k < 32
    · obtain ⟨b, hbx⟩ : ∃ b, x.1[k]'(by rw [x.2]; exact hlt) = b := ⟨_, rfl⟩
      obtain ⟨p, hp⟩ : ∃ p, p = b.toNat / 16 := ⟨_, rfl⟩
      obtain ⟨q, hq⟩ : ∃ q, q = b.toNat % 16 := ⟨_, rfl⟩
      have hb8 := b.toNat_lt
      have hw : ∀ z : Int, 0 ≤ z → z < 256 → IntKind.u8.wrap z = z := by intro z h1 h2; simp [IntKind.wrap, IntKind.bits, IntKind.signed]; omega
      have HC := Lib.hid (And.intro (show p < 16 by omega) (And.intro (show q < 16 by omega) (And.intro (And.intro (show IntKind.u8.wrap (p : Int) = (p : Int) from hw _ (by omega) (by omega)) (show (b.toNat : Int) / 16 = (p : Int) by omega)) (And.intro (And.intro (show IntKind.u8.wrap (q : Int) = (q : Int) from hw _ (by omega) (by omega)) (show (b.toNat : Int).tmod 16 = (q : Int) by rw [Int.tmod_eq_emod_of_nonneg (by omega)]; omega)) (And.intro (show IntKind.u8.wrap ((p : Int) + 1) = (p : Int) + 1 from hw _ (by omega) (by omega)) (show IntKind.u8.wrap ((q : Int) + 1) = (q : Int) + 1 from hw _ (by omega) (by omega)))))))
      have HZ := Lib.hid (And.intro (show ¬ 9223372036854775807 < a.size + (dS p).size by rw [dS_size, hsz]; omega) (show ¬ 9223372036854775807 < a.size + (dS p).size + (dS q).size by rw [dS_size, dS_size, hsz]; omega))
      have HX2 := Lib.hid (show a ++ dS p ++ dS q = ⟨([60] ++ hexL (x.1.take (k + 1))).toArray⟩ by rw [hp, hq]; exact textR_step x k hlt b hbx a ha)
      have HCL := Lib.hid (show ∀ u, Below wr.drew.heap.size wr.drew u → u.cell? ⟨w.heap.size, k, none⟩ = some (vB b) by
        intro u hu
        have h := (hat.keep (w' := u) ⟨hu.os, hu.tape, hu.output, hu.size, hu.block⟩).2 k (cB b) (by unfold cI; rw [List.getElem?_map, List.getElem?_eq_getElem (by rw [x.2]; exact hlt), hbx]; rfl)
        rwa [show (⟨w.heap.size, 0, none⟩ : Addr).add k = ⟨w.heap.size, k, none⟩ from by unfold Addr.add; split <;> simp_all] at h)
      clear hb hat hp hq hb8 hbx ha hsz hw
      go_wp2_with fail
      refine AnyO.wp_any_tail 25 (by kernel_rfl) (by kernel_rfl) (by kernel_rfl) (by kernel_rfl) (by kernel_rfl) (by kernel_rfl) (pstP [isV (.string a), isV (.string ⟨#[48, 49, 50, 51, 52, 53, 54, 55, 56, 57, 97, 98, 99, 100, 101, 102]⟩), isV (.int .i64 (k : Int)), isV (.pointer (some ⟨w.heap.size, k, none⟩)), isV (vB b), isV (.int .u8 (p : Int)), isV (.int .i64 (k : Int)), isV (.pointer (some ⟨w.heap.size, k, none⟩)), isV (vB b), isV (.int .u8 (p : Int)), isV (.int .u8 ((p : Int) + 1)), isV (.string (dS p)), isV (.string (a ++ dS p)), isV (.string ⟨#[48, 49, 50, 51, 52, 53, 54, 55, 56, 57, 97, 98, 99, 100, 101, 102]⟩), isV (.int .i64 (k : Int)), isV (.pointer (some ⟨w.heap.size, k, none⟩)), isV (vB b), isV (.int .u8 (q : Int)), isV (.int .i64 (k : Int)), isV (.pointer (some ⟨w.heap.size, k, none⟩)), isV (vB b), isV (.int .u8 (q : Int)), isV (.int .u8 ((q : Int) + 1)), isV (.string (dS q)), isV (.string (a ++ dS p ++ dS q))]) (MonoL.cons (Mono.v _) (MonoL.cons (Mono.v _) (MonoL.cons (Mono.v _) (MonoL.cons (Mono.v _) (MonoL.cons (Mono.v _) (MonoL.cons (Mono.v _) (MonoL.cons (Mono.v _) (MonoL.cons (Mono.v _) (MonoL.cons (Mono.v _) (MonoL.cons (Mono.v _) (MonoL.cons (Mono.v _) (MonoL.cons (Mono.v _) (MonoL.cons (Mono.v _) (MonoL.cons (Mono.v _) (MonoL.cons (Mono.v _) (MonoL.cons (Mono.v _) (MonoL.cons (Mono.v _) (MonoL.cons (Mono.v _) (MonoL.cons (Mono.v _) (MonoL.cons (Mono.v _) (MonoL.cons (Mono.v _) (MonoL.cons (Mono.v _) (MonoL.cons (Mono.v _) (MonoL.cons (Mono.v _) (MonoL.cons (Mono.v _) MonoL.nil))))))))))))))))))))))))) ?_ ?_
      · intro i hi
        have hi2 : i = 0 ∨ i = 1 ∨ i = 2 ∨ i = 3 ∨ i = 4 ∨ i = 5 ∨ i = 6 ∨ i = 7 ∨ i = 8 ∨ i = 9 ∨ i = 10 ∨ i = 11 ∨ i = 12 ∨ i = 13 ∨ i = 14 ∨ i = 15 ∨ i = 16 ∨ i = 17 ∨ i = 18 ∨ i = 19 ∨ i = 20 ∨ i = 21 ∨ i = 22 ∨ i = 23 ∨ i = 24 := by omega
        clear hi
        rcases hi2 with rfl | rfl | rfl | rfl | rfl | rfl | rfl | rfl | rfl | rfl | rfl | rfl | rfl | rfl | rfl | rfl | rfl | rfl | rfl | rfl | rfl | rfl | rfl | rfl | rfl
        · -- 0: Op.move (Operand.tmp 4)
          refine AnyO.Step.mk rfl [] (by kernel_rfl) ?_
          intro vs u hE hp ac hb K hK
          have s4 : ac.tmps[4]?.getD undef = .string a := by rw [hb]; kernel_rfl
          rw [if_pos (AnyO.wanted_none rfl)]
          clear hb hp
          go_simp
          exact hK _ _ (Below.refl _ _) rfl
        · -- 1: Op.move (Operand.tmp 3)
          refine AnyO.Step.mk rfl [] (by kernel_rfl) ?_
          intro vs u hE hp ac hb K hK
          have s3 : ac.tmps[3]?.getD undef = .string ⟨#[48, 49, 50, 51, 52, 53, 54, 55, 56, 57, 97, 98, 99, 100, 101, 102]⟩ := by rw [hb]; kernel_rfl
          rw [if_pos (AnyO.wanted_none rfl)]
          clear hb hp
          go_simp
          exact hK _ _ (Below.refl _ _) rfl
        · -- 2: Op.move (Operand.tmp 5)
          refine AnyO.Step.mk rfl [] (by kernel_rfl) ?_
          intro vs u hE hp ac hb K hK
          have s5 : ac.tmps[5]?.getD undef = .int .i64 (k : Int) := by rw [hb]; kernel_rfl
          rw [if_pos (AnyO.wanted_none rfl)]
          clear hb hp
          go_simp
          exact hK _ _ (Below.refl _ _) rfl
        · -- 3: Op.indexAddr 38 (Operand.tmp 1) (Operand.tmp 12)
          refine AnyO.Step.mk rfl [2] (by kernel_rfl) ?_
          intro vs u hE hp ac hb K hK
          have s1 : ac.tmps[1]?.getD undef = .pointer (some ⟨w.heap.size, 0, none⟩) := by rw [hb]; kernel_rfl
          have s12 : ac.tmps[12]?.getD undef = .int .i64 (k : Int) := by rw [hb]; exact (show _ = vs 2 by kernel_rfl).trans (hp 2 (by decide))
          rw [if_pos (AnyO.wanted_none rfl)]
          clear hb hp
          have hk1 : (k : Int) < 32 := by omega
          go_simp
          exact hK _ _ (Below.refl _ _) rfl
        · -- 4: Op.load 5 (Operand.tmp 13)
          refine AnyO.Step.mk rfl [3] (by kernel_rfl) ?_
          intro vs u hE hp ac hb K hK
          have s13 : ac.tmps[13]?.getD undef = .pointer (some ⟨w.heap.size, k, none⟩) := by rw [hb]; exact (show _ = vs 3 by kernel_rfl).trans (hp 3 (by decide))
          rw [if_pos (AnyO.wanted_none rfl)]
          clear hb hp
          have hc := HCL.out u hE
          go_simp
          exact hK _ _ (Below.refl _ _) rfl
        · -- 5: Op.binOp BinOp.quo 5 (Operand.tmp 14) (Operand.const (Value.
          refine AnyO.Step.mk rfl [4] (by kernel_rfl) ?_
          intro vs u hE hp ac hb K hK
          have s14 : ac.tmps[14]?.getD undef = vB b := by rw [hb]; exact (show _ = vs 4 by kernel_rfl).trans (hp 4 (by decide))
          rw [if_pos (AnyO.wanted_none rfl)]
          clear hb hp
          have r1 := HC.out.2.2.1.1
          have r2 := HC.out.2.2.1.2
          go_simp
          exact hK _ _ (Below.refl _ _) rfl
        · -- 6: Op.move (Operand.tmp 5)
          refine AnyO.Step.mk rfl [] (by kernel_rfl) ?_
          intro vs u hE hp ac hb K hK
          have s5 : ac.tmps[5]?.getD undef = .int .i64 (k : Int) := by rw [hb]; kernel_rfl
          rw [if_pos (AnyO.wanted_none rfl)]
          clear hb hp
          go_simp
          exact hK _ _ (Below.refl _ _) rfl
        · -- 7: Op.indexAddr 38 (Operand.tmp 1) (Operand.tmp 16)
          refine AnyO.Step.mk rfl [6] (by kernel_rfl) ?_
          intro vs u hE hp ac hb K hK
          have s1 : ac.tmps[1]?.getD undef = .pointer (some ⟨w.heap.size, 0, none⟩) := by rw [hb]; kernel_rfl
          have s16 : ac.tmps[16]?.getD undef = .int .i64 (k : Int) := by rw [hb]; exact (show _ = vs 6 by kernel_rfl).trans (hp 6 (by decide))
          rw [if_pos (AnyO.wanted_none rfl)]
          clear hb hp
          have hk1 : (k : Int) < 32 := by omega
          go_simp
          exact hK _ _ (Below.refl _ _) rfl
        · -- 8: Op.load 5 (Operand.tmp 17)
          refine AnyO.Step.mk rfl [7] (by kernel_rfl) ?_
          intro vs u hE hp ac hb K hK
          have s17 : ac.tmps[17]?.getD undef = .pointer (some ⟨w.heap.size, k, none⟩) := by rw [hb]; exact (show _ = vs 7 by kernel_rfl).trans (hp 7 (by decide))
          rw [if_pos (AnyO.wanted_none rfl)]
          clear hb hp
          have hc := HCL.out u hE
          go_simp
          exact hK _ _ (Below.refl _ _) rfl
        · -- 9: Op.binOp BinOp.quo 5 (Operand.tmp 18) (Operand.const (Value.
          refine AnyO.Step.mk rfl [8] (by kernel_rfl) ?_
          intro vs u hE hp ac hb K hK
          have s18 : ac.tmps[18]?.getD undef = vB b := by rw [hb]; exact (show _ = vs 8 by kernel_rfl).trans (hp 8 (by decide))
          rw [if_pos (AnyO.wanted_none rfl)]
          clear hb hp
          have r1 := HC.out.2.2.1.1
          have r2 := HC.out.2.2.1.2
          go_simp
          exact hK _ _ (Below.refl _ _) rfl
        · -- 10: Op.binOp BinOp.add 5 (Operand.tmp 19) (Operand.const (Value.
          refine AnyO.Step.mk rfl [9] (by kernel_rfl) ?_
          intro vs u hE hp ac hb K hK
          have s19 : ac.tmps[19]?.getD undef = .int .u8 (p : Int) := by rw [hb]; exact (show _ = vs 9 by kernel_rfl).trans (hp 9 (by decide))
          rw [if_pos (AnyO.wanted_none rfl)]
          clear hb hp
          have r1 := HC.out.2.2.2.2.1
          go_simp
          exact hK _ _ (Below.refl _ _) rfl
        · -- 11: Op.slice 9 (Operand.tmp 11) (some (Operand.tmp 15)) (some (O
          refine AnyO.Step.mk rfl [1, 5, 10] (by kernel_rfl) ?_
          intro vs u hE hp ac hb K hK
          have s11 : ac.tmps[11]?.getD undef = .string ⟨#[48, 49, 50, 51, 52, 53, 54, 55, 56, 57, 97, 98, 99, 100, 101, 102]⟩ := by rw [hb]; exact (show _ = vs 1 by kernel_rfl).trans (hp 1 (by decide))
          have s15 : ac.tmps[15]?.getD undef = .int .u8 (p : Int) := by rw [hb]; exact (show _ = vs 5 by kernel_rfl).trans (hp 5 (by decide))
          have s20 : ac.tmps[20]?.getD undef = .int .u8 ((p : Int) + 1) := by rw [hb]; exact (show _ = vs 10 by kernel_rfl).trans (hp 10 (by decide))
          rw [if_pos (AnyO.wanted_none rfl)]
          clear hb hp
          have r0 := HC.out.1
          have r1 : (0 : Int) ≤ (p : Int) + 1 := by omega
          have r2 : (p : Int) + 1 ≤ 16 := by omega
          have r3 : (p : Int) ≤ (p : Int) + 1 := by omega
          have r4 := dS_eq p HC.out.1
          go_simp
          exact hK _ _ (Below.refl _ _) rfl
        · -- 12: Op.binOp BinOp.add 9 (Operand.tmp 10) (Operand.tmp 21) 9
          refine AnyO.Step.mk rfl [0, 11] (by kernel_rfl) ?_
          intro vs u hE hp ac hb K hK
          have s10 : ac.tmps[10]?.getD undef = .string a := by rw [hb]; exact (show _ = vs 0 by kernel_rfl).trans (hp 0 (by decide))
          have s21 : ac.tmps[21]?.getD undef = .string (dS p) := by rw [hb]; exact (show _ = vs 11 by kernel_rfl).trans (hp 11 (by decide))
          rw [if_pos (AnyO.wanted_none rfl)]
          clear hb hp
          have r1 := HZ.out.1
          go_simp
          exact hK _ _ (Below.refl _ _) rfl
        · -- 13: Op.move (Operand.tmp 3)
          refine AnyO.Step.mk rfl [] (by kernel_rfl) ?_
          intro vs u hE hp ac hb K hK
          have s3 : ac.tmps[3]?.getD undef = .string ⟨#[48, 49, 50, 51, 52, 53, 54, 55, 56, 57, 97, 98, 99, 100, 101, 102]⟩ := by rw [hb]; kernel_rfl
          rw [if_pos (AnyO.wanted_none rfl)]
          clear hb hp
          go_simp
          exact hK _ _ (Below.refl _ _) rfl
        · -- 14: Op.move (Operand.tmp 5)
          refine AnyO.Step.mk rfl [] (by kernel_rfl) ?_
          intro vs u hE hp ac hb K hK
          have s5 : ac.tmps[5]?.getD undef = .int .i64 (k : Int) := by rw [hb]; kernel_rfl
          rw [if_pos (AnyO.wanted_none rfl)]
          clear hb hp
          go_simp
          exact hK _ _ (Below.refl _ _) rfl
        · -- 15: Op.indexAddr 38 (Operand.tmp 1) (Operand.tmp 24)
          refine AnyO.Step.mk rfl [14] (by kernel_rfl) ?_
          intro vs u hE hp ac hb K hK
          have s1 : ac.tmps[1]?.getD undef = .pointer (some ⟨w.heap.size, 0, none⟩) := by rw [hb]; kernel_rfl
          have s24 : ac.tmps[24]?.getD undef = .int .i64 (k : Int) := by rw [hb]; exact (show _ = vs 14 by kernel_rfl).trans (hp 14 (by decide))
          rw [if_pos (AnyO.wanted_none rfl)]
          clear hb hp
          have hk1 : (k : Int) < 32 := by omega
          go_simp
          exact hK _ _ (Below.refl _ _) rfl
        · -- 16: Op.load 5 (Operand.tmp 25)
          refine AnyO.Step.mk rfl [15] (by kernel_rfl) ?_
          intro vs u hE hp ac hb K hK
          have s25 : ac.tmps[25]?.getD undef = .pointer (some ⟨w.heap.size, k, none⟩) := by rw [hb]; exact (show _ = vs 15 by kernel_rfl).trans (hp 15 (by decide))
          rw [if_pos (AnyO.wanted_none rfl)]
          clear hb hp
          have hc := HCL.out u hE
          go_simp
          exact hK _ _ (Below.refl _ _) rfl
        · -- 17: Op.binOp BinOp.rem 5 (Operand.tmp 26) (Operand.const (Value.
          refine AnyO.Step.mk rfl [16] (by kernel_rfl) ?_
          intro vs u hE hp ac hb K hK
          have s26 : ac.tmps[26]?.getD undef = vB b := by rw [hb]; exact (show _ = vs 16 by kernel_rfl).trans (hp 16 (by decide))
          rw [if_pos (AnyO.wanted_none rfl)]
          clear hb hp
          have r1 := HC.out.2.2.2.1.1
          have r2 := HC.out.2.2.2.1.2
          go_simp
          exact hK _ _ (Below.refl _ _) rfl
        · -- 18: Op.move (Operand.tmp 5)
          refine AnyO.Step.mk rfl [] (by kernel_rfl) ?_
          intro vs u hE hp ac hb K hK
          have s5 : ac.tmps[5]?.getD undef = .int .i64 (k : Int) := by rw [hb]; kernel_rfl
          rw [if_pos (AnyO.wanted_none rfl)]
          clear hb hp
          go_simp
          exact hK _ _ (Below.refl _ _) rfl
        · -- 19: Op.indexAddr 38 (Operand.tmp 1) (Operand.tmp 28)
          refine AnyO.Step.mk rfl [18] (by kernel_rfl) ?_
          intro vs u hE hp ac hb K hK
          have s1 : ac.tmps[1]?.getD undef = .pointer (some ⟨w.heap.size, 0, none⟩) := by rw [hb]; kernel_rfl
          have s28 : ac.tmps[28]?.getD undef = .int .i64 (k : Int) := by rw [hb]; exact (show _ = vs 18 by kernel_rfl).trans (hp 18 (by decide))
          rw [if_pos (AnyO.wanted_none rfl)]
          clear hb hp
          have hk1 : (k : Int) < 32 := by omega
          go_simp
          exact hK _ _ (Below.refl _ _) rfl
        · -- 20: Op.load 5 (Operand.tmp 29)
          refine AnyO.Step.mk rfl [19] (by kernel_rfl) ?_
          intro vs u hE hp ac hb K hK
          have s29 : ac.tmps[29]?.getD undef = .pointer (some ⟨w.heap.size, k, none⟩) := by rw [hb]; exact (show _ = vs 19 by kernel_rfl).trans (hp 19 (by decide))
          rw [if_pos (AnyO.wanted_none rfl)]
          clear hb hp
          have hc := HCL.out u hE
          go_simp
          exact hK _ _ (Below.refl _ _) rfl
        · -- 21: Op.binOp BinOp.rem 5 (Operand.tmp 30) (Operand.const (Value.
          refine AnyO.Step.mk rfl [20] (by kernel_rfl) ?_
          intro vs u hE hp ac hb K hK
          have s30 : ac.tmps[30]?.getD undef = vB b := by rw [hb]; exact (show _ = vs 20 by kernel_rfl).trans (hp 20 (by decide))
          rw [if_pos (AnyO.wanted_none rfl)]
          clear hb hp
          have r1 := HC.out.2.2.2.1.1
          have r2 := HC.out.2.2.2.1.2
          go_simp
          exact hK _ _ (Below.refl _ _) rfl
        · -- 22: Op.binOp BinOp.add 5 (Operand.tmp 31) (Operand.const (Value.
          refine AnyO.Step.mk rfl [21] (by kernel_rfl) ?_
          intro vs u hE hp ac hb K hK
          have s31 : ac.tmps[31]?.getD undef = .int .u8 (q : Int) := by rw [hb]; exact (show _ = vs 21 by kernel_rfl).trans (hp 21 (by decide))
          rw [if_pos (AnyO.wanted_none rfl)]
          clear hb hp
          have r1 := HC.out.2.2.2.2.2
          go_simp
          exact hK _ _ (Below.refl _ _) rfl
        · -- 23: Op.slice 9 (Operand.tmp 23) (some (Operand.tmp 27)) (some (O
          refine AnyO.Step.mk rfl [13, 17, 22] (by kernel_rfl) ?_
          intro vs u hE hp ac hb K hK
          have s23 : ac.tmps[23]?.getD undef = .string ⟨#[48, 49, 50, 51, 52, 53, 54, 55, 56, 57, 97, 98, 99, 100, 101, 102]⟩ := by rw [hb]; exact (show _ = vs 13 by kernel_rfl).trans (hp 13 (by decide))
          have s27 : ac.tmps[27]?.getD undef = .int .u8 (q : Int) := by rw [hb]; exact (show _ = vs 17 by kernel_rfl).trans (hp 17 (by decide))
          have s32 : ac.tmps[32]?.getD undef = .int .u8 ((q : Int) + 1) := by rw [hb]; exact (show _ = vs 22 by kernel_rfl).trans (hp 22 (by decide))
          rw [if_pos (AnyO.wanted_none rfl)]
          clear hb hp
          have r0 := HC.out.2.1
          have r1 : (0 : Int) ≤ (q : Int) + 1 := by omega
          have r2 : (q : Int) + 1 ≤ 16 := by omega
          have r3 : (q : Int) ≤ (q : Int) + 1 := by omega
          have r4 := dS_eq q HC.out.2.1
          go_simp
          exact hK _ _ (Below.refl _ _) rfl
        · -- 24: Op.binOp BinOp.add 9 (Operand.tmp 22) (Operand.tmp 33) 9
          refine AnyO.Step.mk rfl [12, 23] (by kernel_rfl) ?_
          intro vs u hE hp ac hb K hK
          have s22 : ac.tmps[22]?.getD undef = .string (a ++ dS p) := by rw [hb]; exact (show _ = vs 12 by kernel_rfl).trans (hp 12 (by decide))
          have s33 : ac.tmps[33]?.getD undef = .string (dS q) := by rw [hb]; exact (show _ = vs 23 by kernel_rfl).trans (hp 23 (by decide))
          rw [if_pos (AnyO.wanted_none rfl)]
          clear hb hp
          have r1 := HZ.out.2
          go_simp
          exact hK _ _ (Below.refl _ _) rfl
      · intro vs u hE hp
        have e0 : vs 0 = .string a := hp 0 (by decide)
        have e1 : vs 1 = .string ⟨#[48, 49, 50, 51, 52, 53, 54, 55, 56, 57, 97, 98, 99, 100, 101, 102]⟩ := hp 1 (by decide)
        have e2 : vs 2 = .int .i64 (k : Int) := hp 2 (by decide)
        have e3 : vs 3 = .pointer (some ⟨w.heap.size, k, none⟩) := hp 3 (by decide)
        have e4 : vs 4 = vB b := hp 4 (by decide)
        have e5 : vs 5 = .int .u8 (p : Int) := hp 5 (by decide)
        have e6 : vs 6 = .int .i64 (k : Int) := hp 6 (by decide)
        have e7 : vs 7 = .pointer (some ⟨w.heap.size, k, none⟩) := hp 7 (by decide)
        have e8 : vs 8 = vB b := hp 8 (by decide)
        have e9 : vs 9 = .int .u8 (p : Int) := hp 9 (by decide)
        have e10 : vs 10 = .int .u8 ((p : Int) + 1) := hp 10 (by decide)
        have e11 : vs 11 = .string (dS p) := hp 11 (by decide)
        have e12 : vs 12 = .string (a ++ dS p) := hp 12 (by decide)
        have e13 : vs 13 = .string ⟨#[48, 49, 50, 51, 52, 53, 54, 55, 56, 57, 97, 98, 99, 100, 101, 102]⟩ := hp 13 (by decide)
        have e14 : vs 14 = .int .i64 (k : Int) := hp 14 (by decide)
        have e15 : vs 15 = .pointer (some ⟨w.heap.size, k, none⟩) := hp 15 (by decide)
        have e16 : vs 16 = vB b := hp 16 (by decide)
        have e17 : vs 17 = .int .u8 (q : Int) := hp 17 (by decide)
        have e18 : vs 18 = .int .i64 (k : Int) := hp 18 (by decide)
        have e19 : vs 19 = .pointer (some ⟨w.heap.size, k, none⟩) := hp 19 (by decide)
        have e20 : vs 20 = vB b := hp 20 (by decide)
        have e21 : vs 21 = .int .u8 (q : Int) := hp 21 (by decide)
        have e22 : vs 22 = .int .u8 ((q : Int) + 1) := hp 22 (by decide)
        have e23 : vs 23 = .string (dS q) := hp 23 (by decide)
        have e24 : vs 24 = .string (a ++ dS p ++ dS q) := hp 24 (by decide)
        clear hp
        have HE := Lib.hid hE; clear hE
        rw [puts_range [some 10, some 11, some 12, some 13, some 14, some 15, some 16, some 17, some 18, some 19, some 20, some 21, some 22, some 23, some 24, some 25, some 26, some 27, some 28, some 29, some 30, some 31, some 32, some 33, some 34] (by kernel_rfl)]
        simp only [putL, Nat.reduceAdd, List.drop_succ_cons, List.drop_zero, e0, e1, e2, e3, e4, e5, e6, e7, e8, e9, e10, e11, e12, e13, e14, e15, e16, e17, e18, e19, e20, e21, e22, e23, e24]
        clear e0 e1 e2 e3 e4 e5 e6 e7 e8 e9 e10 e11 e12 e13 e14 e15 e16 e17 e18 e19 e20 e21 e22 e23 e24
        go_simp
        go_wp2
        go_roundw
        case rel => exact ⟨k + 1, _, by omega, by go_num, rfl, by rw [HX2.out], HO.out.1.trans (HE.out.mono HO.out.1.size), HO.out.2.keep HE.out⟩
        case measure => simp [intOf]; omega
    · have hkn : k = 32 := by omega
      subst hkn
      rw [List.take_of_length_le (by rw [x.2]; exact Nat.le_refl _)] at ha
      have HA := Lib.hid (show a ++ (⟨#[64, 104, 97, 115, 104, 62]⟩ : ByteArray) = ⟨(textL x).toArray⟩ by rw [ha]; exact mk_append _ [64, 104, 97, 115, 104, 62])
      have hz : ¬ 9223372036854775807 < a.size + 6 := by rw [hsz]; omega
      clear hb hat ha hsz
      go_wp2
      go_ret
      exact ⟨congrArg (fun s => Ending.returned (.string s)) HA.out, HO.out.1⟩
end Go.Proofs.Ytcchpenaiomeeaa
