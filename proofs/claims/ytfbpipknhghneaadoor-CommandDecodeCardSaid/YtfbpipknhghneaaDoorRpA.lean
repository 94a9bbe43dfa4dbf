/- The reference's texts of identities and numbers. The verbs' words. -/
import Derived.Test.YtfbpipknhghneaaDoorMsA
import Derived.Test.YtfbpipknhghneaaDoorEnA
import Derived.Test.YtfbpipknhghneaaDoorPlA
import Derived.Test.YtfbpipknhghneaaDoorDcA
import Derived.Test.YtfbpipknhghneaaDoorOnA
namespace Go.Proofs.YtfbpipknhghneaaDoor
section
open Go.RowKit
/-- A digit as a string. -/
def dS (p : Nat) : ByteArray := ⟨[digC p].toArray⟩
theorem dS_size (p : Nat) : (dS p).size = 1 := rfl
theorem dS_eq (p : Nat) (h : p < 16) : (⟨#[48, 49, 50, 51, 52, 53, 54, 55, 56, 57, 97, 98, 99, 100, 101, 102]⟩ : ByteArray).extract p (p + 1) = dS p := by
  match p, h with
  | 0, _ => rfl
  | 1, _ => rfl
  | 2, _ => rfl
  | 3, _ => rfl
  | 4, _ => rfl
  | 5, _ => rfl
  | 6, _ => rfl
  | 7, _ => rfl
  | 8, _ => rfl
  | 9, _ => rfl
  | 10, _ => rfl
  | 11, _ => rfl
  | 12, _ => rfl
  | 13, _ => rfl
  | 14, _ => rfl
  | 15, _ => rfl
  | n + 16, h => exact absurd h (by omega)
theorem dig_step (x : Id) (k : Nat) (hk : k < 32) (b : UInt8) (hb : x.1[k]'(by rw [x.2]; exact hk) = b) (a : ByteArray) (ha : a = ⟨(hexL (x.1.take k)).toArray⟩) :
    a ++ (dS (b.toNat / 16) ++ dS (b.toNat % 16)) = ⟨(hexL (x.1.take (k + 1))).toArray⟩ := by
  subst ha
  unfold dS
  rw [mk_append, mk_append]
  congr 2
  rw [List.take_succ_eq_append_getElem (by rw [x.2]; exact hk), hb]
  unfold hexL
  rw [List.flatMap_append, List.flatMap_singleton]
  simp [hexC]
set_option maxRecDepth 100000 in
set_option maxHeartbeats 3200000 in
theorem digits89 (x : Id) (w : World) : Calls Tryd.prog 89 #[vI x] w fun e w' => e = .returned (.string ⟨(hexL x.1).toArray⟩) ∧ Below w.heap.size w w' := by
  obtain ⟨b0, hb0⟩ : ∃ b0, w.heap.size = b0 := ⟨_, rfl⟩
  have HB := Lib.hid (And.intro (below_alloc w (.cells (aI x) 108)) (show Row (w.alloc (.cells (aI x) 108)) b0 (cI x) 108 by rw [← hb0]; exact Row.new w (cI x) 108))
  go_enter Tryd.func89, Tryd.ntmps89
  go_wp2
  go_loopw [3, 4] (fun t i wr => ∃ (k : Nat) (a : ByteArray), k ≤ 32 ∧ i = .int .i64 k ∧ t = .string a ∧ a = ⟨(hexL (x.1.take k)).toArray⟩ ∧ Below w.heap.size w wr ∧ Row wr b0 (cI x) 108) (fun _ i _ => 32 - (intOf i).toNat)
  case atStart => exact ⟨0, _, Nat.zero_le _, rfl, rfl, rfl, HB.out.1, HB.out.2⟩
  case round =>
    obtain ⟨k, a, hk, rfl, rfl, ha, hb, hat⟩ := hrel
    have HO := Lib.hid (And.intro hb hat)
    have hsz : a.size = 2 * k := by
      rw [ha]
      refine (Lib.size_eq _).trans ?_
      simp [hexL_length, List.length_take, x.2]
      omega
    by_cases hlt : k < 32
    · obtain ⟨b, hbx⟩ : ∃ b, x.1[k]'(by rw [x.2]; exact hlt) = b := ⟨_, rfl⟩
      obtain ⟨p, hp⟩ : ∃ p, p = b.toNat / 16 := ⟨_, rfl⟩
      obtain ⟨q, hq⟩ : ∃ q, q = b.toNat % 16 := ⟨_, rfl⟩
      have hb8 := b.toNat_lt
      have hw : ∀ z : Int, 0 ≤ z → z < 256 → IntKind.u8.wrap z = z := by intro z h1 h2; simp [IntKind.wrap, IntKind.bits, IntKind.signed]; omega
      have HC := Lib.hid (And.intro (show p < 16 by omega) (And.intro (show q < 16 by omega) (And.intro (And.intro (show IntKind.u8.wrap (p : Int) = (p : Int) from hw _ (by omega) (by omega)) (show (b.toNat : Int) / 16 = (p : Int) by omega)) (And.intro (And.intro (show IntKind.u8.wrap (q : Int) = (q : Int) from hw _ (by omega) (by omega)) (show (b.toNat : Int).tmod 16 = (q : Int) by rw [Int.tmod_eq_emod_of_nonneg (by omega)]; omega)) (And.intro (show IntKind.u8.wrap ((p : Int) + 1) = (p : Int) + 1 from hw _ (by omega) (by omega)) (show IntKind.u8.wrap ((q : Int) + 1) = (q : Int) + 1 from hw _ (by omega) (by omega)))))))
      have HZ := Lib.hid (And.intro (show ¬ 9223372036854775807 < (dS p).size + (dS q).size by rw [dS_size, dS_size]; omega) (show ¬ 9223372036854775807 < a.size + ((dS p).size + (dS q).size) by rw [dS_size, dS_size, hsz]; omega))
      have HX2 := Lib.hid (show a ++ (dS p ++ dS q) = ⟨(hexL (x.1.take (k + 1))).toArray⟩ by rw [hp, hq]; exact dig_step x k hlt b hbx a ha)
      have HCL := Lib.hid (show ∀ u, Below wr.drew.heap.size wr.drew u → u.cell? ⟨b0, k, none⟩ = some (vB b) by
        intro u hu
        have h := (hat.keep (Below.step (below_drew _) hu)).cell k
        rw [h]
        unfold cI
        rw [List.getElem?_map, List.getElem?_eq_getElem (by rw [x.2]; exact hlt), hbx]
        rfl)
      clear hb hat hp hq hb8 hbx ha hsz hw
      go_wp2_with fail
      refine AnyO.wp_any (by kernel_rfl) (by kernel_rfl) (pstP [isV (.int .i64 (k : Int)), isV (.pointer (some ⟨b0, k, none⟩)), isV (vB b), isV (.int .u8 (p : Int)), isV (.int .i64 (k : Int)), isV (.pointer (some ⟨b0, k, none⟩)), isV (vB b), isV (.int .u8 (q : Int)), isV (.int .u8 (p : Int)), isV (.int .u8 (q : Int))]) (MonoL.cons (Mono.v _) (MonoL.cons (Mono.v _) (MonoL.cons (Mono.v _) (MonoL.cons (Mono.v _) (MonoL.cons (Mono.v _) (MonoL.cons (Mono.v _) (MonoL.cons (Mono.v _) (MonoL.cons (Mono.v _) (MonoL.cons (Mono.v _) (MonoL.cons (Mono.v _) MonoL.nil)))))))))) ?_ ?_
      · intro i hi
        have hi2 : i = 0 ∨ i = 1 ∨ i = 2 ∨ i = 3 ∨ i = 4 ∨ i = 5 ∨ i = 6 ∨ i = 7 ∨ i = 8 ∨ i = 9 := by simp only [List.size_toArray, List.length_cons, List.length_nil] at hi; omega
        clear hi
        rcases hi2 with rfl | rfl | rfl | rfl | rfl | rfl | rfl | rfl | rfl | rfl
        · -- 0: Op.move (Operand.tmp 4)
          refine AnyO.Step.mk rfl [] (by kernel_rfl) ?_
          intro vs u hE hp ac hb K hK
          have s4 : ac.tmps[4]?.getD undef = .int .i64 (k : Int) := by rw [hb]; kernel_rfl
          rw [if_pos (AnyO.wanted_none rfl)]
          clear hb hp
          go_simp
          exact hK _ _ (Below.refl _ _) rfl
        · -- 1: Op.indexAddr 108 (Operand.tmp 1) (Operand.tmp 11)
          refine AnyO.Step.mk rfl [0] (by kernel_rfl) ?_
          intro vs u hE hp ac hb K hK
          have s1 : ac.tmps[1]?.getD undef = .pointer (some ⟨b0, 0, none⟩) := by rw [hb]; kernel_rfl
          have s11 : ac.tmps[11]?.getD undef = .int .i64 (k : Int) := by rw [hb]; exact (show _ = vs 0 by kernel_rfl).trans (hp 0 (by decide))
          rw [if_pos (AnyO.wanted_none rfl)]
          clear hb hp
          have hk1 : (k : Int) < 32 := by omega
          go_simp
          exact hK _ _ (Below.refl _ _) rfl
        · -- 2: Op.load 5 (Operand.tmp 12)
          refine AnyO.Step.mk rfl [1] (by kernel_rfl) ?_
          intro vs u hE hp ac hb K hK
          have s12 : ac.tmps[12]?.getD undef = .pointer (some ⟨b0, k, none⟩) := by rw [hb]; exact (show _ = vs 1 by kernel_rfl).trans (hp 1 (by decide))
          rw [if_pos (AnyO.wanted_none rfl)]
          clear hb hp
          have hc := HCL.out u hE
          go_simp
          exact hK _ _ (Below.refl _ _) rfl
        · -- 3: Op.binOp BinOp.quo 5 (Operand.tmp 13) (Operand.const (Value.
          refine AnyO.Step.mk rfl [2] (by kernel_rfl) ?_
          intro vs u hE hp ac hb K hK
          have s13 : ac.tmps[13]?.getD undef = vB b := by rw [hb]; exact (show _ = vs 2 by kernel_rfl).trans (hp 2 (by decide))
          rw [if_pos (AnyO.wanted_none rfl)]
          clear hb hp
          have r1 := HC.out.2.2.1.1
          have r2 := HC.out.2.2.1.2
          go_simp
          exact hK _ _ (Below.refl _ _) rfl
        · -- 4: Op.move (Operand.tmp 4)
          refine AnyO.Step.mk rfl [] (by kernel_rfl) ?_
          intro vs u hE hp ac hb K hK
          have s4 : ac.tmps[4]?.getD undef = .int .i64 (k : Int) := by rw [hb]; kernel_rfl
          rw [if_pos (AnyO.wanted_none rfl)]
          clear hb hp
          go_simp
          exact hK _ _ (Below.refl _ _) rfl
        · -- 5: Op.indexAddr 108 (Operand.tmp 1) (Operand.tmp 15)
          refine AnyO.Step.mk rfl [4] (by kernel_rfl) ?_
          intro vs u hE hp ac hb K hK
          have s1 : ac.tmps[1]?.getD undef = .pointer (some ⟨b0, 0, none⟩) := by rw [hb]; kernel_rfl
          have s15 : ac.tmps[15]?.getD undef = .int .i64 (k : Int) := by rw [hb]; exact (show _ = vs 4 by kernel_rfl).trans (hp 4 (by decide))
          rw [if_pos (AnyO.wanted_none rfl)]
          clear hb hp
          have hk1 : (k : Int) < 32 := by omega
          go_simp
          exact hK _ _ (Below.refl _ _) rfl
        · -- 6: Op.load 5 (Operand.tmp 16)
          refine AnyO.Step.mk rfl [5] (by kernel_rfl) ?_
          intro vs u hE hp ac hb K hK
          have s16 : ac.tmps[16]?.getD undef = .pointer (some ⟨b0, k, none⟩) := by rw [hb]; exact (show _ = vs 5 by kernel_rfl).trans (hp 5 (by decide))
          rw [if_pos (AnyO.wanted_none rfl)]
          clear hb hp
          have hc := HCL.out u hE
          go_simp
          exact hK _ _ (Below.refl _ _) rfl
        · -- 7: Op.binOp BinOp.rem 5 (Operand.tmp 17) (Operand.const (Value.
          refine AnyO.Step.mk rfl [6] (by kernel_rfl) ?_
          intro vs u hE hp ac hb K hK
          have s17 : ac.tmps[17]?.getD undef = vB b := by rw [hb]; exact (show _ = vs 6 by kernel_rfl).trans (hp 6 (by decide))
          rw [if_pos (AnyO.wanted_none rfl)]
          clear hb hp
          have r1 := HC.out.2.2.2.1.1
          have r2 := HC.out.2.2.2.1.2
          go_simp
          exact hK _ _ (Below.refl _ _) rfl
        · -- 8: Op.assign (Operand.tmp 14)
          refine AnyO.Step.mk rfl [3, 0, 1, 2, 3] (by kernel_rfl) ?_
          intro vs u hE hp ac hb K hK
          have s14 : ac.tmps[14]?.getD undef = .int .u8 (p : Int) := by rw [hb]; exact (show _ = vs 3 by kernel_rfl).trans (hp 3 (by decide))
          rw [if_pos (AnyO.wanted_none rfl)]
          clear hb hp
          go_simp
          exact hK _ _ (Below.refl _ _) rfl
        · -- 9: Op.assign (Operand.tmp 18)
          refine AnyO.Step.mk rfl [7, 8, 0, 1, 2, 3, 4, 5, 6, 7, 8] (by kernel_rfl) ?_
          intro vs u hE hp ac hb K hK
          have s18 : ac.tmps[18]?.getD undef = .int .u8 (q : Int) := by rw [hb]; exact (show _ = vs 7 by kernel_rfl).trans (hp 7 (by decide))
          rw [if_pos (AnyO.wanted_none rfl)]
          clear hb hp
          go_simp
          exact hK _ _ (Below.refl _ _) rfl
      · intro vs u hE hp
        have e0 : vs 0 = .int .i64 (k : Int) := hp 0 (by decide)
        have e1 : vs 1 = .pointer (some ⟨b0, k, none⟩) := hp 1 (by decide)
        have e2 : vs 2 = vB b := hp 2 (by decide)
        have e3 : vs 3 = .int .u8 (p : Int) := hp 3 (by decide)
        have e4 : vs 4 = .int .i64 (k : Int) := hp 4 (by decide)
        have e5 : vs 5 = .pointer (some ⟨b0, k, none⟩) := hp 5 (by decide)
        have e6 : vs 6 = vB b := hp 6 (by decide)
        have e7 : vs 7 = .int .u8 (q : Int) := hp 7 (by decide)
        have e8 : vs 8 = .int .u8 (p : Int) := hp 8 (by decide)
        have e9 : vs 9 = .int .u8 (q : Int) := hp 9 (by decide)
        clear hp
        have HE5 := Lib.hid hE
        clear hE
        rw [puts_range [some 11, some 12, some 13, some 14, some 15, some 16, some 17, some 18, some 5, some 6] (by kernel_rfl)]
        simp only [putL, Nat.reduceAdd, e0, e1, e2, e3, e4, e5, e6, e7, e8, e9]
        clear e0 e1 e2 e3 e4 e5 e6 e7 e8 e9
        go_simp
        go_wp2_with fail
        refine AnyO.wp_any (by kernel_rfl) (by kernel_rfl) (pstP [isV (.string a), isV (.int .u8 (p : Int)), isV (.int .u8 (p : Int)), isV (.int .u8 ((p : Int) + 1)), isV (.string (dS p)), isV (.int .u8 (q : Int)), isV (.int .u8 (q : Int)), isV (.int .u8 ((q : Int) + 1)), isV (.string (dS q)), isV (.string (dS p ++ dS q)), isV (.string (a ++ (dS p ++ dS q))), isV (.string (a ++ (dS p ++ dS q)))]) (MonoL.cons (Mono.v _) (MonoL.cons (Mono.v _) (MonoL.cons (Mono.v _) (MonoL.cons (Mono.v _) (MonoL.cons (Mono.v _) (MonoL.cons (Mono.v _) (MonoL.cons (Mono.v _) (MonoL.cons (Mono.v _) (MonoL.cons (Mono.v _) (MonoL.cons (Mono.v _) (MonoL.cons (Mono.v _) (MonoL.cons (Mono.v _) MonoL.nil)))))))))))) ?_ ?_
        · intro i hi
          have hi2 : i = 0 ∨ i = 1 ∨ i = 2 ∨ i = 3 ∨ i = 4 ∨ i = 5 ∨ i = 6 ∨ i = 7 ∨ i = 8 ∨ i = 9 ∨ i = 10 ∨ i = 11 := by simp only [List.size_toArray, List.length_cons, List.length_nil] at hi; omega
          clear hi
          rcases hi2 with rfl | rfl | rfl | rfl | rfl | rfl | rfl | rfl | rfl | rfl | rfl | rfl
          · -- 0: Op.move (Operand.tmp 3)
            refine AnyO.Step.mk rfl [] (by kernel_rfl) ?_
            intro vs u hE hp ac hb K hK
            have s3 : ac.tmps[3]?.getD undef = .string a := by rw [hb]; kernel_rfl
            rw [if_pos (AnyO.wanted_none rfl)]
            clear hb hp
            go_simp
            exact hK _ _ (Below.refl _ _) rfl
          · -- 1: Op.move (Operand.tmp 5)
            refine AnyO.Step.mk rfl [] (by kernel_rfl) ?_
            intro vs u hE hp ac hb K hK
            have s5 : ac.tmps[5]?.getD undef = .int .u8 (p : Int) := by rw [hb]; kernel_rfl
            rw [if_pos (AnyO.wanted_none rfl)]
            clear hb hp
            go_simp
            exact hK _ _ (Below.refl _ _) rfl
          · -- 2: Op.move (Operand.tmp 5)
            refine AnyO.Step.mk rfl [] (by kernel_rfl) ?_
            intro vs u hE hp ac hb K hK
            have s5 : ac.tmps[5]?.getD undef = .int .u8 (p : Int) := by rw [hb]; kernel_rfl
            rw [if_pos (AnyO.wanted_none rfl)]
            clear hb hp
            go_simp
            exact hK _ _ (Below.refl _ _) rfl
          · -- 3: Op.binOp BinOp.add 5 (Operand.tmp 21) (Operand.const (Value.
            refine AnyO.Step.mk rfl [2] (by kernel_rfl) ?_
            intro vs u hE hp ac hb K hK
            have s21 : ac.tmps[21]?.getD undef = .int .u8 (p : Int) := by rw [hb]; exact (show _ = vs 2 by kernel_rfl).trans (hp 2 (by decide))
            rw [if_pos (AnyO.wanted_none rfl)]
            clear hb hp
            have r1 := HC.out.2.2.2.2.1
            go_simp
            exact hK _ _ (Below.refl _ _) rfl
          · -- 4: Op.slice 9 (Operand.const (Value.string { data := #[48, 49, 
            refine AnyO.Step.mk rfl [1, 3] (by kernel_rfl) ?_
            intro vs u hE hp ac hb K hK
            have s20 : ac.tmps[20]?.getD undef = .int .u8 (p : Int) := by rw [hb]; exact (show _ = vs 1 by kernel_rfl).trans (hp 1 (by decide))
            have s22 : ac.tmps[22]?.getD undef = .int .u8 ((p : Int) + 1) := by rw [hb]; exact (show _ = vs 3 by kernel_rfl).trans (hp 3 (by decide))
            rw [if_pos (AnyO.wanted_none rfl)]
            clear hb hp
            have r0 := HC.out.1
            have r1 : (0 : Int) ≤ (p : Int) + 1 := by omega
            have r2 : (p : Int) + 1 ≤ 16 := by omega
            have r3 : (p : Int) ≤ (p : Int) + 1 := by omega
            have r4 := dS_eq p HC.out.1
            go_simp
            exact hK _ _ (Below.refl _ _) rfl
          · -- 5: Op.move (Operand.tmp 6)
            refine AnyO.Step.mk rfl [] (by kernel_rfl) ?_
            intro vs u hE hp ac hb K hK
            have s6 : ac.tmps[6]?.getD undef = .int .u8 (q : Int) := by rw [hb]; kernel_rfl
            rw [if_pos (AnyO.wanted_none rfl)]
            clear hb hp
            go_simp
            exact hK _ _ (Below.refl _ _) rfl
          · -- 6: Op.move (Operand.tmp 6)
            refine AnyO.Step.mk rfl [] (by kernel_rfl) ?_
            intro vs u hE hp ac hb K hK
            have s6 : ac.tmps[6]?.getD undef = .int .u8 (q : Int) := by rw [hb]; kernel_rfl
            rw [if_pos (AnyO.wanted_none rfl)]
            clear hb hp
            go_simp
            exact hK _ _ (Below.refl _ _) rfl
          · -- 7: Op.binOp BinOp.add 5 (Operand.tmp 25) (Operand.const (Value.
            refine AnyO.Step.mk rfl [6] (by kernel_rfl) ?_
            intro vs u hE hp ac hb K hK
            have s25 : ac.tmps[25]?.getD undef = .int .u8 (q : Int) := by rw [hb]; exact (show _ = vs 6 by kernel_rfl).trans (hp 6 (by decide))
            rw [if_pos (AnyO.wanted_none rfl)]
            clear hb hp
            have r1 := HC.out.2.2.2.2.2
            go_simp
            exact hK _ _ (Below.refl _ _) rfl
          · -- 8: Op.slice 9 (Operand.const (Value.string { data := #[48, 49, 
            refine AnyO.Step.mk rfl [5, 7] (by kernel_rfl) ?_
            intro vs u hE hp ac hb K hK
            have s24 : ac.tmps[24]?.getD undef = .int .u8 (q : Int) := by rw [hb]; exact (show _ = vs 5 by kernel_rfl).trans (hp 5 (by decide))
            have s26 : ac.tmps[26]?.getD undef = .int .u8 ((q : Int) + 1) := by rw [hb]; exact (show _ = vs 7 by kernel_rfl).trans (hp 7 (by decide))
            rw [if_pos (AnyO.wanted_none rfl)]
            clear hb hp
            have r0 := HC.out.2.1
            have r1 : (0 : Int) ≤ (q : Int) + 1 := by omega
            have r2 : (q : Int) + 1 ≤ 16 := by omega
            have r3 : (q : Int) ≤ (q : Int) + 1 := by omega
            have r4 := dS_eq q HC.out.2.1
            go_simp
            exact hK _ _ (Below.refl _ _) rfl
          · -- 9: Op.binOp BinOp.add 9 (Operand.tmp 23) (Operand.tmp 27) 9
            refine AnyO.Step.mk rfl [4, 8] (by kernel_rfl) ?_
            intro vs u hE hp ac hb K hK
            have s23 : ac.tmps[23]?.getD undef = .string (dS p) := by rw [hb]; exact (show _ = vs 4 by kernel_rfl).trans (hp 4 (by decide))
            have s27 : ac.tmps[27]?.getD undef = .string (dS q) := by rw [hb]; exact (show _ = vs 8 by kernel_rfl).trans (hp 8 (by decide))
            rw [if_pos (AnyO.wanted_none rfl)]
            clear hb hp
            have r1 := HZ.out.1
            go_simp
            exact hK _ _ (Below.refl _ _) rfl
          · -- 10: Op.binOp BinOp.add 9 (Operand.tmp 19) (Operand.tmp 28) 9
            refine AnyO.Step.mk rfl [0, 9] (by kernel_rfl) ?_
            intro vs u hE hp ac hb K hK
            have s19 : ac.tmps[19]?.getD undef = .string a := by rw [hb]; exact (show _ = vs 0 by kernel_rfl).trans (hp 0 (by decide))
            have s28 : ac.tmps[28]?.getD undef = .string (dS p ++ dS q) := by rw [hb]; exact (show _ = vs 9 by kernel_rfl).trans (hp 9 (by decide))
            rw [if_pos (AnyO.wanted_none rfl)]
            clear hb hp
            have r1 := HZ.out.2
            go_simp
            exact hK _ _ (Below.refl _ _) rfl
          · -- 11: Op.assign (Operand.tmp 29)
            refine AnyO.Step.mk rfl [10, 0, 1, 2, 3, 4, 5, 6, 7, 8, 9, 10] (by kernel_rfl) ?_
            intro vs u hE hp ac hb K hK
            have s29 : ac.tmps[29]?.getD undef = .string (a ++ (dS p ++ dS q)) := by rw [hb]; exact (show _ = vs 10 by kernel_rfl).trans (hp 10 (by decide))
            rw [if_pos (AnyO.wanted_none rfl)]
            clear hb hp
            go_simp
            exact hK _ _ (Below.refl _ _) rfl
        · intro vs u hE hp
          have e0 : vs 0 = .string a := hp 0 (by decide)
          have e1 : vs 1 = .int .u8 (p : Int) := hp 1 (by decide)
          have e2 : vs 2 = .int .u8 (p : Int) := hp 2 (by decide)
          have e3 : vs 3 = .int .u8 ((p : Int) + 1) := hp 3 (by decide)
          have e4 : vs 4 = .string (dS p) := hp 4 (by decide)
          have e5 : vs 5 = .int .u8 (q : Int) := hp 5 (by decide)
          have e6 : vs 6 = .int .u8 (q : Int) := hp 6 (by decide)
          have e7 : vs 7 = .int .u8 ((q : Int) + 1) := hp 7 (by decide)
          have e8 : vs 8 = .string (dS q) := hp 8 (by decide)
          have e9 : vs 9 = .string (dS p ++ dS q) := hp 9 (by decide)
          have e10 : vs 10 = .string (a ++ (dS p ++ dS q)) := hp 10 (by decide)
          have e11 : vs 11 = .string (a ++ (dS p ++ dS q)) := hp 11 (by decide)
          clear hp
          have HE6 := Lib.hid hE
          clear hE
          rw [puts_range [some 19, some 20, some 21, some 22, some 23, some 24, some 25, some 26, some 27, some 28, some 29, some 3] (by kernel_rfl)]
          simp only [putL, Nat.reduceAdd, e0, e1, e2, e3, e4, e5, e6, e7, e8, e9, e10, e11]
          clear e0 e1 e2 e3 e4 e5 e6 e7 e8 e9 e10 e11
          go_simp
          go_wp2
          go_roundw
          case rel => exact ⟨k + 1, _, by omega, by go_num, rfl, by rw [HX2.out], (HO.out.1.trans (HE5.out.mono HO.out.1.size)).trans (HE6.out.mono (Nat.le_trans HO.out.1.size HE5.out.size)), (HO.out.2.keep HE5.out).keep HE6.out⟩
          case measure => simp [intOf]; omega
    · have hkn : k = 32 := by omega
      subst hkn
      rw [List.take_of_length_le (by rw [x.2]; exact Nat.le_refl _)] at ha
      have HA := Lib.hid ha
      clear hb hat ha hsz
      go_wp2
      go_ret
      exact ⟨congrArg (fun s => Ending.returned (.string s)) HA.out, HO.out.1⟩
set_option maxRecDepth 100000 in
set_option maxHeartbeats 3200000 in
theorem refPrint76 (x : Id) (w : World) : Calls Tryd.prog 76 #[vI x] w fun e w' => e = .returned (.string (textS x)) ∧ Below w.heap.size w w' := by
  obtain ⟨t, ht⟩ : ∃ t : ByteArray, (⟨(hexL x.1).toArray⟩ : ByteArray) = t := ⟨_, rfl⟩
  have hz : t.size = 64 := by rw [← ht]; exact (Lib.size_eq _).trans (digs x).2
  have HX := Lib.hid (show (⟨#[60]⟩ : ByteArray) ++ t ++ ⟨#[64, 104, 97, 115, 104, 62]⟩ = textS x by rw [← ht]; exact sB64_text x)
  have HD := Lib.hid (fun w1 => digits89 x w1)
  rw [ht] at HD
  have HB := Lib.hid (below_alloc w (.cells (aI x) 108))
  clear ht
  go_enter Tryd.func76, Tryd.ntmps76
  go_wp2_with (go_at_call 89; refine (HD.out _).mono ?_; rintro e w1 ⟨rfl, hb1⟩; have H1 := Lib.hid hb1; clear hb1)
  go_ret
  exact ⟨congrArg (fun s => Ending.returned (.string s)) HX.out, Below.step HB.out H1.out⟩
/-! ### numbers -/
def d10 (p : Nat) : ByteArray := ⟨#[UInt8.ofNat (48 + p)]⟩
theorem d10_size (p : Nat) : (d10 p).size = 1 := rfl
theorem d10_eq (p : Nat) (h : p < 10) : (⟨#[48, 49, 50, 51, 52, 53, 54, 55, 56, 57]⟩ : ByteArray).extract p (p + 1) = d10 p := by
  match p, h with
  | 0, _ => rfl
  | 1, _ => rfl
  | 2, _ => rfl
  | 3, _ => rfl
  | 4, _ => rfl
  | 5, _ => rfl
  | 6, _ => rfl
  | 7, _ => rfl
  | 8, _ => rfl
  | 9, _ => rfl
  | n + 10, h => exact absurd h (by omega)
theorem w64 (z : Int) (h1 : -9223372036854775808 ≤ z) (h2 : z ≤ 9223372036854775807) : IntKind.i64.wrap z = z := by simp [IntKind.wrap, IntKind.bits, IntKind.signed]; omega
def decB (u : Nat) : ByteArray := ⟨(Lib.decDigits u).toArray⟩
theorem decB_small (u : Nat) (h : u < 10) : decB u = d10 u := by
  unfold decB
  rw [Lib.decDigits, dif_pos h]
  rfl
theorem decB_step (u : Nat) (h : ¬ u < 10) : decB (u / 10) ++ d10 (u % 10) = decB u := by
  have e : Lib.decDigits u = Lib.decDigits (u / 10) ++ [UInt8.ofNat (48 + u % 10)] := by
    conv => lhs; rw [Lib.decDigits]
    rw [dif_neg h]
  unfold decB
  rw [e]
  exact mk_append _ [UInt8.ofNat (48 + u % 10)]
theorem decB_size (u : Nat) (h : u ≤ 9223372036854775807) : (decB u).size ≤ 21 := by
  have h1 := itoaB_size (u : Int) ⟨by omega, by omega⟩
  rwa [show itoaB (u : Int) = decB u by unfold itoaB decB; rw [Lib.itoa_nonneg]] at h1
set_option maxRecDepth 100000 in
set_option maxHeartbeats 3200000 in
theorem decimal75n : ∀ (k n : Nat), n ≤ k → n ≤ 9223372036854775807 → ∀ w : World, Calls Tryd.prog 75 #[.int .i64 (n : Int)] w fun e w' => e = .returned (.string (decB n)) ∧ Below w.heap.size w w' := by
  intro k
  induction k with
  | zero =>
    intro n h1 h2 w
    obtain rfl : n = 0 := by omega
    go_enter Tryd.func75, Tryd.ntmps75
    go_wp2
    go_ret
    exact ⟨by rw [decB_small 0 (by decide)]; rfl, Below.refl _ _⟩
  | succ k ih =>
    intro n h1 h2 w
    by_cases h10 : n < 10
    · have e := d10_eq n h10
      have r0 : (n : Int) < 10 := by omega
      have r1 : (0 : Int) ≤ (n : Int) + 1 := by omega
      have r2 : (n : Int) + 1 ≤ 10 := by omega
      have r3 : (n : Int) ≤ (n : Int) + 1 := by omega
      clear ih
      go_enter Tryd.func75, Tryd.ntmps75
      go_wp2
      go_ret
      exact ⟨by rw [decB_small n h10]; rfl, Below.refl _ _⟩
    · have HI := Lib.hid (ih (n / 10) (by omega) (by omega))
      have HS := Lib.hid (decB_step n h10)
      have HZ := Lib.hid (decB_size (n / 10) (by omega))
      obtain ⟨q, hq⟩ : ∃ q, n / 10 = q := ⟨_, rfl⟩
      obtain ⟨m, hm⟩ : ∃ m, n % 10 = m := ⟨_, rfl⟩
      rw [hq, hm] at HS
      rw [hq] at HI HZ
      have hm10 : m < 10 := by omega
      have HQ := Lib.hid (show ((n : Int)).tdiv 10 = (q : Int) by rw [← hq]; rfl)
      have HM := Lib.hid (And.intro (show ((n : Int)).tmod 10 = (m : Int) by rw [← hm]; rfl) (And.intro hm10 (d10_eq m hm10)))
      have HU := Lib.hid (And.intro (show (0 : Int) ≤ (n : Int) by omega) (And.intro (show (n : Int) ≤ 9223372036854775807 by omega) (And.intro (show (q : Int) ≤ 9223372036854775807 by omega) (And.intro (show (m : Int) < 10 by omega) (And.intro (show IntKind.i64.wrap (q : Int) = (q : Int) from w64 _ (by omega) (by omega)) (show IntKind.i64.wrap ((m : Int) + 1) = (m : Int) + 1 from w64 _ (by omega) (by omega)))))))
      have r0 : ¬ (n : Int) < 10 := by omega
      clear ih hq hm hm10
      go_enter Tryd.func75, Tryd.ntmps75
      go_wp2_with fail
      refine AnyO.wp_any (by kernel_rfl) (by kernel_rfl) (pstP [isV (.int .i64 (n : Int)), isV (.int .i64 (q : Int)), isV (.string (decB q)), isV (.string ⟨#[48, 49, 50, 51, 52, 53, 54, 55, 56, 57]⟩), isV (.int .i64 (n : Int)), isV (.int .i64 (m : Int)), isV (.int .i64 (n : Int)), isV (.int .i64 (m : Int)), isV (.int .i64 ((m : Int) + 1)), isV (.string (d10 m)), isV (.string (decB q ++ (d10 m))), isV (.string (decB q ++ (d10 m)))]) (MonoL.cons (Mono.v _) (MonoL.cons (Mono.v _) (MonoL.cons (Mono.v _) (MonoL.cons (Mono.v _) (MonoL.cons (Mono.v _) (MonoL.cons (Mono.v _) (MonoL.cons (Mono.v _) (MonoL.cons (Mono.v _) (MonoL.cons (Mono.v _) (MonoL.cons (Mono.v _) (MonoL.cons (Mono.v _) (MonoL.cons (Mono.v _) MonoL.nil)))))))))))) ?_ ?_
      · intro i hi
        have hi2 : i = 0 ∨ i = 1 ∨ i = 2 ∨ i = 3 ∨ i = 4 ∨ i = 5 ∨ i = 6 ∨ i = 7 ∨ i = 8 ∨ i = 9 ∨ i = 10 ∨ i = 11 := by simp only [List.size_toArray, List.length_cons, List.length_nil] at hi; omega
        clear hi
        rcases hi2 with rfl | rfl | rfl | rfl | rfl | rfl | rfl | rfl | rfl | rfl | rfl | rfl
        · -- 0: Op.move (Operand.tmp 0)
          refine AnyO.Step.mk rfl [] (by kernel_rfl) ?_
          intro vs u hE hp ac hb K hK
          have s0 : ac.tmps[0]?.getD undef = .int .i64 (n : Int) := by rw [hb]; kernel_rfl
          rw [if_pos (AnyO.wanted_none rfl)]
          clear hb hp
          go_simp
          exact hK _ _ (Below.refl _ _) rfl
        · -- 1: Op.binOp BinOp.quo 3 (Operand.tmp 11) (Operand.const (Value.
          refine AnyO.Step.mk rfl [0] (by kernel_rfl) ?_
          intro vs u hE hp ac hb K hK
          have s11 : ac.tmps[11]?.getD undef = .int .i64 (n : Int) := by rw [hb]; exact (show _ = vs 0 by kernel_rfl).trans (hp 0 (by decide))
          rw [if_pos (AnyO.wanted_none rfl)]
          clear hb hp
          have z1 := HQ.out
          have z2 := HU.out.2.2.2.2.1
          go_simp
          exact hK _ _ (Below.refl _ _) rfl
        · -- 2: Op.call { callee := Callee.value (Operand.func 75), args := 
          refine AnyO.Step.mk rfl [1] (by kernel_rfl) ?_
          intro vs u hE hp ac hb K hK
          have s12 : ac.tmps[12]?.getD undef = .int .i64 (q : Int) := by rw [hb]; exact (show _ = vs 1 by kernel_rfl).trans (hp 1 (by decide))
          rw [if_pos (AnyO.wanted_none rfl)]
          clear hb hp
          go_simp
          go_at_call 75
          refine (HI.out _).mono ?_
          rintro e w2 ⟨rfl, hb2⟩
          exact hK _ _ hb2 rfl
        · -- 3: Op.move (Operand.tmp 3)
          refine AnyO.Step.mk rfl [] (by kernel_rfl) ?_
          intro vs u hE hp ac hb K hK
          have s3 : ac.tmps[3]?.getD undef = .string ⟨#[48, 49, 50, 51, 52, 53, 54, 55, 56, 57]⟩ := by rw [hb]; kernel_rfl
          rw [if_pos (AnyO.wanted_none rfl)]
          clear hb hp
          go_simp
          exact hK _ _ (Below.refl _ _) rfl
        · -- 4: Op.move (Operand.tmp 0)
          refine AnyO.Step.mk rfl [] (by kernel_rfl) ?_
          intro vs u hE hp ac hb K hK
          have s0 : ac.tmps[0]?.getD undef = .int .i64 (n : Int) := by rw [hb]; kernel_rfl
          rw [if_pos (AnyO.wanted_none rfl)]
          clear hb hp
          go_simp
          exact hK _ _ (Below.refl _ _) rfl
        · -- 5: Op.binOp BinOp.rem 3 (Operand.tmp 15) (Operand.const (Value.
          refine AnyO.Step.mk rfl [4] (by kernel_rfl) ?_
          intro vs u hE hp ac hb K hK
          have s15 : ac.tmps[15]?.getD undef = .int .i64 (n : Int) := by rw [hb]; exact (show _ = vs 4 by kernel_rfl).trans (hp 4 (by decide))
          rw [if_pos (AnyO.wanted_none rfl)]
          clear hb hp
          have z1 := HM.out.1
          go_simp
          exact hK _ _ (Below.refl _ _) rfl
        · -- 6: Op.move (Operand.tmp 0)
          refine AnyO.Step.mk rfl [] (by kernel_rfl) ?_
          intro vs u hE hp ac hb K hK
          have s0 : ac.tmps[0]?.getD undef = .int .i64 (n : Int) := by rw [hb]; kernel_rfl
          rw [if_pos (AnyO.wanted_none rfl)]
          clear hb hp
          go_simp
          exact hK _ _ (Below.refl _ _) rfl
        · -- 7: Op.binOp BinOp.rem 3 (Operand.tmp 17) (Operand.const (Value.
          refine AnyO.Step.mk rfl [6] (by kernel_rfl) ?_
          intro vs u hE hp ac hb K hK
          have s17 : ac.tmps[17]?.getD undef = .int .i64 (n : Int) := by rw [hb]; exact (show _ = vs 6 by kernel_rfl).trans (hp 6 (by decide))
          rw [if_pos (AnyO.wanted_none rfl)]
          clear hb hp
          have z1 := HM.out.1
          go_simp
          exact hK _ _ (Below.refl _ _) rfl
        · -- 8: Op.binOp BinOp.add 3 (Operand.tmp 18) (Operand.const (Value.
          refine AnyO.Step.mk rfl [7] (by kernel_rfl) ?_
          intro vs u hE hp ac hb K hK
          have s18 : ac.tmps[18]?.getD undef = .int .i64 (m : Int) := by rw [hb]; exact (show _ = vs 7 by kernel_rfl).trans (hp 7 (by decide))
          rw [if_pos (AnyO.wanted_none rfl)]
          clear hb hp
          have z2 := HU.out.2.2.2.2.2
          go_simp
          exact hK _ _ (Below.refl _ _) rfl
        · -- 9: Op.slice 9 (Operand.tmp 14) (some (Operand.tmp 16)) (some (O
          refine AnyO.Step.mk rfl [3, 5, 8] (by kernel_rfl) ?_
          intro vs u hE hp ac hb K hK
          have s14 : ac.tmps[14]?.getD undef = .string ⟨#[48, 49, 50, 51, 52, 53, 54, 55, 56, 57]⟩ := by rw [hb]; exact (show _ = vs 3 by kernel_rfl).trans (hp 3 (by decide))
          have s16 : ac.tmps[16]?.getD undef = .int .i64 (m : Int) := by rw [hb]; exact (show _ = vs 5 by kernel_rfl).trans (hp 5 (by decide))
          have s19 : ac.tmps[19]?.getD undef = .int .i64 ((m : Int) + 1) := by rw [hb]; exact (show _ = vs 8 by kernel_rfl).trans (hp 8 (by decide))
          rw [if_pos (AnyO.wanted_none rfl)]
          clear hb hp
          have z0 := HM.out.2.1
          have z1 : (0 : Int) ≤ (m : Int) + 1 := by omega
          have z2 : (m : Int) + 1 ≤ 10 := by omega
          have z3 : (m : Int) ≤ (m : Int) + 1 := by omega
          have z4 := HM.out.2.2
          go_simp
          exact hK _ _ (Below.refl _ _) rfl
        · -- 10: Op.binOp BinOp.add 9 (Operand.tmp 13) (Operand.tmp 20) 9
          refine AnyO.Step.mk rfl [2, 9] (by kernel_rfl) ?_
          intro vs u hE hp ac hb K hK
          have s13 : ac.tmps[13]?.getD undef = .string (decB q) := by rw [hb]; exact (show _ = vs 2 by kernel_rfl).trans (hp 2 (by decide))
          have s20 : ac.tmps[20]?.getD undef = .string (d10 m) := by rw [hb]; exact (show _ = vs 9 by kernel_rfl).trans (hp 9 (by decide))
          rw [if_pos (AnyO.wanted_none rfl)]
          clear hb hp
          have z1 : ¬ 9223372036854775807 < (decB q).size + (d10 m).size := by have := HZ.out; rw [d10_size]; omega
          go_simp
          exact hK _ _ (Below.refl _ _) rfl
        · -- 11: Op.assign (Operand.tmp 21)
          refine AnyO.Step.mk rfl [10, 2, 0, 1, 2, 3, 4, 5, 6, 7, 8, 9, 10] (by kernel_rfl) ?_
          intro vs u hE hp ac hb K hK
          have s21 : ac.tmps[21]?.getD undef = .string (decB q ++ (d10 m)) := by rw [hb]; exact (show _ = vs 10 by kernel_rfl).trans (hp 10 (by decide))
          rw [if_pos (AnyO.wanted_none rfl)]
          clear hb hp
          go_simp
          exact hK _ _ (Below.refl _ _) rfl
      · intro vs u hE hp
        have e0 : vs 0 = .int .i64 (n : Int) := hp 0 (by decide)
        have e1 : vs 1 = .int .i64 (q : Int) := hp 1 (by decide)
        have e2 : vs 2 = .string (decB q) := hp 2 (by decide)
        have e3 : vs 3 = .string ⟨#[48, 49, 50, 51, 52, 53, 54, 55, 56, 57]⟩ := hp 3 (by decide)
        have e4 : vs 4 = .int .i64 (n : Int) := hp 4 (by decide)
        have e5 : vs 5 = .int .i64 (m : Int) := hp 5 (by decide)
        have e6 : vs 6 = .int .i64 (n : Int) := hp 6 (by decide)
        have e7 : vs 7 = .int .i64 (m : Int) := hp 7 (by decide)
        have e8 : vs 8 = .int .i64 ((m : Int) + 1) := hp 8 (by decide)
        have e9 : vs 9 = .string (d10 m) := hp 9 (by decide)
        have e10 : vs 10 = .string (decB q ++ (d10 m)) := hp 10 (by decide)
        have e11 : vs 11 = .string (decB q ++ (d10 m)) := hp 11 (by decide)
        clear hp
        have HE := Lib.hid hE
        clear hE
        rw [puts_range [some 11, some 12, some 13, some 14, some 15, some 16, some 17, some 18, some 19, some 20, some 21, some 2] (by kernel_rfl)]
        simp only [putL, Nat.reduceAdd, e0, e1, e2, e3, e4, e5, e6, e7, e8, e9, e10, e11]
        clear e0 e1 e2 e3 e4 e5 e6 e7 e8 e9 e10 e11
        go_simp
        go_wp2
        go_ret
        exact ⟨congrArg (fun s => Ending.returned (.string s)) HS.out, HE.out⟩
theorem decimal75 (n : Int) (h0 : 0 ≤ n) (h1 : n ≤ 9223372036854775807) (w : World) : Calls Tryd.prog 75 #[.int .i64 n] w fun e w' => e = .returned (.string (itoaB n)) ∧ Below w.heap.size w w' := by
  obtain ⟨u, rfl⟩ : ∃ u : Nat, n = (u : Int) := ⟨n.toNat, by omega⟩
  rw [show itoaB (u : Int) = decB u by unfold itoaB decB; rw [Lib.itoa_nonneg]]
  exact decimal75n u u (Nat.le_refl _) (by omega) w
end
section
open Go.RowKit
def nmB (v : Int) : ByteArray := if v < 1 ∨ 11 < v then ⟨#[]⟩ else (formsL[v.toNat]?.getD (⟨#[]⟩, 0, 0)).1
def wordL : List ByteArray := (formsL.drop 1).map (·.1)
theorem names52 (w : World) : Calls Tryd.prog 52 #[] w fun e w' => e = .returned (.slice (some ⟨w.heap.size, 0, none⟩) 11 11) ∧ Row w' w.heap.size (wordL.map Value.string) 9 ∧ Below w.heap.size w w' := by
  have HR := Lib.hid (And.intro (Row.new w (wordL.map Value.string) 9) (below_alloc w (.cells (wordL.map Value.string).toArray 9)))
  go_enter Tryd.func52, Tryd.ntmps52
  go_wp2
  go_ret
  exact ⟨rfl, HR.out.1, HR.out.2⟩
theorem nmB_word (v : Int) (k : Nat) (h : v = (k : Int) + 1) (hk : k < 11) : ∃ h : k < wordL.length, nmB v = wordL[k] := by
  subst h
  refine ⟨hk, ?_⟩
  unfold nmB
  rw [if_neg (by omega)]
  have : k = 0 ∨ k = 1 ∨ k = 2 ∨ k = 3 ∨ k = 4 ∨ k = 5 ∨ k = 6 ∨ k = 7 ∨ k = 8 ∨ k = 9 ∨ k = 10 := by omega
  rcases this with rfl | rfl | rfl | rfl | rfl | rfl | rfl | rfl | rfl | rfl | rfl <;> rfl
set_option maxRecDepth 100000 in
set_option maxHeartbeats 1600000 in
theorem name24 (v : Int) (w : World) : Calls Tryd.prog 24 #[.int .i64 v] w fun e w' => e = .returned (.string (nmB v)) ∧ Below w.heap.size w w' := by
  by_cases h : v < 1 ∨ 11 < v
  · have h' : v < 1 ∨ (¬ v < 1 ∧ 11 < v) := by omega
    rcases h' with h1 | ⟨h1, h2⟩
    all_goals
      go_enter Tryd.func24, Tryd.ntmps24
      go_wp2
      go_ret
      exact ⟨by unfold nmB; rw [if_pos h]; rfl, Below.refl _ _⟩
  · obtain ⟨k, hk⟩ : ∃ k : Nat, v = (k : Int) + 1 := ⟨(v - 1).toNat, by omega⟩
    have hk11 : k < 11 := by omega
    obtain ⟨hl, e⟩ := nmB_word v k hk hk11
    obtain ⟨s, hs⟩ : ∃ s, wordL[k] = s := ⟨_, rfl⟩
    rw [e, hs]
    have HK := Lib.hid (fun (u : World) (hr : Row u w.heap.size (wordL.map Value.string) 9) => (show u.cell? ⟨w.heap.size, k, none⟩ = some (.string s) by rw [hr.cell k, List.getElem?_map, List.getElem?_eq_getElem hl, hs]; rfl))
    subst hk
    have r1 : ¬ (k : Int) + 1 < 1 := by omega
    have r2 : ¬ 11 < (k : Int) + 1 := by omega
    have r3 : (k : Int) < 11 := by omega
    clear h e hs hl
    go_enter Tryd.func24, Tryd.ntmps24
    go_wp2_with (go_at_call 52; refine (names52 _).mono ?_; rintro e w1 ⟨rfl, hr1, hb1⟩; have c1 := HK.out _ hr1; have H1 := Lib.hid hb1; clear hr1 hb1)
    go_ret
    exact ⟨rfl, H1.out⟩
set_option maxRecDepth 100000 in
set_option maxHeartbeats 1600000 in
theorem verbName23 (v : Int) (w : World) (hL : FormsAt w) : Calls Tryd.prog 23 #[.int .i64 v] w fun e w' => e = .returned (.string (nmB v)) ∧ Below w.heap.size w w' := by
  by_cases h : v < 1 ∨ 11 < v
  · go_enter Tryd.func23, Tryd.ntmps23
    go_wp2_with (go_at_call 35; refine (isVerb35_no _ _ h).mono ?_; rintro e w1 ⟨rfl, rfl⟩)
    go_ret
    exact ⟨by unfold nmB; rw [if_pos h]; rfl, Below.refl _ _⟩
  · obtain ⟨k, rfl⟩ : ∃ k : Nat, v = (k : Int) := ⟨v.toNat, by omega⟩
    have hk12 : k < formsL.length := by show k < 12; omega
    have c0 := hL.w0 hk12
    have e : nmB (k : Int) = formsL[k].1 := by unfold nmB; rw [if_neg h, Int.toNat_natCast, List.getElem?_eq_getElem hk12]; rfl
    rw [e]
    have r1 : 1 ≤ (k : Int) := by omega
    have r2 : (k : Int) ≤ 11 := by omega
    obtain ⟨s, hs⟩ : ∃ s, formsL[k].1 = s := ⟨_, rfl⟩
    rw [hs] at c0 ⊢
    have r3 : (k : Int) < 12 := by omega
    clear h e hs hk12
    go_enter Tryd.func23, Tryd.ntmps23
    go_wp2_with (go_at_call 35; refine (isVerb35 _ _ r1 r2).mono ?_; rintro e w1 ⟨rfl, rfl⟩)
    go_ret
    exact ⟨rfl, Below.refl _ _⟩
end
end Go.Proofs.YtfbpipknhghneaaDoor
