/- To of bulletinlaw33; the methods of a nil sender. -/
import Derived.Test.YtlelecnafdddhaaDoorL4a
namespace Go.Proofs.YtlelecnafdddhaaDoor
open Go.RowKit
/-- A command of the reference as one of the implementation. -/
def toS (k : Rc) : Cm := ⟨k.verb, ⟨#[]⟩, k.id, k.size, k.from_, 0, k.code, cutN k.text 50⟩

set_option maxRecDepth 100000 in
set_option maxHeartbeats 1600000 in
theorem to30 (k : Rc) (w : World) : Calls Tryd.prog 30 #[vK k] w fun e w' => e = .returned (vC (toS k)) ∧ Below w.heap.size w w' := by
  obtain ⟨q, hq⟩ : ∃ q, cutN k.text 50 = q := ⟨_, rfl⟩
  obtain ⟨mn, hmn⟩ : ∃ mn : Nat, min k.text.size 50 = mn := ⟨_, rfl⟩
  have hq2 : k.text.extract 0 mn = q := by rw [← hmn]; exact hq
  have hle : mn ≤ k.text.size := by omega
  have hmi : min (k.text.size : Int) 50 = (mn : Int) := by omega
  rw [show toS k = ⟨k.verb, ⟨#[]⟩, k.id, k.size, k.from_, 0, k.code, q⟩ from by unfold toS; rw [hq]]
  have HMN := Lib.hid (And.intro hmi (And.intro hq2 hle))
  clear hq hmn hq2 hle hmi
  go_enter Tryd.func30, Tryd.ntmps30
  go_wp2
  have HW2 := Lib.hid (Below.step (below_alloc w (.cells (aK k) 55)) (below_alloc (w.alloc (.cells (aK k) 55)) (.cells (aC zC) 45)))
  have R1 : Row ((w.alloc (.cells (aK k) 55)).alloc (.cells (aC zC) 45)) w.heap.size (cK k) 55 := (Row.new w (cK k) 55).keep (below_alloc _ _)
  have R2 : Row ((w.alloc (.cells (aK k) 55)).alloc (.cells (aC zC) 45)) (w.heap.size + 1) (cC zC) 45 := by
    have h := Row.new (w.alloc (.cells (aK k) 55)) (cC zC) 45
    rwa [show (w.alloc (.cells (aK k) 55)).heap.size = w.heap.size + 1 by simp] at h
  change Code.wp _ _ _ _ ((w.alloc (.cells (aK k) 55)).alloc (.cells (aC zC) 45))
  generalize ((w.alloc (.cells (aK k) 55)).alloc (.cells (aC zC) 45)) = W2 at HW2 R1 R2 ⊢
  obtain ⟨b2, hb2⟩ : ∃ b2, b2 = w.heap.size + 1 := ⟨_, rfl⟩
  rw [← hb2] at R2 ⊢
  have hB2 : w.heap.size ≤ b2 := by omega
  clear hb2
  obtain ⟨b1, hb1⟩ : ∃ b1, b1 = w.heap.size := ⟨_, rfl⟩
  rw [← hb1] at R1 ⊢
  clear hb1
  obtain ⟨m0, m1, m2, m3, m4, m36, _, hsz⟩ := row_K R1
  have HR := Lib.hid (And.intro R1 (And.intro R2 hB2))
  clear R1 R2 hB2
  refine AnyO.wp_any_tail 17 (by kernel_rfl) (by kernel_rfl) (by kernel_rfl) (by kernel_rfl) (by kernel_rfl) (by kernel_rfl) (pstP [isV (.pointer (some ⟨b1, 0, none⟩)), isV (.int .i64 k.verb), isV (.pointer (some ⟨b1, 4, none⟩)), isV (vI k.id), isV (.pointer (some ⟨b1, 1, none⟩)), isV (.int .i64 k.size), isV (.pointer (some ⟨b1, 2, none⟩)), isV (.int .i64 k.from_), isV (.pointer (some ⟨b1, 3, none⟩)), isV (.int .i64 k.code), isV (.pointer (some ⟨b1, 36, none⟩)), isV (.string k.text), isV (.pointer (some ⟨b1, 36, none⟩)), isV (.string k.text), isV (.int .i64 (k.text.size : Int)), isV (.int .i64 (mn : Int)), isV (.string q)]) (MonoL.cons (Mono.v _) (MonoL.cons (Mono.v _) (MonoL.cons (Mono.v _) (MonoL.cons (Mono.v _) (MonoL.cons (Mono.v _) (MonoL.cons (Mono.v _) (MonoL.cons (Mono.v _) (MonoL.cons (Mono.v _) (MonoL.cons (Mono.v _) (MonoL.cons (Mono.v _) (MonoL.cons (Mono.v _) (MonoL.cons (Mono.v _) (MonoL.cons (Mono.v _) (MonoL.cons (Mono.v _) (MonoL.cons (Mono.v _) (MonoL.cons (Mono.v _) (MonoL.cons (Mono.v _) MonoL.nil))))))))))))))))) ?_ ?_
  · intro i hi
    have hi2 : i = 0 ∨ i = 1 ∨ i = 2 ∨ i = 3 ∨ i = 4 ∨ i = 5 ∨ i = 6 ∨ i = 7 ∨ i = 8 ∨ i = 9 ∨ i = 10 ∨ i = 11 ∨ i = 12 ∨ i = 13 ∨ i = 14 ∨ i = 15 ∨ i = 16 := by omega
    clear hi
    rcases hi2 with rfl | rfl | rfl | rfl | rfl | rfl | rfl | rfl | rfl | rfl | rfl | rfl | rfl | rfl | rfl | rfl | rfl
    · -- 0: Op.fieldAddr 55 (Operand.tmp 1) 0
      refine AnyO.Step.mk rfl [] (by kernel_rfl) ?_
      intro vs u hE hp ac hb K hK
      have s1 : ac.tmps[1]?.getD undef = .pointer (some ⟨b1, 0, none⟩) := by rw [hb]; kernel_rfl
      rw [if_pos (AnyO.wanted_none rfl)]
      clear hb hp
      go_simp
      exact hK _ _ (Below.refl _ _) rfl
    · -- 1: Op.load 3 (Operand.tmp 3)
      refine AnyO.Step.mk rfl [0] (by kernel_rfl) ?_
      intro vs u hE hp ac hb K hK
      have s3 : ac.tmps[3]?.getD undef = .pointer (some ⟨b1, 0, none⟩) := by rw [hb]; exact (show _ = vs 0 by kernel_rfl).trans (hp 0 (by decide))
      rw [if_pos (AnyO.wanted_none rfl)]
      clear hb hp
      have rr := cell_below m0 (Below.step (below_drew _) hE)
      go_simp
      exact hK _ _ (Below.refl _ _) rfl
    · -- 2: Op.fieldAddr 55 (Operand.tmp 1) 4
      refine AnyO.Step.mk rfl [] (by kernel_rfl) ?_
      intro vs u hE hp ac hb K hK
      have s1 : ac.tmps[1]?.getD undef = .pointer (some ⟨b1, 0, none⟩) := by rw [hb]; kernel_rfl
      rw [if_pos (AnyO.wanted_none rfl)]
      clear hb hp
      go_simp
      exact hK _ _ (Below.refl _ _) rfl
    · -- 3: Op.load 22 (Operand.tmp 5)
      refine AnyO.Step.mk rfl [2] (by kernel_rfl) ?_
      intro vs u hE hp ac hb K hK
      have s5 : ac.tmps[5]?.getD undef = .pointer (some ⟨b1, 4, none⟩) := by rw [hb]; exact (show _ = vs 2 by kernel_rfl).trans (hp 2 (by decide))
      rw [if_pos (AnyO.wanted_none rfl)]
      clear hb hp
      have rr := okA_below m4.1 hsz (Below.step (below_drew _) hE)
      rw [m4.2] at rr
      obtain ⟨rr1, rr2⟩ := rr
      go_simp
      exact hK _ _ (Below.refl _ _) rfl
    · -- 4: Op.fieldAddr 55 (Operand.tmp 1) 1
      refine AnyO.Step.mk rfl [] (by kernel_rfl) ?_
      intro vs u hE hp ac hb K hK
      have s1 : ac.tmps[1]?.getD undef = .pointer (some ⟨b1, 0, none⟩) := by rw [hb]; kernel_rfl
      rw [if_pos (AnyO.wanted_none rfl)]
      clear hb hp
      go_simp
      exact hK _ _ (Below.refl _ _) rfl
    · -- 5: Op.load 3 (Operand.tmp 7)
      refine AnyO.Step.mk rfl [4] (by kernel_rfl) ?_
      intro vs u hE hp ac hb K hK
      have s7 : ac.tmps[7]?.getD undef = .pointer (some ⟨b1, 1, none⟩) := by rw [hb]; exact (show _ = vs 4 by kernel_rfl).trans (hp 4 (by decide))
      rw [if_pos (AnyO.wanted_none rfl)]
      clear hb hp
      have rr := cell_below m1 (Below.step (below_drew _) hE)
      go_simp
      exact hK _ _ (Below.refl _ _) rfl
    · -- 6: Op.fieldAddr 55 (Operand.tmp 1) 2
      refine AnyO.Step.mk rfl [] (by kernel_rfl) ?_
      intro vs u hE hp ac hb K hK
      have s1 : ac.tmps[1]?.getD undef = .pointer (some ⟨b1, 0, none⟩) := by rw [hb]; kernel_rfl
      rw [if_pos (AnyO.wanted_none rfl)]
      clear hb hp
      go_simp
      exact hK _ _ (Below.refl _ _) rfl
    · -- 7: Op.load 3 (Operand.tmp 9)
      refine AnyO.Step.mk rfl [6] (by kernel_rfl) ?_
      intro vs u hE hp ac hb K hK
      have s9 : ac.tmps[9]?.getD undef = .pointer (some ⟨b1, 2, none⟩) := by rw [hb]; exact (show _ = vs 6 by kernel_rfl).trans (hp 6 (by decide))
      rw [if_pos (AnyO.wanted_none rfl)]
      clear hb hp
      have rr := cell_below m2 (Below.step (below_drew _) hE)
      go_simp
      exact hK _ _ (Below.refl _ _) rfl
    · -- 8: Op.fieldAddr 55 (Operand.tmp 1) 3
      refine AnyO.Step.mk rfl [] (by kernel_rfl) ?_
      intro vs u hE hp ac hb K hK
      have s1 : ac.tmps[1]?.getD undef = .pointer (some ⟨b1, 0, none⟩) := by rw [hb]; kernel_rfl
      rw [if_pos (AnyO.wanted_none rfl)]
      clear hb hp
      go_simp
      exact hK _ _ (Below.refl _ _) rfl
    · -- 9: Op.load 3 (Operand.tmp 11)
      refine AnyO.Step.mk rfl [8] (by kernel_rfl) ?_
      intro vs u hE hp ac hb K hK
      have s11 : ac.tmps[11]?.getD undef = .pointer (some ⟨b1, 3, none⟩) := by rw [hb]; exact (show _ = vs 8 by kernel_rfl).trans (hp 8 (by decide))
      rw [if_pos (AnyO.wanted_none rfl)]
      clear hb hp
      have rr := cell_below m3 (Below.step (below_drew _) hE)
      go_simp
      exact hK _ _ (Below.refl _ _) rfl
    · -- 10: Op.fieldAddr 55 (Operand.tmp 1) 5
      refine AnyO.Step.mk rfl [] (by kernel_rfl) ?_
      intro vs u hE hp ac hb K hK
      have s1 : ac.tmps[1]?.getD undef = .pointer (some ⟨b1, 0, none⟩) := by rw [hb]; kernel_rfl
      rw [if_pos (AnyO.wanted_none rfl)]
      clear hb hp
      go_simp
      exact hK _ _ (Below.refl _ _) rfl
    · -- 11: Op.load 9 (Operand.tmp 13)
      refine AnyO.Step.mk rfl [10] (by kernel_rfl) ?_
      intro vs u hE hp ac hb K hK
      have s13 : ac.tmps[13]?.getD undef = .pointer (some ⟨b1, 36, none⟩) := by rw [hb]; exact (show _ = vs 10 by kernel_rfl).trans (hp 10 (by decide))
      rw [if_pos (AnyO.wanted_none rfl)]
      clear hb hp
      have rr := cell_below m36 (Below.step (below_drew _) hE)
      go_simp
      exact hK _ _ (Below.refl _ _) rfl
    · -- 12: Op.fieldAddr 55 (Operand.tmp 1) 5
      refine AnyO.Step.mk rfl [] (by kernel_rfl) ?_
      intro vs u hE hp ac hb K hK
      have s1 : ac.tmps[1]?.getD undef = .pointer (some ⟨b1, 0, none⟩) := by rw [hb]; kernel_rfl
      rw [if_pos (AnyO.wanted_none rfl)]
      clear hb hp
      go_simp
      exact hK _ _ (Below.refl _ _) rfl
    · -- 13: Op.load 9 (Operand.tmp 15)
      refine AnyO.Step.mk rfl [12] (by kernel_rfl) ?_
      intro vs u hE hp ac hb K hK
      have s15 : ac.tmps[15]?.getD undef = .pointer (some ⟨b1, 36, none⟩) := by rw [hb]; exact (show _ = vs 12 by kernel_rfl).trans (hp 12 (by decide))
      rw [if_pos (AnyO.wanted_none rfl)]
      clear hb hp
      have rr := cell_below m36 (Below.step (below_drew _) hE)
      go_simp
      exact hK _ _ (Below.refl _ _) rfl
    · -- 14: Op.call { callee := Callee.builtin Builtin.len, args := #[Op
      refine AnyO.Step.mk rfl [13] (by kernel_rfl) ?_
      intro vs u hE hp ac hb K hK
      have s16 : ac.tmps[16]?.getD undef = .string k.text := by rw [hb]; exact (show _ = vs 13 by kernel_rfl).trans (hp 13 (by decide))
      rw [if_pos (AnyO.wanted_none rfl)]
      clear hb hp
      go_simp
      exact hK _ _ (Below.refl _ _) rfl
    · -- 15: Op.call { callee := Callee.builtin Builtin.min, args := #[Op
      refine AnyO.Step.mk rfl [14] (by kernel_rfl) ?_
      intro vs u hE hp ac hb K hK
      have s17 : ac.tmps[17]?.getD undef = .int .i64 (k.text.size : Int) := by rw [hb]; exact (show _ = vs 14 by kernel_rfl).trans (hp 14 (by decide))
      rw [if_pos (AnyO.wanted_none rfl)]
      clear hb hp
      have rr := HMN.out.1
      go_simp
      exact hK _ _ (Below.refl _ _) rfl
    · -- 16: Op.slice 9 (Operand.tmp 14) none (some (Operand.tmp 18)) non
      refine AnyO.Step.mk rfl [11, 15] (by kernel_rfl) ?_
      intro vs u hE hp ac hb K hK
      have s14 : ac.tmps[14]?.getD undef = .string k.text := by rw [hb]; exact (show _ = vs 11 by kernel_rfl).trans (hp 11 (by decide))
      have s18 : ac.tmps[18]?.getD undef = .int .i64 (mn : Int) := by rw [hb]; exact (show _ = vs 15 by kernel_rfl).trans (hp 15 (by decide))
      rw [if_pos (AnyO.wanted_none rfl)]
      clear hb hp
      have rr := HMN.out.2.1
      have rr2 := HMN.out.2.2
      go_simp
      exact hK _ _ (Below.refl _ _) rfl
  · intro vs u hE hp
    have e0 : vs 0 = .pointer (some ⟨b1, 0, none⟩) := hp 0 (by decide)
    have e1 : vs 1 = .int .i64 k.verb := hp 1 (by decide)
    have e2 : vs 2 = .pointer (some ⟨b1, 4, none⟩) := hp 2 (by decide)
    have e3 : vs 3 = vI k.id := hp 3 (by decide)
    have e4 : vs 4 = .pointer (some ⟨b1, 1, none⟩) := hp 4 (by decide)
    have e5 : vs 5 = .int .i64 k.size := hp 5 (by decide)
    have e6 : vs 6 = .pointer (some ⟨b1, 2, none⟩) := hp 6 (by decide)
    have e7 : vs 7 = .int .i64 k.from_ := hp 7 (by decide)
    have e8 : vs 8 = .pointer (some ⟨b1, 3, none⟩) := hp 8 (by decide)
    have e9 : vs 9 = .int .i64 k.code := hp 9 (by decide)
    have e10 : vs 10 = .pointer (some ⟨b1, 36, none⟩) := hp 10 (by decide)
    have e11 : vs 11 = .string k.text := hp 11 (by decide)
    have e12 : vs 12 = .pointer (some ⟨b1, 36, none⟩) := hp 12 (by decide)
    have e13 : vs 13 = .string k.text := hp 13 (by decide)
    have e14 : vs 14 = .int .i64 (k.text.size : Int) := hp 14 (by decide)
    have e15 : vs 15 = .int .i64 (mn : Int) := hp 15 (by decide)
    have e16 : vs 16 = .string q := hp 16 (by decide)
    clear hp
    have HE := Lib.hid hE
    clear hE
    rw [puts_range [some 3, some 4, some 5, some 6, some 7, some 8, some 9, some 10, some 11, some 12, some 13, some 14, some 15, some 16, some 17, some 18, some 19] (by kernel_rfl)]
    simp only [putL, Nat.reduceAdd, List.drop_succ_cons, List.drop_zero, e0, e1, e2, e3, e4, e5, e6, e7, e8, e9, e10, e11, e12, e13, e14, e15, e16]
    clear e0 e1 e2 e3 e4 e5 e6 e7 e8 e9 e10 e11 e12 e13 e14 e15 e16
    go_simp
    have R3 := HR.out.2.1.keep HE.out
    have j1 := R3.rok (cC_length zC)
    have HS := Lib.hid R3
    clear R3
    go_wp2
    exact bodyPost_ret (v := vC ⟨k.verb, ⟨#[]⟩, k.id, k.size, k.from_, 0, k.code, q⟩) (results_c1 (ad := ⟨b2, 0, none⟩) rfl rfl (load_C HS.out.setRow)) rfl ⟨rfl, Below.setRow' (Below.step HW2.out HE.out) HR.out.2.2 _⟩

end Go.Proofs.YtlelecnafdddhaaDoor
