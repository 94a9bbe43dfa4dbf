/- The words of a block in the reference: bulletinref05.schedule. -/
import Derived.Test.YtecalodcbkljoaaGreatDoorMRpd
import Derived.Test.YtecalodcbkljoaaGreatDoorMPro
namespace Go.Proofs.YtecalodcbkljoaaGreatDoor
open Go.RowKit
theorem be_ref (a b c d : Wd) : ((a <<< 24 ||| b <<< 16) ||| c <<< 8) ||| d = (((a <<< 8 ||| b) <<< 8 ||| c) <<< 8) ||| d := by
  rw [BitVec.shiftLeft_or_distrib, BitVec.shiftLeft_or_distrib, BitVec.shiftLeft_or_distrib, ← BitVec.shiftLeft_add, ← BitVec.shiftLeft_add, ← BitVec.shiftLeft_add]
/-- The words of a block behind t rounds. -/
def scT (m : Nat → Wd) (t : Nat) : W64 := ⟨(List.range 64).map fun j => if j < t then sw m j else 0#32, by simp⟩
theorem scT_at (m : Nat → Wd) (t j : Nat) (h : j < 64) : (scT m t).1[j]? = some (if j < t then sw m j else 0#32) := by
  show ((List.range 64).map fun j => if j < t then sw m j else 0#32)[j]? = _
  rw [List.getElem?_map, List.getElem?_range h]
  rfl
theorem scT_zero (m : Nat → Wd) : scT m 0 = zL := by
  apply Subtype.ext
  show (List.range 64).map (fun j => if j < 0 then sw m j else 0#32) = List.replicate 64 0#32
  refine List.ext_getElem (by simp) fun i h1 h2 => ?_
  rw [List.getElem_replicate]
  simp
theorem scT_step (m : Nat → Wd) (t : Nat) (h : t < 64) : cL (scT m (t + 1)) = (cL (scT m t)).set t (vW (sw m t)) := by
  unfold cL
  rw [← List.map_set]
  congr 1
  refine List.ext_getElem? fun i => ?_
  by_cases hi : i < 64
  · by_cases e : t = i
    · subst e
      rw [scT_at m (t + 1) t hi, List.getElem?_set_self (by rw [(scT m t).2]; exact h), if_pos (by omega)]
    · rw [scT_at m (t + 1) i hi, List.getElem?_set_ne e, scT_at m t i hi]
      by_cases h2 : i < t
      · rw [if_pos (by omega), if_pos h2]
      · rw [if_neg (by omega), if_neg h2]
  · rw [List.getElem?_eq_none (by rw [(scT m (t + 1)).2]; omega), List.getElem?_eq_none (by rw [List.length_set, (scT m t).2]; omega)]
/-- The variables of schedule. -/
structure ScI (w : World) (b : Nat) (m : Nat → Wd) (t : Nat) (wr : World) : Prop where
  size : w.heap.size = b
  below : Below w.heap.size w wr
  ro : Row wr b (cL zL) 116
  rd : Row wr (b + 1) (cL (scT m t)) 116
theorem ScI.keep {w : World} {b : Nat} {m : Nat → Wd} {t : Nat} {wr w' : World} (h : ScI w b m t wr) (hb : Below wr.heap.size wr w') : ScI w b m t w' :=
  ⟨h.size, Below.step h.below hb, h.ro.keep hb, h.rd.keep hb⟩
theorem ScI.set {w : World} {b : Nat} {m : Nat → Wd} {t : Nat} {wr : World} (h : ScI w b m t wr) (ht : t < 64) {x : Wd} (hx : x = sw m t) : ScI w b m (t + 1) (wr.setCell ⟨b + 1, t, none⟩ (.int .u32 (iW x))) := by
  have hs := h.size
  subst hx
  refine ⟨h.size, h.below.setCell (show w.heap.size ≤ b + 1 by omega) _, h.ro.same (heap_set_other _ _ _ _ _ (by omega)), ?_⟩
  rw [scT_step m t ht]
  exact h.rd.set t (vW (sw m t))
theorem ScI.at_ {w : World} {b : Nat} {m : Nat → Wd} {t : Nat} {wr : World} (h : ScI w b m t wr) {j : Nat} (hj : j < t) (hj2 : j < 64) : wr.cell? ⟨b + 1, j, none⟩ = some (vW (sw m j)) := by
  rw [h.rd.cell j]
  unfold cL
  rw [List.getElem?_map, scT_at m t j hj2, if_pos hj]
  rfl
theorem ScI.has {w : World} {b : Nat} {m : Nat → Wd} {t : Nat} {wr : World} (h : ScI w b m t wr) (ht : t < 64) : ∃ v, wr.cell? ⟨b + 1, t, none⟩ = some v := by
  rw [h.rd.cell t]
  exact ⟨_, List.getElem?_eq_getElem (by rw [cL_length]; exact ht)⟩
theorem ScI.zero {w : World} {b : Nat} (m : Nat → Wd) (hb : w.heap.size = b) : ScI w b m 0 ((w.alloc (.cells (aL zL) 116)).alloc (.cells (aL zL) 116)) := by
  subst hb
  have r3 := Row.new (w.alloc (.cells (aL zL) 116)) (cL zL) 116
  rw [show (w.alloc (.cells (aL zL) 116)).heap.size = w.heap.size + 1 by simp] at r3
  refine ⟨rfl, Below.step (below_alloc _ _) (below_alloc _ _), (Row.new w (cL zL) 116).keep (below_alloc _ _), ?_⟩
  rw [scT_zero]
  exact r3
theorem w_ofByte2 (c : UInt8) : (c.toNat : Int) % 4294967296 = iW (bw c) := by
  have := c.toNat_lt
  unfold iW bw
  rw [BitVec.toNat_ofNat, Nat.mod_eq_of_lt (by omega)]
  omega
theorem w_ofByte3 (c : UInt8) : IntKind.u32.wrap (c.toNat : Int) = iW (bw c) := w_ofByte c
set_option maxRecDepth 100000 in
set_option maxHeartbeats 6400000 in
theorem schedule_r (A : Option Addr) (c : Nat) (l : List UInt8) (w : World) (hs : Sl w c1 A l) (hl : l.length = 64) : Calls Tryz.prog 66 #[.slice A 64 c] w fun e w' => e = .returned (vL (scT (be l) 64)) ∧ Below w.heap.size w w' := by
  obtain ⟨ad, rfl, -⟩ := Sl.byte hs (k := 0) (by omega)
  obtain ⟨b, hb⟩ : ∃ b, w.heap.size = b := ⟨_, rfl⟩
  obtain ⟨W0, hW0⟩ : ∃ W0, (w.alloc (.cells (aL zL) 116)).alloc (.cells (aL zL) 116) = W0 := ⟨_, rfl⟩
  have HP := Lib.hid (show ScI w b (be l) 0 W0 from by
    rw [← hW0]
    exact ScI.zero _ hb)
  have HS := Lib.hid (And.intro hs hl)
  clear hs hl
  go_enter Tryz.func66, Tryz.ntmps66
  go_wp2_with fail
  clear hb hW0
  go_loopw [4] (fun i wr => ∃ t : Nat, t ≤ 64 ∧ i = .int .i64 t ∧ ScI w b (be l) t wr) (fun i _ => 64 - (intOf i).toNat)
  case atStart => exact ⟨0, by omega, rfl, HP.out⟩
  case round =>
    obtain ⟨t, ht, rfl, hr⟩ := hrel
    have HR := Lib.hid hr
    clear hr
    by_cases hlt : t < 64
    · have hlti : (t : Int) < 64 := by omega
      by_cases h16 : t < 16
      · have h16i : (t : Int) < 16 := by omega
        have HB : ∀ j, j < 64 → ∃ y, l[j]? = some y ∧ wr.cell? (ad.add j) = some (vB y) := fun j hj => by
          obtain ⟨ad', e, h⟩ := Sl.byte (HS.out.1.keep HR.out.below) (k := j) (by rw [HS.out.2]; exact hj)
          injection e with e
          subst e
          exact ⟨_, List.getElem?_eq_getElem _, h⟩
        obtain ⟨k0, hk0⟩ : ∃ k, 4 * t = k := ⟨_, rfl⟩
        obtain ⟨k1, hk1⟩ : ∃ k, 4 * t + 1 = k := ⟨_, rfl⟩
        obtain ⟨k2, hk2⟩ : ∃ k, 4 * t + 2 = k := ⟨_, rfl⟩
        obtain ⟨k3, hk3⟩ : ∃ k, 4 * t + 3 = k := ⟨_, rfl⟩
        obtain ⟨y0, hy0, d0⟩ := HB k0 (by omega)
        obtain ⟨y1, hy1, d1⟩ := HB k1 (by omega)
        obtain ⟨y2, hy2, d2⟩ := HB k2 (by omega)
        obtain ⟨y3, hy3, d3⟩ := HB k3 (by omega)
        have HBE := Lib.hid (show ((bw y0 <<< 24 ||| bw y1 <<< 16) ||| bw y2 <<< 8) ||| bw y3 = sw (be l) t from by
          rw [sw_lo _ _ h16, be_ref]
          unfold be
          rw [hk1, hk2, hk3, hk0, hy0, hy1, hy2, hy3]
          rfl)
        have HD := Lib.hid (And.intro d0 (And.intro d1 (And.intro d2 d3)))
        have HQ := Lib.hid (show (4 * (t : Int) = (k0 : Int) ∧ (k0 : Int) + 1 = (k1 : Int) ∧ (k0 : Int) + 2 = (k2 : Int) ∧ (k0 : Int) + 3 = (k3 : Int)) ∧ (k0 : Int) < 64 ∧ (k1 : Int) < 64 ∧ (k2 : Int) < 64 ∧ (k3 : Int) < 64 from by omega)
        clear HB hk0 hk1 hk2 hk3 hy0 hy1 hy2 hy3 d0 d1 d2 d3
        go_wp2_with fail
        refine AnyO.wp_any_tail 34 (by kernel_rfl) (by kernel_rfl) (by kernel_rfl) (by kernel_rfl) (by kernel_rfl) (by kernel_rfl) (pstP [isV (.int .i64 (t : Int)), isV (.slice (some ad) 64 c), isV (.int .i64 (t : Int)), isV (.int .i64 (k0 : Int)), isV (.pointer (some (ad.add k0))), isV (vB y0), isV (vW (bw y0)), isV (vW (bw y0 <<< 24)), isV (.slice (some ad) 64 c), isV (.int .i64 (t : Int)), isV (.int .i64 (k0 : Int)), isV (.int .i64 (k1 : Int)), isV (.pointer (some (ad.add k1))), isV (vB y1), isV (vW (bw y1)), isV (vW (bw y1 <<< 16)), isV (vW (bw y0 <<< 24 ||| bw y1 <<< 16)), isV (.slice (some ad) 64 c), isV (.int .i64 (t : Int)), isV (.int .i64 (k0 : Int)), isV (.int .i64 (k2 : Int)), isV (.pointer (some (ad.add k2))), isV (vB y2), isV (vW (bw y2)), isV (vW (bw y2 <<< 8)), isV (vW ((bw y0 <<< 24 ||| bw y1 <<< 16) ||| bw y2 <<< 8)), isV (.slice (some ad) 64 c), isV (.int .i64 (t : Int)), isV (.int .i64 (k0 : Int)), isV (.int .i64 (k3 : Int)), isV (.pointer (some (ad.add k3))), isV (vB y3), isV (vW (bw y3)), isV (vW (((bw y0 <<< 24 ||| bw y1 <<< 16) ||| bw y2 <<< 8) ||| bw y3))]) (MonoL.cons (Mono.v _) (MonoL.cons (Mono.v _) (MonoL.cons (Mono.v _) (MonoL.cons (Mono.v _) (MonoL.cons (Mono.v _) (MonoL.cons (Mono.v _) (MonoL.cons (Mono.v _) (MonoL.cons (Mono.v _) (MonoL.cons (Mono.v _) (MonoL.cons (Mono.v _) (MonoL.cons (Mono.v _) (MonoL.cons (Mono.v _) (MonoL.cons (Mono.v _) (MonoL.cons (Mono.v _) (MonoL.cons (Mono.v _) (MonoL.cons (Mono.v _) (MonoL.cons (Mono.v _) (MonoL.cons (Mono.v _) (MonoL.cons (Mono.v _) (MonoL.cons (Mono.v _) (MonoL.cons (Mono.v _) (MonoL.cons (Mono.v _) (MonoL.cons (Mono.v _) (MonoL.cons (Mono.v _) (MonoL.cons (Mono.v _) (MonoL.cons (Mono.v _) (MonoL.cons (Mono.v _) (MonoL.cons (Mono.v _) (MonoL.cons (Mono.v _) (MonoL.cons (Mono.v _) (MonoL.cons (Mono.v _) (MonoL.cons (Mono.v _) (MonoL.cons (Mono.v _) (MonoL.cons (Mono.v _) MonoL.nil)))))))))))))))))))))))))))))))))) ?_ ?_
        · intro i hi
          have hi2 : i = 0 ∨ i = 1 ∨ i = 2 ∨ i = 3 ∨ i = 4 ∨ i = 5 ∨ i = 6 ∨ i = 7 ∨ i = 8 ∨ i = 9 ∨ i = 10 ∨ i = 11 ∨ i = 12 ∨ i = 13 ∨ i = 14 ∨ i = 15 ∨ i = 16 ∨ i = 17 ∨ i = 18 ∨ i = 19 ∨ i = 20 ∨ i = 21 ∨ i = 22 ∨ i = 23 ∨ i = 24 ∨ i = 25 ∨ i = 26 ∨ i = 27 ∨ i = 28 ∨ i = 29 ∨ i = 30 ∨ i = 31 ∨ i = 32 ∨ i = 33 := by omega
          clear hi
          rcases hi2 with rfl | rfl | rfl | rfl | rfl | rfl | rfl | rfl | rfl | rfl | rfl | rfl | rfl | rfl | rfl | rfl | rfl | rfl | rfl | rfl | rfl | rfl | rfl | rfl | rfl | rfl | rfl | rfl | rfl | rfl | rfl | rfl | rfl | rfl
          · -- 0: Op.move (Operand.tmp 4)
            refine AnyO.Step.mk rfl [] (by kernel_rfl) ?_
            intro vs u hE hp ac hb K hK
            have s4 : ac.tmps[4]?.getD undef = .int .i64 (t : Int) := by rw [hb]; kernel_rfl
            rw [if_pos (AnyO.wanted_none rfl)]
            clear hb hp
            go_simp
            exact hK _ _ (Below.refl _ _) rfl
          · -- 1: Op.move (Operand.tmp 0)
            refine AnyO.Step.mk rfl [] (by kernel_rfl) ?_
            intro vs u hE hp ac hb K hK
            have s0 : ac.tmps[0]?.getD undef = .slice (some ad) 64 c := by rw [hb]; kernel_rfl
            rw [if_pos (AnyO.wanted_none rfl)]
            clear hb hp
            go_simp
            exact hK _ _ (Below.refl _ _) rfl
          · -- 2: Op.move (Operand.tmp 4)
            refine AnyO.Step.mk rfl [] (by kernel_rfl) ?_
            intro vs u hE hp ac hb K hK
            have s4 : ac.tmps[4]?.getD undef = .int .i64 (t : Int) := by rw [hb]; kernel_rfl
            rw [if_pos (AnyO.wanted_none rfl)]
            clear hb hp
            go_simp
            exact hK _ _ (Below.refl _ _) rfl
          · -- 3: Op.binOp BinOp.mul 3 (Operand.const (Value.int IntKind.i64 4
            refine AnyO.Step.mk rfl [2] (by kernel_rfl) ?_
            intro vs u hE hp ac hb K hK
            have s15 : ac.tmps[15]?.getD undef = .int .i64 (t : Int) := by rw [hb]; exact (show _ = vs 2 by kernel_rfl).trans (hp 2 (by decide))
            rw [if_pos (AnyO.wanted_none rfl)]
            clear hb hp
            have r1 := HQ.out.1.1
            have r2 : IntKind.i64.wrap (k0 : Int) = (k0 : Int) := IntWalk.i64_in _ (by have := HQ.out.2.1; omega)
            go_simp
            exact hK _ _ (Below.refl _ _) rfl
          · -- 4: Op.indexAddr 47 (Operand.tmp 14) (Operand.tmp 16)
            refine AnyO.Step.mk rfl [1, 3] (by kernel_rfl) ?_
            intro vs u hE hp ac hb K hK
            have s14 : ac.tmps[14]?.getD undef = .slice (some ad) 64 c := by rw [hb]; exact (show _ = vs 1 by kernel_rfl).trans (hp 1 (by decide))
            have s16 : ac.tmps[16]?.getD undef = .int .i64 (k0 : Int) := by rw [hb]; exact (show _ = vs 3 by kernel_rfl).trans (hp 3 (by decide))
            rw [if_pos (AnyO.wanted_none rfl)]
            clear hb hp
            have r1 := HQ.out.2.1
            go_simp
            exact hK _ _ (Below.refl _ _) rfl
          · -- 5: Op.load 5 (Operand.tmp 17)
            refine AnyO.Step.mk rfl [4] (by kernel_rfl) ?_
            intro vs u hE hp ac hb K hK
            have s17 : ac.tmps[17]?.getD undef = .pointer (some (ad.add k0)) := by rw [hb]; exact (show _ = vs 4 by kernel_rfl).trans (hp 4 (by decide))
            rw [if_pos (AnyO.wanted_none rfl)]
            clear hb hp
            have r1 := cell_below HD.out.1 (Below.step (below_drew wr) hE)
            go_simp
            exact hK _ _ (Below.refl _ _) rfl
          · -- 6: Op.convert 5 114 (Operand.tmp 18)
            refine AnyO.Step.mk rfl [5] (by kernel_rfl) ?_
            intro vs u hE hp ac hb K hK
            have s18 : ac.tmps[18]?.getD undef = vB y0 := by rw [hb]; exact (show _ = vs 5 by kernel_rfl).trans (hp 5 (by decide))
            rw [if_pos (AnyO.wanted_none rfl)]
            clear hb hp
            have r1 := w_ofByte2 y0
            have r2 := w_ofByte3 y0
            go_simp
            exact hK _ _ (Below.refl _ _) rfl
          · -- 7: Op.binOp BinOp.shl 114 (Operand.tmp 19) (Operand.const (Valu
            refine AnyO.Step.mk rfl [6] (by kernel_rfl) ?_
            intro vs u hE hp ac hb K hK
            have s19 : ac.tmps[19]?.getD undef = vW (bw y0) := by rw [hb]; exact (show _ = vs 6 by kernel_rfl).trans (hp 6 (by decide))
            rw [if_pos (AnyO.wanted_none rfl)]
            clear hb hp
            have r1 : iW (bw y0) * (16777216 : Int) % (4294967296 : Int) = iW (bw y0 <<< 24) := m_shl (bw y0) 24
            have r2 : IntKind.u32.wrap (iW (bw y0) * (16777216 : Int)) = iW (bw y0 <<< 24) := w_shl (bw y0) 24
            go_simp
            exact hK _ _ (Below.refl _ _) rfl
          · -- 8: Op.move (Operand.tmp 0)
            refine AnyO.Step.mk rfl [] (by kernel_rfl) ?_
            intro vs u hE hp ac hb K hK
            have s0 : ac.tmps[0]?.getD undef = .slice (some ad) 64 c := by rw [hb]; kernel_rfl
            rw [if_pos (AnyO.wanted_none rfl)]
            clear hb hp
            go_simp
            exact hK _ _ (Below.refl _ _) rfl
          · -- 9: Op.move (Operand.tmp 4)
            refine AnyO.Step.mk rfl [] (by kernel_rfl) ?_
            intro vs u hE hp ac hb K hK
            have s4 : ac.tmps[4]?.getD undef = .int .i64 (t : Int) := by rw [hb]; kernel_rfl
            rw [if_pos (AnyO.wanted_none rfl)]
            clear hb hp
            go_simp
            exact hK _ _ (Below.refl _ _) rfl
          · -- 10: Op.binOp BinOp.mul 3 (Operand.const (Value.int IntKind.i64 4
            refine AnyO.Step.mk rfl [9] (by kernel_rfl) ?_
            intro vs u hE hp ac hb K hK
            have s22 : ac.tmps[22]?.getD undef = .int .i64 (t : Int) := by rw [hb]; exact (show _ = vs 9 by kernel_rfl).trans (hp 9 (by decide))
            rw [if_pos (AnyO.wanted_none rfl)]
            clear hb hp
            have r1 := HQ.out.1.1
            have r2 : IntKind.i64.wrap (k0 : Int) = (k0 : Int) := IntWalk.i64_in _ (by have := HQ.out.2.1; omega)
            go_simp
            exact hK _ _ (Below.refl _ _) rfl
          · -- 11: Op.binOp BinOp.add 3 (Operand.tmp 23) (Operand.const (Value.
            refine AnyO.Step.mk rfl [10] (by kernel_rfl) ?_
            intro vs u hE hp ac hb K hK
            have s23 : ac.tmps[23]?.getD undef = .int .i64 (k0 : Int) := by rw [hb]; exact (show _ = vs 10 by kernel_rfl).trans (hp 10 (by decide))
            rw [if_pos (AnyO.wanted_none rfl)]
            clear hb hp
            have r1 := HQ.out.1.2.1
            have r2 : IntKind.i64.wrap (k1 : Int) = (k1 : Int) := IntWalk.i64_in _ (by have := HQ.out.2.2.1; omega)
            go_simp
            exact hK _ _ (Below.refl _ _) rfl
          · -- 12: Op.indexAddr 47 (Operand.tmp 21) (Operand.tmp 24)
            refine AnyO.Step.mk rfl [8, 11] (by kernel_rfl) ?_
            intro vs u hE hp ac hb K hK
            have s21 : ac.tmps[21]?.getD undef = .slice (some ad) 64 c := by rw [hb]; exact (show _ = vs 8 by kernel_rfl).trans (hp 8 (by decide))
            have s24 : ac.tmps[24]?.getD undef = .int .i64 (k1 : Int) := by rw [hb]; exact (show _ = vs 11 by kernel_rfl).trans (hp 11 (by decide))
            rw [if_pos (AnyO.wanted_none rfl)]
            clear hb hp
            have r1 := HQ.out.2.2.1
            go_simp
            exact hK _ _ (Below.refl _ _) rfl
          · -- 13: Op.load 5 (Operand.tmp 25)
            refine AnyO.Step.mk rfl [12] (by kernel_rfl) ?_
            intro vs u hE hp ac hb K hK
            have s25 : ac.tmps[25]?.getD undef = .pointer (some (ad.add k1)) := by rw [hb]; exact (show _ = vs 12 by kernel_rfl).trans (hp 12 (by decide))
            rw [if_pos (AnyO.wanted_none rfl)]
            clear hb hp
            have r1 := cell_below HD.out.2.1 (Below.step (below_drew wr) hE)
            go_simp
            exact hK _ _ (Below.refl _ _) rfl
          · -- 14: Op.convert 5 114 (Operand.tmp 26)
            refine AnyO.Step.mk rfl [13] (by kernel_rfl) ?_
            intro vs u hE hp ac hb K hK
            have s26 : ac.tmps[26]?.getD undef = vB y1 := by rw [hb]; exact (show _ = vs 13 by kernel_rfl).trans (hp 13 (by decide))
            rw [if_pos (AnyO.wanted_none rfl)]
            clear hb hp
            have r1 := w_ofByte2 y1
            have r2 := w_ofByte3 y1
            go_simp
            exact hK _ _ (Below.refl _ _) rfl
          · -- 15: Op.binOp BinOp.shl 114 (Operand.tmp 27) (Operand.const (Valu
            refine AnyO.Step.mk rfl [14] (by kernel_rfl) ?_
            intro vs u hE hp ac hb K hK
            have s27 : ac.tmps[27]?.getD undef = vW (bw y1) := by rw [hb]; exact (show _ = vs 14 by kernel_rfl).trans (hp 14 (by decide))
            rw [if_pos (AnyO.wanted_none rfl)]
            clear hb hp
            have r1 : iW (bw y1) * (65536 : Int) % (4294967296 : Int) = iW (bw y1 <<< 16) := m_shl (bw y1) 16
            have r2 : IntKind.u32.wrap (iW (bw y1) * (65536 : Int)) = iW (bw y1 <<< 16) := w_shl (bw y1) 16
            go_simp
            exact hK _ _ (Below.refl _ _) rfl
          · -- 16: Op.binOp BinOp.or 114 (Operand.tmp 20) (Operand.tmp 28) 114
            refine AnyO.Step.mk rfl [7, 15] (by kernel_rfl) ?_
            intro vs u hE hp ac hb K hK
            have s20 : ac.tmps[20]?.getD undef = vW (bw y0 <<< 24) := by rw [hb]; exact (show _ = vs 7 by kernel_rfl).trans (hp 7 (by decide))
            have s28 : ac.tmps[28]?.getD undef = vW (bw y1 <<< 16) := by rw [hb]; exact (show _ = vs 15 by kernel_rfl).trans (hp 15 (by decide))
            rw [if_pos (AnyO.wanted_none rfl)]
            clear hb hp
            have r1 := w_or (bw y0 <<< 24) (bw y1 <<< 16)
            go_simp
            exact hK _ _ (Below.refl _ _) rfl
          · -- 17: Op.move (Operand.tmp 0)
            refine AnyO.Step.mk rfl [] (by kernel_rfl) ?_
            intro vs u hE hp ac hb K hK
            have s0 : ac.tmps[0]?.getD undef = .slice (some ad) 64 c := by rw [hb]; kernel_rfl
            rw [if_pos (AnyO.wanted_none rfl)]
            clear hb hp
            go_simp
            exact hK _ _ (Below.refl _ _) rfl
          · -- 18: Op.move (Operand.tmp 4)
            refine AnyO.Step.mk rfl [] (by kernel_rfl) ?_
            intro vs u hE hp ac hb K hK
            have s4 : ac.tmps[4]?.getD undef = .int .i64 (t : Int) := by rw [hb]; kernel_rfl
            rw [if_pos (AnyO.wanted_none rfl)]
            clear hb hp
            go_simp
            exact hK _ _ (Below.refl _ _) rfl
          · -- 19: Op.binOp BinOp.mul 3 (Operand.const (Value.int IntKind.i64 4
            refine AnyO.Step.mk rfl [18] (by kernel_rfl) ?_
            intro vs u hE hp ac hb K hK
            have s31 : ac.tmps[31]?.getD undef = .int .i64 (t : Int) := by rw [hb]; exact (show _ = vs 18 by kernel_rfl).trans (hp 18 (by decide))
            rw [if_pos (AnyO.wanted_none rfl)]
            clear hb hp
            have r1 := HQ.out.1.1
            have r2 : IntKind.i64.wrap (k0 : Int) = (k0 : Int) := IntWalk.i64_in _ (by have := HQ.out.2.1; omega)
            go_simp
            exact hK _ _ (Below.refl _ _) rfl
          · -- 20: Op.binOp BinOp.add 3 (Operand.tmp 32) (Operand.const (Value.
            refine AnyO.Step.mk rfl [19] (by kernel_rfl) ?_
            intro vs u hE hp ac hb K hK
            have s32 : ac.tmps[32]?.getD undef = .int .i64 (k0 : Int) := by rw [hb]; exact (show _ = vs 19 by kernel_rfl).trans (hp 19 (by decide))
            rw [if_pos (AnyO.wanted_none rfl)]
            clear hb hp
            have r1 := HQ.out.1.2.2.1
            have r2 : IntKind.i64.wrap (k2 : Int) = (k2 : Int) := IntWalk.i64_in _ (by have := HQ.out.2.2.2.1; omega)
            go_simp
            exact hK _ _ (Below.refl _ _) rfl
          · -- 21: Op.indexAddr 47 (Operand.tmp 30) (Operand.tmp 33)
            refine AnyO.Step.mk rfl [17, 20] (by kernel_rfl) ?_
            intro vs u hE hp ac hb K hK
            have s30 : ac.tmps[30]?.getD undef = .slice (some ad) 64 c := by rw [hb]; exact (show _ = vs 17 by kernel_rfl).trans (hp 17 (by decide))
            have s33 : ac.tmps[33]?.getD undef = .int .i64 (k2 : Int) := by rw [hb]; exact (show _ = vs 20 by kernel_rfl).trans (hp 20 (by decide))
            rw [if_pos (AnyO.wanted_none rfl)]
            clear hb hp
            have r1 := HQ.out.2.2.2.1
            go_simp
            exact hK _ _ (Below.refl _ _) rfl
          · -- 22: Op.load 5 (Operand.tmp 34)
            refine AnyO.Step.mk rfl [21] (by kernel_rfl) ?_
            intro vs u hE hp ac hb K hK
            have s34 : ac.tmps[34]?.getD undef = .pointer (some (ad.add k2)) := by rw [hb]; exact (show _ = vs 21 by kernel_rfl).trans (hp 21 (by decide))
            rw [if_pos (AnyO.wanted_none rfl)]
            clear hb hp
            have r1 := cell_below HD.out.2.2.1 (Below.step (below_drew wr) hE)
            go_simp
            exact hK _ _ (Below.refl _ _) rfl
          · -- 23: Op.convert 5 114 (Operand.tmp 35)
            refine AnyO.Step.mk rfl [22] (by kernel_rfl) ?_
            intro vs u hE hp ac hb K hK
            have s35 : ac.tmps[35]?.getD undef = vB y2 := by rw [hb]; exact (show _ = vs 22 by kernel_rfl).trans (hp 22 (by decide))
            rw [if_pos (AnyO.wanted_none rfl)]
            clear hb hp
            have r1 := w_ofByte2 y2
            have r2 := w_ofByte3 y2
            go_simp
            exact hK _ _ (Below.refl _ _) rfl
          · -- 24: Op.binOp BinOp.shl 114 (Operand.tmp 36) (Operand.const (Valu
            refine AnyO.Step.mk rfl [23] (by kernel_rfl) ?_
            intro vs u hE hp ac hb K hK
            have s36 : ac.tmps[36]?.getD undef = vW (bw y2) := by rw [hb]; exact (show _ = vs 23 by kernel_rfl).trans (hp 23 (by decide))
            rw [if_pos (AnyO.wanted_none rfl)]
            clear hb hp
            have r1 : iW (bw y2) * (256 : Int) % (4294967296 : Int) = iW (bw y2 <<< 8) := m_shl (bw y2) 8
            have r2 : IntKind.u32.wrap (iW (bw y2) * (256 : Int)) = iW (bw y2 <<< 8) := w_shl (bw y2) 8
            go_simp
            exact hK _ _ (Below.refl _ _) rfl
          · -- 25: Op.binOp BinOp.or 114 (Operand.tmp 29) (Operand.tmp 37) 114
            refine AnyO.Step.mk rfl [16, 24] (by kernel_rfl) ?_
            intro vs u hE hp ac hb K hK
            have s29 : ac.tmps[29]?.getD undef = vW (bw y0 <<< 24 ||| bw y1 <<< 16) := by rw [hb]; exact (show _ = vs 16 by kernel_rfl).trans (hp 16 (by decide))
            have s37 : ac.tmps[37]?.getD undef = vW (bw y2 <<< 8) := by rw [hb]; exact (show _ = vs 24 by kernel_rfl).trans (hp 24 (by decide))
            rw [if_pos (AnyO.wanted_none rfl)]
            clear hb hp
            have r1 := w_or (bw y0 <<< 24 ||| bw y1 <<< 16) (bw y2 <<< 8)
            go_simp
            exact hK _ _ (Below.refl _ _) rfl
          · -- 26: Op.move (Operand.tmp 0)
            refine AnyO.Step.mk rfl [] (by kernel_rfl) ?_
            intro vs u hE hp ac hb K hK
            have s0 : ac.tmps[0]?.getD undef = .slice (some ad) 64 c := by rw [hb]; kernel_rfl
            rw [if_pos (AnyO.wanted_none rfl)]
            clear hb hp
            go_simp
            exact hK _ _ (Below.refl _ _) rfl
          · -- 27: Op.move (Operand.tmp 4)
            refine AnyO.Step.mk rfl [] (by kernel_rfl) ?_
            intro vs u hE hp ac hb K hK
            have s4 : ac.tmps[4]?.getD undef = .int .i64 (t : Int) := by rw [hb]; kernel_rfl
            rw [if_pos (AnyO.wanted_none rfl)]
            clear hb hp
            go_simp
            exact hK _ _ (Below.refl _ _) rfl
          · -- 28: Op.binOp BinOp.mul 3 (Operand.const (Value.int IntKind.i64 4
            refine AnyO.Step.mk rfl [27] (by kernel_rfl) ?_
            intro vs u hE hp ac hb K hK
            have s40 : ac.tmps[40]?.getD undef = .int .i64 (t : Int) := by rw [hb]; exact (show _ = vs 27 by kernel_rfl).trans (hp 27 (by decide))
            rw [if_pos (AnyO.wanted_none rfl)]
            clear hb hp
            have r1 := HQ.out.1.1
            have r2 : IntKind.i64.wrap (k0 : Int) = (k0 : Int) := IntWalk.i64_in _ (by have := HQ.out.2.1; omega)
            go_simp
            exact hK _ _ (Below.refl _ _) rfl
          · -- 29: Op.binOp BinOp.add 3 (Operand.tmp 41) (Operand.const (Value.
            refine AnyO.Step.mk rfl [28] (by kernel_rfl) ?_
            intro vs u hE hp ac hb K hK
            have s41 : ac.tmps[41]?.getD undef = .int .i64 (k0 : Int) := by rw [hb]; exact (show _ = vs 28 by kernel_rfl).trans (hp 28 (by decide))
            rw [if_pos (AnyO.wanted_none rfl)]
            clear hb hp
            have r1 := HQ.out.1.2.2.2
            have r2 : IntKind.i64.wrap (k3 : Int) = (k3 : Int) := IntWalk.i64_in _ (by have := HQ.out.2.2.2.2; omega)
            go_simp
            exact hK _ _ (Below.refl _ _) rfl
          · -- 30: Op.indexAddr 47 (Operand.tmp 39) (Operand.tmp 42)
            refine AnyO.Step.mk rfl [26, 29] (by kernel_rfl) ?_
            intro vs u hE hp ac hb K hK
            have s39 : ac.tmps[39]?.getD undef = .slice (some ad) 64 c := by rw [hb]; exact (show _ = vs 26 by kernel_rfl).trans (hp 26 (by decide))
            have s42 : ac.tmps[42]?.getD undef = .int .i64 (k3 : Int) := by rw [hb]; exact (show _ = vs 29 by kernel_rfl).trans (hp 29 (by decide))
            rw [if_pos (AnyO.wanted_none rfl)]
            clear hb hp
            have r1 := HQ.out.2.2.2.2
            go_simp
            exact hK _ _ (Below.refl _ _) rfl
          · -- 31: Op.load 5 (Operand.tmp 43)
            refine AnyO.Step.mk rfl [30] (by kernel_rfl) ?_
            intro vs u hE hp ac hb K hK
            have s43 : ac.tmps[43]?.getD undef = .pointer (some (ad.add k3)) := by rw [hb]; exact (show _ = vs 30 by kernel_rfl).trans (hp 30 (by decide))
            rw [if_pos (AnyO.wanted_none rfl)]
            clear hb hp
            have r1 := cell_below HD.out.2.2.2 (Below.step (below_drew wr) hE)
            go_simp
            exact hK _ _ (Below.refl _ _) rfl
          · -- 32: Op.convert 5 114 (Operand.tmp 44)
            refine AnyO.Step.mk rfl [31] (by kernel_rfl) ?_
            intro vs u hE hp ac hb K hK
            have s44 : ac.tmps[44]?.getD undef = vB y3 := by rw [hb]; exact (show _ = vs 31 by kernel_rfl).trans (hp 31 (by decide))
            rw [if_pos (AnyO.wanted_none rfl)]
            clear hb hp
            have r1 := w_ofByte2 y3
            have r2 := w_ofByte3 y3
            go_simp
            exact hK _ _ (Below.refl _ _) rfl
          · -- 33: Op.binOp BinOp.or 114 (Operand.tmp 38) (Operand.tmp 45) 114
            refine AnyO.Step.mk rfl [25, 32] (by kernel_rfl) ?_
            intro vs u hE hp ac hb K hK
            have s38 : ac.tmps[38]?.getD undef = vW ((bw y0 <<< 24 ||| bw y1 <<< 16) ||| bw y2 <<< 8) := by rw [hb]; exact (show _ = vs 25 by kernel_rfl).trans (hp 25 (by decide))
            have s45 : ac.tmps[45]?.getD undef = vW (bw y3) := by rw [hb]; exact (show _ = vs 32 by kernel_rfl).trans (hp 32 (by decide))
            rw [if_pos (AnyO.wanted_none rfl)]
            clear hb hp
            have r1 := w_or ((bw y0 <<< 24 ||| bw y1 <<< 16) ||| bw y2 <<< 8) (bw y3)
            go_simp
            exact hK _ _ (Below.refl _ _) rfl
        · intro vs u hE hp
          have e0 : vs 0 = .int .i64 (t : Int) := hp 0 (by decide)
          have e1 : vs 1 = .slice (some ad) 64 c := hp 1 (by decide)
          have e2 : vs 2 = .int .i64 (t : Int) := hp 2 (by decide)
          have e3 : vs 3 = .int .i64 (k0 : Int) := hp 3 (by decide)
          have e4 : vs 4 = .pointer (some (ad.add k0)) := hp 4 (by decide)
          have e5 : vs 5 = vB y0 := hp 5 (by decide)
          have e6 : vs 6 = vW (bw y0) := hp 6 (by decide)
          have e7 : vs 7 = vW (bw y0 <<< 24) := hp 7 (by decide)
          have e8 : vs 8 = .slice (some ad) 64 c := hp 8 (by decide)
          have e9 : vs 9 = .int .i64 (t : Int) := hp 9 (by decide)
          have e10 : vs 10 = .int .i64 (k0 : Int) := hp 10 (by decide)
          have e11 : vs 11 = .int .i64 (k1 : Int) := hp 11 (by decide)
          have e12 : vs 12 = .pointer (some (ad.add k1)) := hp 12 (by decide)
          have e13 : vs 13 = vB y1 := hp 13 (by decide)
          have e14 : vs 14 = vW (bw y1) := hp 14 (by decide)
          have e15 : vs 15 = vW (bw y1 <<< 16) := hp 15 (by decide)
          have e16 : vs 16 = vW (bw y0 <<< 24 ||| bw y1 <<< 16) := hp 16 (by decide)
          have e17 : vs 17 = .slice (some ad) 64 c := hp 17 (by decide)
          have e18 : vs 18 = .int .i64 (t : Int) := hp 18 (by decide)
          have e19 : vs 19 = .int .i64 (k0 : Int) := hp 19 (by decide)
          have e20 : vs 20 = .int .i64 (k2 : Int) := hp 20 (by decide)
          have e21 : vs 21 = .pointer (some (ad.add k2)) := hp 21 (by decide)
          have e22 : vs 22 = vB y2 := hp 22 (by decide)
          have e23 : vs 23 = vW (bw y2) := hp 23 (by decide)
          have e24 : vs 24 = vW (bw y2 <<< 8) := hp 24 (by decide)
          have e25 : vs 25 = vW ((bw y0 <<< 24 ||| bw y1 <<< 16) ||| bw y2 <<< 8) := hp 25 (by decide)
          have e26 : vs 26 = .slice (some ad) 64 c := hp 26 (by decide)
          have e27 : vs 27 = .int .i64 (t : Int) := hp 27 (by decide)
          have e28 : vs 28 = .int .i64 (k0 : Int) := hp 28 (by decide)
          have e29 : vs 29 = .int .i64 (k3 : Int) := hp 29 (by decide)
          have e30 : vs 30 = .pointer (some (ad.add k3)) := hp 30 (by decide)
          have e31 : vs 31 = vB y3 := hp 31 (by decide)
          have e32 : vs 32 = vW (bw y3) := hp 32 (by decide)
          have e33 : vs 33 = vW (((bw y0 <<< 24 ||| bw y1 <<< 16) ||| bw y2 <<< 8) ||| bw y3) := hp 33 (by decide)
          clear hp
          have HE := Lib.hid (HR.out.keep hE); clear hE
          rw [puts_range [some 13, some 14, some 15, some 16, some 17, some 18, some 19, some 20, some 21, some 22, some 23, some 24, some 25, some 26, some 27, some 28, some 29, some 30, some 31, some 32, some 33, some 34, some 35, some 36, some 37, some 38, some 39, some 40, some 41, some 42, some 43, some 44, some 45, some 46] (by kernel_rfl)]
          simp only [putL, Nat.reduceAdd, List.drop_succ_cons, List.drop_zero, e0, e1, e2, e3, e4, e5, e6, e7, e8, e9, e10, e11, e12, e13, e14, e15, e16, e17, e18, e19, e20, e21, e22, e23, e24, e25, e26, e27, e28, e29, e30, e31, e32, e33]
          clear e0 e1 e2 e3 e4 e5 e6 e7 e8 e9 e10 e11 e12 e13 e14 e15 e16 e17 e18 e19 e20 e21 e22 e23 e24 e25 e26 e27 e28 e29 e30 e31 e32 e33
          go_simp
          rw [HBE.out]
          have hfz : u.frozen? ⟨b + 1, t, none⟩ = false := HE.out.rd.fz t
          obtain ⟨v0, hv0⟩ := HE.out.has hlt
          go_wp2
          go_roundw
          case rel => exact ⟨t + 1, by omega, by go_num, HE.out.set hlt rfl⟩
          case measure => simp [intOf]; omega
      · have h16i : ¬ (t : Int) < 16 := by omega
        obtain ⟨k2, hk2⟩ : ∃ k, t - 2 = k := ⟨_, rfl⟩
        obtain ⟨k15, hk15⟩ : ∃ k, t - 15 = k := ⟨_, rfl⟩
        obtain ⟨k7, hk7⟩ : ∃ k, t - 7 = k := ⟨_, rfl⟩
        obtain ⟨k16, hk16⟩ : ∃ k, t - 16 = k := ⟨_, rfl⟩
        have q2 : (t : Int) - 2 = (k2 : Int) := by omega
        have q15 : (t : Int) - 15 = (k15 : Int) := by omega
        have p2 : (k2 : Int) < 64 := by omega
        have p15 : (k15 : Int) < 64 := by omega
        have HQ := Lib.hid (show (t : Int) - 7 = (k7 : Int) ∧ (t : Int) - 16 = (k16 : Int) ∧ (k7 : Int) < 64 ∧ (k16 : Int) < 64 ∧ k7 < t ∧ k16 < t ∧ k2 < t ∧ k15 < t from by omega)
        have HE := Lib.hid (show sg1 (sw (be l) k2) + sw (be l) k7 + sg0 (sw (be l) k15) + sw (be l) k16 = sw (be l) t from by
          rw [sw_hi (be l) t (by omega), hk2, hk15, hk7, hk16])
        have z2 : ∀ n, (wr.drewN n).cell? ⟨b + 1, k2, none⟩ = some (vW (sw (be l) k2)) := fun n => (HR.out.keep (below_drewN wr n)).at_ HQ.out.2.2.2.2.2.2.1 (by omega)
        have z15 : ∀ n, (wr.drewN n).cell? ⟨b + 1, k15, none⟩ = some (vW (sw (be l) k15)) := fun n => (HR.out.keep (below_drewN wr n)).at_ HQ.out.2.2.2.2.2.2.2 (by omega)
        clear hk2 hk15 hk7 hk16
        go_wp2_with fail
        go_quiet (fail)
        have HR2 := Lib.hid (HR.out.keep (below_drewN wr nq))
        obtain ⟨W2, hW2⟩ : ∃ W2, wr.drewN nq = W2 := ⟨_, rfl⟩
        rw [hW2] at HR2 ⊢
        obtain ⟨x2, hx2⟩ : ∃ x, sw (be l) k2 = x := ⟨_, rfl⟩
        obtain ⟨x15, hx15⟩ : ∃ x, sw (be l) k15 = x := ⟨_, rfl⟩
        obtain ⟨x7, hx7⟩ : ∃ x, sw (be l) k7 = x := ⟨_, rfl⟩
        obtain ⟨x16, hx16⟩ : ∃ x, sw (be l) k16 = x := ⟨_, rfl⟩
        have hz7 := HR2.out.at_ HQ.out.2.2.2.2.1 (by have := HQ.out.2.2.2.2.1; omega)
        have hz16 := HR2.out.at_ HQ.out.2.2.2.2.2.1 (by have := HQ.out.2.2.2.2.2.1; omega)
        have he := HE.out
        rw [hx2, hx15, hx7, hx16] at he
        rw [hx7] at hz7
        rw [hx16] at hz16
        rw [hx2, hx15]
        have HE2 := Lib.hid he
        have HZ := Lib.hid (And.intro hz7 hz16)
        clear hW2 z2 z15 q2 q15 p2 p15 hx2 hx15 hx7 hx16 hz7 hz16 he HE
        go_wp2_with fail
        refine AnyO.wp_any_tail 28 (by kernel_rfl) (by kernel_rfl) (by kernel_rfl) (by kernel_rfl) (by kernel_rfl) (by kernel_rfl) (pstP [isV (.int .i64 (t : Int)), isV (vW x2), isV (vW (rr x2 17)), isV (vW x2), isV (vW (rr x2 19)), isV (vW (rr x2 17 ^^^ rr x2 19)), isV (vW x2), isV (vW (x2 >>> 10)), isV (vW (rr x2 17 ^^^ rr x2 19 ^^^ (x2 >>> 10))), isV (.int .i64 (t : Int)), isV (.int .i64 (k7 : Int)), isV (.pointer (some ⟨b + 1, k7, none⟩)), isV (vW x7), isV (vW ((rr x2 17 ^^^ rr x2 19 ^^^ (x2 >>> 10)) + x7)), isV (vW x15), isV (vW (rr x15 7)), isV (vW x15), isV (vW (rr x15 18)), isV (vW (rr x15 7 ^^^ rr x15 18)), isV (vW x15), isV (vW (x15 >>> 3)), isV (vW (rr x15 7 ^^^ rr x15 18 ^^^ (x15 >>> 3))), isV (vW ((rr x2 17 ^^^ rr x2 19 ^^^ (x2 >>> 10)) + x7 + (rr x15 7 ^^^ rr x15 18 ^^^ (x15 >>> 3)))), isV (.int .i64 (t : Int)), isV (.int .i64 (k16 : Int)), isV (.pointer (some ⟨b + 1, k16, none⟩)), isV (vW x16), isV (vW ((rr x2 17 ^^^ rr x2 19 ^^^ (x2 >>> 10)) + x7 + (rr x15 7 ^^^ rr x15 18 ^^^ (x15 >>> 3)) + x16))]) (MonoL.cons (Mono.v _) (MonoL.cons (Mono.v _) (MonoL.cons (Mono.v _) (MonoL.cons (Mono.v _) (MonoL.cons (Mono.v _) (MonoL.cons (Mono.v _) (MonoL.cons (Mono.v _) (MonoL.cons (Mono.v _) (MonoL.cons (Mono.v _) (MonoL.cons (Mono.v _) (MonoL.cons (Mono.v _) (MonoL.cons (Mono.v _) (MonoL.cons (Mono.v _) (MonoL.cons (Mono.v _) (MonoL.cons (Mono.v _) (MonoL.cons (Mono.v _) (MonoL.cons (Mono.v _) (MonoL.cons (Mono.v _) (MonoL.cons (Mono.v _) (MonoL.cons (Mono.v _) (MonoL.cons (Mono.v _) (MonoL.cons (Mono.v _) (MonoL.cons (Mono.v _) (MonoL.cons (Mono.v _) (MonoL.cons (Mono.v _) (MonoL.cons (Mono.v _) (MonoL.cons (Mono.v _) (MonoL.cons (Mono.v _) MonoL.nil)))))))))))))))))))))))))))) ?_ ?_
        · intro i hi
          have hi2 : i = 0 ∨ i = 1 ∨ i = 2 ∨ i = 3 ∨ i = 4 ∨ i = 5 ∨ i = 6 ∨ i = 7 ∨ i = 8 ∨ i = 9 ∨ i = 10 ∨ i = 11 ∨ i = 12 ∨ i = 13 ∨ i = 14 ∨ i = 15 ∨ i = 16 ∨ i = 17 ∨ i = 18 ∨ i = 19 ∨ i = 20 ∨ i = 21 ∨ i = 22 ∨ i = 23 ∨ i = 24 ∨ i = 25 ∨ i = 26 ∨ i = 27 := by omega
          clear hi
          rcases hi2 with rfl | rfl | rfl | rfl | rfl | rfl | rfl | rfl | rfl | rfl | rfl | rfl | rfl | rfl | rfl | rfl | rfl | rfl | rfl | rfl | rfl | rfl | rfl | rfl | rfl | rfl | rfl | rfl
          · -- 0: Op.move (Operand.tmp 4)
            refine AnyO.Step.mk rfl [] (by kernel_rfl) ?_
            intro vs u hE hp ac hb K hK
            have s4 : ac.tmps[4]?.getD undef = .int .i64 (t : Int) := by rw [hb]; kernel_rfl
            rw [if_pos (AnyO.wanted_none rfl)]
            clear hb hp
            go_simp
            exact hK _ _ (Below.refl _ _) rfl
          · -- 1: Op.move (Operand.tmp 5)
            refine AnyO.Step.mk rfl [] (by kernel_rfl) ?_
            intro vs u hE hp ac hb K hK
            have s5 : ac.tmps[5]?.getD undef = vW x2 := by rw [hb]; kernel_rfl
            rw [if_pos (AnyO.wanted_none rfl)]
            clear hb hp
            go_simp
            exact hK _ _ (Below.refl _ _) rfl
          · -- 2: Op.call { callee := Callee.value (Operand.func 67), args := 
            refine AnyO.Step.mk rfl [1] (by kernel_rfl) ?_
            intro vs u hE hp ac hb K hK
            have s57 : ac.tmps[57]?.getD undef = vW x2 := by rw [hb]; exact (show _ = vs 1 by kernel_rfl).trans (hp 1 (by decide))
            rw [if_pos (AnyO.wanted_none rfl)]
            clear hb hp
            go_simp
            go_at_call 67
            refine (xrot_n x2 17 (by decide) _).mono ?_
            rintro e w9 ⟨rfl, n9, rfl⟩
            exact hK _ _ (below_drewN _ _) rfl
          · -- 3: Op.move (Operand.tmp 5)
            refine AnyO.Step.mk rfl [] (by kernel_rfl) ?_
            intro vs u hE hp ac hb K hK
            have s5 : ac.tmps[5]?.getD undef = vW x2 := by rw [hb]; kernel_rfl
            rw [if_pos (AnyO.wanted_none rfl)]
            clear hb hp
            go_simp
            exact hK _ _ (Below.refl _ _) rfl
          · -- 4: Op.call { callee := Callee.value (Operand.func 67), args := 
            refine AnyO.Step.mk rfl [3, 2] (by kernel_rfl) ?_
            intro vs u hE hp ac hb K hK
            have s59 : ac.tmps[59]?.getD undef = vW x2 := by rw [hb]; exact (show _ = vs 3 by kernel_rfl).trans (hp 3 (by decide))
            rw [if_pos (AnyO.wanted_none rfl)]
            clear hb hp
            go_simp
            go_at_call 67
            refine (xrot_n x2 19 (by decide) _).mono ?_
            rintro e w9 ⟨rfl, n9, rfl⟩
            exact hK _ _ (below_drewN _ _) rfl
          · -- 5: Op.binOp BinOp.xor 114 (Operand.tmp 58) (Operand.tmp 60) 114
            refine AnyO.Step.mk rfl [2, 4] (by kernel_rfl) ?_
            intro vs u hE hp ac hb K hK
            have s58 : ac.tmps[58]?.getD undef = vW (rr x2 17) := by rw [hb]; exact (show _ = vs 2 by kernel_rfl).trans (hp 2 (by decide))
            have s60 : ac.tmps[60]?.getD undef = vW (rr x2 19) := by rw [hb]; exact (show _ = vs 4 by kernel_rfl).trans (hp 4 (by decide))
            rw [if_pos (AnyO.wanted_none rfl)]
            clear hb hp
            have r1 := w_xor (rr x2 17) (rr x2 19)
            go_simp
            exact hK _ _ (Below.refl _ _) rfl
          · -- 6: Op.move (Operand.tmp 5)
            refine AnyO.Step.mk rfl [] (by kernel_rfl) ?_
            intro vs u hE hp ac hb K hK
            have s5 : ac.tmps[5]?.getD undef = vW x2 := by rw [hb]; kernel_rfl
            rw [if_pos (AnyO.wanted_none rfl)]
            clear hb hp
            go_simp
            exact hK _ _ (Below.refl _ _) rfl
          · -- 7: Op.binOp BinOp.shr 114 (Operand.tmp 62) (Operand.const (Valu
            refine AnyO.Step.mk rfl [6] (by kernel_rfl) ?_
            intro vs u hE hp ac hb K hK
            have s62 : ac.tmps[62]?.getD undef = vW x2 := by rw [hb]; exact (show _ = vs 6 by kernel_rfl).trans (hp 6 (by decide))
            rw [if_pos (AnyO.wanted_none rfl)]
            clear hb hp
            have r1 := w_shr10 x2
            go_simp
            exact hK _ _ (Below.refl _ _) rfl
          · -- 8: Op.binOp BinOp.xor 114 (Operand.tmp 61) (Operand.tmp 63) 114
            refine AnyO.Step.mk rfl [5, 7] (by kernel_rfl) ?_
            intro vs u hE hp ac hb K hK
            have s61 : ac.tmps[61]?.getD undef = vW (rr x2 17 ^^^ rr x2 19) := by rw [hb]; exact (show _ = vs 5 by kernel_rfl).trans (hp 5 (by decide))
            have s63 : ac.tmps[63]?.getD undef = vW (x2 >>> 10) := by rw [hb]; exact (show _ = vs 7 by kernel_rfl).trans (hp 7 (by decide))
            rw [if_pos (AnyO.wanted_none rfl)]
            clear hb hp
            have r1 := w_xor (rr x2 17 ^^^ rr x2 19) (x2 >>> 10)
            go_simp
            exact hK _ _ (Below.refl _ _) rfl
          · -- 9: Op.move (Operand.tmp 4)
            refine AnyO.Step.mk rfl [] (by kernel_rfl) ?_
            intro vs u hE hp ac hb K hK
            have s4 : ac.tmps[4]?.getD undef = .int .i64 (t : Int) := by rw [hb]; kernel_rfl
            rw [if_pos (AnyO.wanted_none rfl)]
            clear hb hp
            go_simp
            exact hK _ _ (Below.refl _ _) rfl
          · -- 10: Op.binOp BinOp.sub 3 (Operand.tmp 65) (Operand.const (Value.
            refine AnyO.Step.mk rfl [9] (by kernel_rfl) ?_
            intro vs u hE hp ac hb K hK
            have s65 : ac.tmps[65]?.getD undef = .int .i64 (t : Int) := by rw [hb]; exact (show _ = vs 9 by kernel_rfl).trans (hp 9 (by decide))
            rw [if_pos (AnyO.wanted_none rfl)]
            clear hb hp
            have r1 := HQ.out.1
            have r2 : IntKind.i64.wrap (k7 : Int) = (k7 : Int) := IntWalk.i64_in _ (by have := HQ.out.2.2.1; omega)
            go_simp
            exact hK _ _ (Below.refl _ _) rfl
          · -- 11: Op.indexAddr 116 (Operand.tmp 3) (Operand.tmp 66)
            refine AnyO.Step.mk rfl [10] (by kernel_rfl) ?_
            intro vs u hE hp ac hb K hK
            have s3 : ac.tmps[3]?.getD undef = .pointer (some ⟨b + 1, 0, none⟩) := by rw [hb]; kernel_rfl
            have s66 : ac.tmps[66]?.getD undef = .int .i64 (k7 : Int) := by rw [hb]; exact (show _ = vs 10 by kernel_rfl).trans (hp 10 (by decide))
            rw [if_pos (AnyO.wanted_none rfl)]
            clear hb hp
            have r1 := HQ.out.2.2.1
            go_simp
            exact hK _ _ (Below.refl _ _) rfl
          · -- 12: Op.load 114 (Operand.tmp 67)
            refine AnyO.Step.mk rfl [11] (by kernel_rfl) ?_
            intro vs u hE hp ac hb K hK
            have s67 : ac.tmps[67]?.getD undef = .pointer (some ⟨b + 1, k7, none⟩) := by rw [hb]; exact (show _ = vs 11 by kernel_rfl).trans (hp 11 (by decide))
            rw [if_pos (AnyO.wanted_none rfl)]
            clear hb hp
            have r1 := cell_below HZ.out.1 (Below.step (below_drew W2) hE)
            go_simp
            exact hK _ _ (Below.refl _ _) rfl
          · -- 13: Op.binOp BinOp.add 114 (Operand.tmp 64) (Operand.tmp 68) 114
            refine AnyO.Step.mk rfl [8, 12] (by kernel_rfl) ?_
            intro vs u hE hp ac hb K hK
            have s64 : ac.tmps[64]?.getD undef = vW (rr x2 17 ^^^ rr x2 19 ^^^ (x2 >>> 10)) := by rw [hb]; exact (show _ = vs 8 by kernel_rfl).trans (hp 8 (by decide))
            have s68 : ac.tmps[68]?.getD undef = vW x7 := by rw [hb]; exact (show _ = vs 12 by kernel_rfl).trans (hp 12 (by decide))
            rw [if_pos (AnyO.wanted_none rfl)]
            clear hb hp
            have r1 := m_add ((rr x2 17 ^^^ rr x2 19 ^^^ (x2 >>> 10))) (x7)
            have r2 := w_add ((rr x2 17 ^^^ rr x2 19 ^^^ (x2 >>> 10))) (x7)
            go_simp
            exact hK _ _ (Below.refl _ _) rfl
          · -- 14: Op.move (Operand.tmp 6)
            refine AnyO.Step.mk rfl [] (by kernel_rfl) ?_
            intro vs u hE hp ac hb K hK
            have s6 : ac.tmps[6]?.getD undef = vW x15 := by rw [hb]; kernel_rfl
            rw [if_pos (AnyO.wanted_none rfl)]
            clear hb hp
            go_simp
            exact hK _ _ (Below.refl _ _) rfl
          · -- 15: Op.call { callee := Callee.value (Operand.func 67), args := 
            refine AnyO.Step.mk rfl [14, 4] (by kernel_rfl) ?_
            intro vs u hE hp ac hb K hK
            have s70 : ac.tmps[70]?.getD undef = vW x15 := by rw [hb]; exact (show _ = vs 14 by kernel_rfl).trans (hp 14 (by decide))
            rw [if_pos (AnyO.wanted_none rfl)]
            clear hb hp
            go_simp
            go_at_call 67
            refine (xrot_n x15 7 (by decide) _).mono ?_
            rintro e w9 ⟨rfl, n9, rfl⟩
            exact hK _ _ (below_drewN _ _) rfl
          · -- 16: Op.move (Operand.tmp 6)
            refine AnyO.Step.mk rfl [] (by kernel_rfl) ?_
            intro vs u hE hp ac hb K hK
            have s6 : ac.tmps[6]?.getD undef = vW x15 := by rw [hb]; kernel_rfl
            rw [if_pos (AnyO.wanted_none rfl)]
            clear hb hp
            go_simp
            exact hK _ _ (Below.refl _ _) rfl
          · -- 17: Op.call { callee := Callee.value (Operand.func 67), args := 
            refine AnyO.Step.mk rfl [16, 15] (by kernel_rfl) ?_
            intro vs u hE hp ac hb K hK
            have s72 : ac.tmps[72]?.getD undef = vW x15 := by rw [hb]; exact (show _ = vs 16 by kernel_rfl).trans (hp 16 (by decide))
            rw [if_pos (AnyO.wanted_none rfl)]
            clear hb hp
            go_simp
            go_at_call 67
            refine (xrot_n x15 18 (by decide) _).mono ?_
            rintro e w9 ⟨rfl, n9, rfl⟩
            exact hK _ _ (below_drewN _ _) rfl
          · -- 18: Op.binOp BinOp.xor 114 (Operand.tmp 71) (Operand.tmp 73) 114
            refine AnyO.Step.mk rfl [15, 17] (by kernel_rfl) ?_
            intro vs u hE hp ac hb K hK
            have s71 : ac.tmps[71]?.getD undef = vW (rr x15 7) := by rw [hb]; exact (show _ = vs 15 by kernel_rfl).trans (hp 15 (by decide))
            have s73 : ac.tmps[73]?.getD undef = vW (rr x15 18) := by rw [hb]; exact (show _ = vs 17 by kernel_rfl).trans (hp 17 (by decide))
            rw [if_pos (AnyO.wanted_none rfl)]
            clear hb hp
            have r1 := w_xor (rr x15 7) (rr x15 18)
            go_simp
            exact hK _ _ (Below.refl _ _) rfl
          · -- 19: Op.move (Operand.tmp 6)
            refine AnyO.Step.mk rfl [] (by kernel_rfl) ?_
            intro vs u hE hp ac hb K hK
            have s6 : ac.tmps[6]?.getD undef = vW x15 := by rw [hb]; kernel_rfl
            rw [if_pos (AnyO.wanted_none rfl)]
            clear hb hp
            go_simp
            exact hK _ _ (Below.refl _ _) rfl
          · -- 20: Op.binOp BinOp.shr 114 (Operand.tmp 75) (Operand.const (Valu
            refine AnyO.Step.mk rfl [19] (by kernel_rfl) ?_
            intro vs u hE hp ac hb K hK
            have s75 : ac.tmps[75]?.getD undef = vW x15 := by rw [hb]; exact (show _ = vs 19 by kernel_rfl).trans (hp 19 (by decide))
            rw [if_pos (AnyO.wanted_none rfl)]
            clear hb hp
            have r1 := w_shr3 x15
            go_simp
            exact hK _ _ (Below.refl _ _) rfl
          · -- 21: Op.binOp BinOp.xor 114 (Operand.tmp 74) (Operand.tmp 76) 114
            refine AnyO.Step.mk rfl [18, 20] (by kernel_rfl) ?_
            intro vs u hE hp ac hb K hK
            have s74 : ac.tmps[74]?.getD undef = vW (rr x15 7 ^^^ rr x15 18) := by rw [hb]; exact (show _ = vs 18 by kernel_rfl).trans (hp 18 (by decide))
            have s76 : ac.tmps[76]?.getD undef = vW (x15 >>> 3) := by rw [hb]; exact (show _ = vs 20 by kernel_rfl).trans (hp 20 (by decide))
            rw [if_pos (AnyO.wanted_none rfl)]
            clear hb hp
            have r1 := w_xor (rr x15 7 ^^^ rr x15 18) (x15 >>> 3)
            go_simp
            exact hK _ _ (Below.refl _ _) rfl
          · -- 22: Op.binOp BinOp.add 114 (Operand.tmp 69) (Operand.tmp 77) 114
            refine AnyO.Step.mk rfl [13, 21] (by kernel_rfl) ?_
            intro vs u hE hp ac hb K hK
            have s69 : ac.tmps[69]?.getD undef = vW ((rr x2 17 ^^^ rr x2 19 ^^^ (x2 >>> 10)) + x7) := by rw [hb]; exact (show _ = vs 13 by kernel_rfl).trans (hp 13 (by decide))
            have s77 : ac.tmps[77]?.getD undef = vW (rr x15 7 ^^^ rr x15 18 ^^^ (x15 >>> 3)) := by rw [hb]; exact (show _ = vs 21 by kernel_rfl).trans (hp 21 (by decide))
            rw [if_pos (AnyO.wanted_none rfl)]
            clear hb hp
            have r1 := m_add ((rr x2 17 ^^^ rr x2 19 ^^^ (x2 >>> 10)) + x7) ((rr x15 7 ^^^ rr x15 18 ^^^ (x15 >>> 3)))
            have r2 := w_add ((rr x2 17 ^^^ rr x2 19 ^^^ (x2 >>> 10)) + x7) ((rr x15 7 ^^^ rr x15 18 ^^^ (x15 >>> 3)))
            go_simp
            exact hK _ _ (Below.refl _ _) rfl
          · -- 23: Op.move (Operand.tmp 4)
            refine AnyO.Step.mk rfl [] (by kernel_rfl) ?_
            intro vs u hE hp ac hb K hK
            have s4 : ac.tmps[4]?.getD undef = .int .i64 (t : Int) := by rw [hb]; kernel_rfl
            rw [if_pos (AnyO.wanted_none rfl)]
            clear hb hp
            go_simp
            exact hK _ _ (Below.refl _ _) rfl
          · -- 24: Op.binOp BinOp.sub 3 (Operand.tmp 79) (Operand.const (Value.
            refine AnyO.Step.mk rfl [23] (by kernel_rfl) ?_
            intro vs u hE hp ac hb K hK
            have s79 : ac.tmps[79]?.getD undef = .int .i64 (t : Int) := by rw [hb]; exact (show _ = vs 23 by kernel_rfl).trans (hp 23 (by decide))
            rw [if_pos (AnyO.wanted_none rfl)]
            clear hb hp
            have r1 := HQ.out.2.1
            have r2 : IntKind.i64.wrap (k16 : Int) = (k16 : Int) := IntWalk.i64_in _ (by have := HQ.out.2.2.2.1; omega)
            go_simp
            exact hK _ _ (Below.refl _ _) rfl
          · -- 25: Op.indexAddr 116 (Operand.tmp 3) (Operand.tmp 80)
            refine AnyO.Step.mk rfl [24] (by kernel_rfl) ?_
            intro vs u hE hp ac hb K hK
            have s3 : ac.tmps[3]?.getD undef = .pointer (some ⟨b + 1, 0, none⟩) := by rw [hb]; kernel_rfl
            have s80 : ac.tmps[80]?.getD undef = .int .i64 (k16 : Int) := by rw [hb]; exact (show _ = vs 24 by kernel_rfl).trans (hp 24 (by decide))
            rw [if_pos (AnyO.wanted_none rfl)]
            clear hb hp
            have r1 := HQ.out.2.2.2.1
            go_simp
            exact hK _ _ (Below.refl _ _) rfl
          · -- 26: Op.load 114 (Operand.tmp 81)
            refine AnyO.Step.mk rfl [25] (by kernel_rfl) ?_
            intro vs u hE hp ac hb K hK
            have s81 : ac.tmps[81]?.getD undef = .pointer (some ⟨b + 1, k16, none⟩) := by rw [hb]; exact (show _ = vs 25 by kernel_rfl).trans (hp 25 (by decide))
            rw [if_pos (AnyO.wanted_none rfl)]
            clear hb hp
            have r1 := cell_below HZ.out.2 (Below.step (below_drew W2) hE)
            go_simp
            exact hK _ _ (Below.refl _ _) rfl
          · -- 27: Op.binOp BinOp.add 114 (Operand.tmp 78) (Operand.tmp 82) 114
            refine AnyO.Step.mk rfl [22, 26] (by kernel_rfl) ?_
            intro vs u hE hp ac hb K hK
            have s78 : ac.tmps[78]?.getD undef = vW ((rr x2 17 ^^^ rr x2 19 ^^^ (x2 >>> 10)) + x7 + (rr x15 7 ^^^ rr x15 18 ^^^ (x15 >>> 3))) := by rw [hb]; exact (show _ = vs 22 by kernel_rfl).trans (hp 22 (by decide))
            have s82 : ac.tmps[82]?.getD undef = vW x16 := by rw [hb]; exact (show _ = vs 26 by kernel_rfl).trans (hp 26 (by decide))
            rw [if_pos (AnyO.wanted_none rfl)]
            clear hb hp
            have r1 := m_add ((rr x2 17 ^^^ rr x2 19 ^^^ (x2 >>> 10)) + x7 + (rr x15 7 ^^^ rr x15 18 ^^^ (x15 >>> 3))) (x16)
            have r2 := w_add ((rr x2 17 ^^^ rr x2 19 ^^^ (x2 >>> 10)) + x7 + (rr x15 7 ^^^ rr x15 18 ^^^ (x15 >>> 3))) (x16)
            go_simp
            exact hK _ _ (Below.refl _ _) rfl
        · intro vs u hE hp
          have e0 : vs 0 = .int .i64 (t : Int) := hp 0 (by decide)
          have e1 : vs 1 = vW x2 := hp 1 (by decide)
          have e2 : vs 2 = vW (rr x2 17) := hp 2 (by decide)
          have e3 : vs 3 = vW x2 := hp 3 (by decide)
          have e4 : vs 4 = vW (rr x2 19) := hp 4 (by decide)
          have e5 : vs 5 = vW (rr x2 17 ^^^ rr x2 19) := hp 5 (by decide)
          have e6 : vs 6 = vW x2 := hp 6 (by decide)
          have e7 : vs 7 = vW (x2 >>> 10) := hp 7 (by decide)
          have e8 : vs 8 = vW (rr x2 17 ^^^ rr x2 19 ^^^ (x2 >>> 10)) := hp 8 (by decide)
          have e9 : vs 9 = .int .i64 (t : Int) := hp 9 (by decide)
          have e10 : vs 10 = .int .i64 (k7 : Int) := hp 10 (by decide)
          have e11 : vs 11 = .pointer (some ⟨b + 1, k7, none⟩) := hp 11 (by decide)
          have e12 : vs 12 = vW x7 := hp 12 (by decide)
          have e13 : vs 13 = vW ((rr x2 17 ^^^ rr x2 19 ^^^ (x2 >>> 10)) + x7) := hp 13 (by decide)
          have e14 : vs 14 = vW x15 := hp 14 (by decide)
          have e15 : vs 15 = vW (rr x15 7) := hp 15 (by decide)
          have e16 : vs 16 = vW x15 := hp 16 (by decide)
          have e17 : vs 17 = vW (rr x15 18) := hp 17 (by decide)
          have e18 : vs 18 = vW (rr x15 7 ^^^ rr x15 18) := hp 18 (by decide)
          have e19 : vs 19 = vW x15 := hp 19 (by decide)
          have e20 : vs 20 = vW (x15 >>> 3) := hp 20 (by decide)
          have e21 : vs 21 = vW (rr x15 7 ^^^ rr x15 18 ^^^ (x15 >>> 3)) := hp 21 (by decide)
          have e22 : vs 22 = vW ((rr x2 17 ^^^ rr x2 19 ^^^ (x2 >>> 10)) + x7 + (rr x15 7 ^^^ rr x15 18 ^^^ (x15 >>> 3))) := hp 22 (by decide)
          have e23 : vs 23 = .int .i64 (t : Int) := hp 23 (by decide)
          have e24 : vs 24 = .int .i64 (k16 : Int) := hp 24 (by decide)
          have e25 : vs 25 = .pointer (some ⟨b + 1, k16, none⟩) := hp 25 (by decide)
          have e26 : vs 26 = vW x16 := hp 26 (by decide)
          have e27 : vs 27 = vW ((rr x2 17 ^^^ rr x2 19 ^^^ (x2 >>> 10)) + x7 + (rr x15 7 ^^^ rr x15 18 ^^^ (x15 >>> 3)) + x16) := hp 27 (by decide)
          clear hp
          have HE9 := Lib.hid (HR2.out.keep hE); clear hE
          rw [puts_range [some 56, some 57, some 58, some 59, some 60, some 61, some 62, some 63, some 64, some 65, some 66, some 67, some 68, some 69, some 70, some 71, some 72, some 73, some 74, some 75, some 76, some 77, some 78, some 79, some 80, some 81, some 82, some 83] (by kernel_rfl)]
          simp only [putL, Nat.reduceAdd, List.drop_succ_cons, List.drop_zero, e0, e1, e2, e3, e4, e5, e6, e7, e8, e9, e10, e11, e12, e13, e14, e15, e16, e17, e18, e19, e20, e21, e22, e23, e24, e25, e26, e27]
          clear e0 e1 e2 e3 e4 e5 e6 e7 e8 e9 e10 e11 e12 e13 e14 e15 e16 e17 e18 e19 e20 e21 e22 e23 e24 e25 e26 e27
          go_simp
          have hfz : u.frozen? ⟨b + 1, t, none⟩ = false := HE9.out.rd.fz t
          obtain ⟨v0, hv0⟩ := HE9.out.has hlt
          go_wp2
          go_roundw
          case rel => exact ⟨t + 1, by omega, by go_num, HE9.out.set hlt HE2.out⟩
          case measure => simp [intOf]; omega
    · obtain rfl : t = 64 := by omega
      obtain ⟨x3, x4, -⟩ := rowL HR.out.rd
      obtain ⟨-, -, ro⟩ := rowL HR.out.ro
      go_wp2
      have hld := load_l (at_setRow (cL (scT (be l) 64)) ro)
      have hle : w.heap.size ≤ b := by have := HR.out.size; omega
      exact bodyPost_ret (results_c1 (ad := ⟨b, 0, none⟩) rfl rfl hld) rfl ⟨rfl, Below.setRow HR.out.below hle _⟩
end Go.Proofs.YtecalodcbkljoaaGreatDoor
