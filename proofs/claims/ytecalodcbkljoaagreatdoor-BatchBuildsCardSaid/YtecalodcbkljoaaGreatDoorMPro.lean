/- The state behind a block: sha256.process. -/
import Derived.Test.YtecalodcbkljoaaGreatDoorMPrc
import Derived.Test.YtecalodcbkljoaaGreatDoorMAnyG
namespace Go.Proofs.YtecalodcbkljoaaGreatDoor
open Go.RowKit
/-- The constants of the rounds lie where the program reads them. -/
def KAt (w : World) : Prop := 1 < w.heap.size ∧ ∀ t, t < 64 → w.cell? ⟨1, t, none⟩ = some (vW (kW t))
theorem KAt.keep {w w' : World} (h : KAt w) (hb : Below w.heap.size w w') : KAt w' := ⟨Nat.lt_of_lt_of_le h.1 hb.size, fun t ht => (hb.cell h.1).trans (h.2 t ht)⟩
def mW (x : W16) (t : Nat) : Wd := x.1[t]?.getD 0
theorem rg_zero (x : W16) : rg (mW x) 0 = x.1 := by
  refine List.ext_getElem (by simp [rg, x.2]) fun j h1 h2 => ?_
  simp [rg, mW, List.getElem?_eq_getElem h2]
/-- The variables of process: the ring at s, the rounds at t. -/
structure PrI (w : World) (b : Nat) (h : Vs) (m : W16) (s t : Nat) (wr : World) : Prop where
  size : w.heap.size = b
  below : Below w.heap.size w wr
  rh : Row wr b (cV h) 156
  rm : Row wr (b + 1) ((rg (mW m) s).map vW) 161
  rr : Row wr (b + 1 + 1) (cV zV) 156
  rv : Row wr (b + 1 + 1 + 1) (cV (rds h (mW m) t)) 156
theorem rowV {w : World} {b : Nat} {v : Vs} {t : TypeId} (h : Row w b (cV v) t) : okA w ⟨b, 0, none⟩ 8 = true ∧ rdA w ⟨b, 0, none⟩ 8 = vV v := by
  have hat := h.at_ (k := 0) (n := 8) (ds := cV v) (by rfl)
  exact ⟨hat.ok, hat.rd⟩
theorem Row.setRow {w : World} {b : Nat} {cs ds : List Value} {t : TypeId} (h : Row w b cs t) : Row (w.setRow b ds.toArray) b ds t := setRow_heap w b cs.toArray ds.toArray t (0, 0) h
theorem Row.setRow_ne {w : World} {b g : Nat} {cs : List Value} {ds : Array Value} {t : TypeId} (h : Row w b cs t) (hg : b ≠ g) : Row (w.setRow g ds) b cs t := by
  unfold Row at *
  rw [← h]
  show (w.heap.modify g _)[b]? = _
  rw [Array.getElem?_modify, if_neg (fun e => hg e.symm)]
section
variable {w : World} {b : Nat} {h : Vs} {m : W16} {s t : Nat} {wr : World}
theorem PrI.keep (p : PrI w b h m s t wr) {wn : World} (hb : Below wr.heap.size wr wn) : PrI w b h m s t wn :=
  ⟨p.size, Below.step p.below hb, p.rh.keep hb, p.rm.keep hb, p.rr.keep hb, p.rv.keep hb⟩
theorem PrI.drewN (p : PrI w b h m s t wr) (n : Nat) : PrI w b h m s t (wr.drewN n) := p.keep (below_drewN _ _)
theorem PrI.slot (p : PrI w b h m (t + 1) t wr) {u : World} (hb : Below wr.heap.size wr u) {i0 : Nat} (h0 : (t : Int) % 16 = (i0 : Int)) (_hlt : t < 64) : u.cell? ⟨b + 1, i0, none⟩ = some (.int .u32 (iW (sw (mW m) t))) := by
  rw [(p.rm.keep hb).cell, List.getElem?_map, show i0 = t % 16 by omega, rg_at (mW m) (t + 1) t (by omega) (by omega)]
  rfl
theorem PrI.at_ (p : PrI w b h m t t wr) {j i : Nat} (hi : j % 16 = i) (h1 : j < t) (h2 : t ≤ j + 16) : wr.cell? ⟨b + 1, i, none⟩ = some (.int .u32 (iW (sw (mW m) j))) := by
  subst hi
  rw [p.rm.cell, List.getElem?_map, rg_at (mW m) t j (by omega) (by omega)]
  rfl
/-- The ring turned at one place. -/
theorem PrI.ring (p : PrI w b h m t t wr) (h16 : 16 ≤ t) {i0 : Nat} (h0 : (t : Int) % 16 = (i0 : Int)) : PrI w b h m (t + 1) t (wr.setCell ⟨b + 1, i0, none⟩ (.int .u32 (iW (sw (mW m) t)))).drew := by
  have hb : b + 1 + 1 + 1 < wr.heap.size := p.rv.lt
  have hs := p.size
  refine ⟨p.size, ?_, p.rh.same (heap_set_other _ _ _ _ _ (by omega)), ?_, p.rr.same (heap_set_other _ _ _ _ _ (by omega)), p.rv.same (heap_set_other _ _ _ _ _ (by omega))⟩
  · exact (p.below.setCell (by rw [hs]; exact Nat.le_succ b) _).drew
  · have hr := p.rm.set i0 (.int .u32 (iW (sw (mW m) t)))
    have e : (rg (mW m) (t + 1)).map vW = ((rg (mW m) t).map vW).set i0 (.int .u32 (iW (sw (mW m) t))) := by
      rw [rg, if_neg (by omega), List.map_set, show t % 16 = i0 by omega]
    rw [e]
    exact hr
theorem PrI.low (p : PrI w b h m t t wr) (h16 : t < 16) : PrI w b h m (t + 1) t wr :=
  ⟨p.size, p.below, p.rh, by have := p.rm; rwa [rg_lo (mW m) t (by omega), ← rg_lo (mW m) (t + 1) (by omega)] at this, p.rr, p.rv⟩
/-- A round taken. -/
theorem PrI.next (p : PrI w b h m (t + 1) t wr) {u : World} (hb : Below wr.heap.size wr u) (_hlt : t < 64) : PrI w b h m (t + 1) (t + 1) (u.setRow (b + 1 + 1 + 1) (aV (rnd (rds h (mW m) t) (kW t) (sw (mW m) t)))) := by
  have hs := p.size
  exact ⟨p.size, Below.setRow (Below.step p.below hb) (by omega) _, (p.rh.keep hb).setRow_ne (by omega), (p.rm.keep hb).setRow_ne (by omega), (p.rr.keep hb).setRow_ne (by omega), (p.rv.keep hb).setRow⟩
end
set_option maxRecDepth 100000 in
set_option maxHeartbeats 6400000 in
theorem process_v (h : Vs) (m : W16) (w : World) (hK : KAt w) : Calls Tryz.prog 105 #[vV h, vM m] w fun e w' => e = .returned (vV (proc h (mW m))) ∧ Below w.heap.size w w' := by
  obtain ⟨b, hb⟩ : ∃ b, w.heap.size = b := ⟨_, rfl⟩
  obtain ⟨W0, hW0⟩ : ∃ W0, (((w.alloc (.cells (aV h) 156)).alloc (.cells (aM m) 161)).alloc (.cells (aV zV) 156)).alloc (.cells (aV h) 156) = W0 := ⟨_, rfl⟩
  have HP := Lib.hid (show PrI w b h m 0 0 W0 from by
    subst hW0 hb
    have r1 := Row.new w (cV h) 156
    have r2 := Row.new (w.alloc (.cells (aV h) 156)) (cM m) 161
    have r3 := Row.new ((w.alloc (.cells (aV h) 156)).alloc (.cells (aM m) 161)) (cV zV) 156
    have r4 := Row.new (((w.alloc (.cells (aV h) 156)).alloc (.cells (aM m) 161)).alloc (.cells (aV zV) 156)) (cV h) 156
    rw [show (w.alloc (.cells (aV h) 156)).heap.size = w.heap.size + 1 by simp] at r2
    rw [show ((w.alloc (.cells (aV h) 156)).alloc (.cells (aM m) 161)).heap.size = w.heap.size + 1 + 1 by simp] at r3
    rw [show (((w.alloc (.cells (aV h) 156)).alloc (.cells (aM m) 161)).alloc (.cells (aV zV) 156)).heap.size = w.heap.size + 1 + 1 + 1 by simp] at r4
    refine ⟨rfl, Below.step (Below.step (Below.step (below_alloc _ _) (below_alloc _ _)) (below_alloc _ _)) (below_alloc _ _), ((r1.keep (below_alloc _ _)).keep (below_alloc _ _)).keep (below_alloc _ _), ?_, r3.keep (below_alloc _ _), r4⟩
    rw [rg_zero]
    exact (r2.keep (below_alloc _ _)).keep (below_alloc _ _))
  have HK := Lib.hid hK
  clear hK
  go_enter Tryz.func105, Tryz.ntmps105
  go_wp2
  clear hb hW0
  go_loopw [12] (fun i wr => ∃ t : Nat, t ≤ 64 ∧ i = .int .i64 t ∧ PrI w b h m t t wr) (fun i _ => 64 - (intOf i).toNat)
  case atStart => exact ⟨0, Nat.zero_le _, rfl, HP.out⟩
  case round =>
    obtain ⟨t, ht, rfl, hp⟩ := hrel
    have HR := Lib.hid hp
    clear hp
    by_cases hlt : t < 64
    · obtain ⟨i0, e0⟩ : ∃ i0, t % 16 = i0 := ⟨_, rfl⟩
      have g0 : (t : Int) % 16 = (i0 : Int) := by omega
      have l0 : i0 < 16 := by omega
      have hti : (t : Int) < 64 := by omega
      clear e0
      by_cases h16 : 16 ≤ t
      · obtain ⟨i1, e1⟩ : ∃ i1, (t - 15) % 16 = i1 := ⟨_, rfl⟩
        obtain ⟨i2, e2⟩ : ∃ i2, (t - 2) % 16 = i2 := ⟨_, rfl⟩
        have g1 : ((t : Int) - 15) % 16 = (i1 : Int) := by omega
        have g2 : ((t : Int) - 2) % 16 = (i2 : Int) := by omega
        have l1 : i1 < 16 := by omega
        have l2 : i2 < 16 := by omega
        have q1 : ∀ n, (wr.drewN n).cell? ⟨b + 1, i1, none⟩ = some (.int .u32 (iW (sw (mW m) (t - 15)))) := fun n => HR.out.at_ e1 (by omega) (by omega)
        have q2 : ∀ n, (wr.drewN n).cell? ⟨b + 1, i2, none⟩ = some (.int .u32 (iW (sw (mW m) (t - 2)))) := fun n => HR.out.at_ e2 (by omega) (by omega)
        clear e1 e2
        go_wp2
        go_quiet (fail)
        obtain ⟨W1, hW1⟩ : ∃ W1, wr.drewN nq = W1 := ⟨_, rfl⟩
        have HR1 := Lib.hid (show PrI w b h m t t W1 from by subst hW1; exact HR.out.drewN nq)
        rw [hW1]
        clear hW1 q1 q2 g1 g2 l1 l2 HR
        go_wp2_with (go_at_call 116; refine (rot_n _ _ _ (by decide)).mono ?_; rintro e w1 ⟨rfl, rfl⟩)
        obtain ⟨i7, e7⟩ : ∃ i7, (t - 7) % 16 = i7 := ⟨_, rfl⟩
        have g7 : ((t : Int) - 7) % 16 = (i7 : Int) := by omega
        have l7 : i7 < 16 := by omega
        have q0 : w1.drew.cell? ⟨b + 1, i0, none⟩ = some (.int .u32 (iW (sw (mW m) (t - 16)))) := HR1.out.at_ (j := t - 16) (by omega) (by omega) (by omega)
        have q7 : w1.drew.cell? ⟨b + 1, i7, none⟩ = some (.int .u32 (iW (sw (mW m) (t - 7)))) := HR1.out.at_ e7 (by omega) (by omega)
        have z0 : w1.drew.frozen? ⟨b + 1, i0, none⟩ = false := HR1.out.rm.fz _
        clear e7
        go_region
        have esw : sw (mW m) (t - 16) + ((rr (sw (mW m) (t - 15)) 7 ^^^ rr (sw (mW m) (t - 15)) 18 ^^^ (sw (mW m) (t - 15) >>> 3)) + (rr (sw (mW m) (t - 2)) 17 ^^^ rr (sw (mW m) (t - 2)) 19 ^^^ (sw (mW m) (t - 2) >>> 10)) + sw (mW m) (t - 7)) = sw (mW m) t := sw_ring (mW m) t h16
        rw [esw]
        obtain ⟨W2, hW2⟩ : ∃ W2, (w1.setCell ⟨b + 1, i0, none⟩ (.int .u32 (iW (sw (mW m) t)))).drew = W2 := ⟨_, rfl⟩
        have HX := Lib.hid (show PrI w b h m (t + 1) t W2 ∧ KAt W2 ∧ (t : Int) % 16 = (i0 : Int) ∧ (i0 : Int) < 16 ∧ (t : Int) < 64 ∧ (t : Int).tmod 16 = (i0 : Int) from by
          have hp := HR1.out.ring h16 g0
          rw [hW2] at hp
          exact ⟨hp, HK.out.keep hp.below, g0, by omega, hti, by rw [Int.tmod_eq_emod_of_nonneg (by omega)]; exact g0⟩)
        rw [hW2]
        clear hW2 q0 q7 z0 g7 l7 g0 l0 hti esw
        go_wp2
        refine AnyO.wp_any_tail 8 (by kernel_rfl) (by kernel_rfl) (by kernel_rfl) (by kernel_rfl) (by kernel_rfl) (by kernel_rfl) (pstP [isV (vV (rds h (mW m) t)), isV (.int .i64 (t : Int)), isV (.pointer (some ⟨1, t, none⟩)), isV (vW (kW t)), isV (.int .i64 (t : Int)), isV (.int .i64 (i0 : Int)), isV (.pointer (some ⟨b + 1, i0, none⟩)), isV (vW (sw (mW m) t))]) (MonoL.cons (Mono.v _) (MonoL.cons (Mono.v _) (MonoL.cons (Mono.v _) (MonoL.cons (Mono.v _) (MonoL.cons (Mono.v _) (MonoL.cons (Mono.v _) (MonoL.cons (Mono.v _) (MonoL.cons (Mono.v _) MonoL.nil)))))))) ?_ ?_
        · intro i hi
          have hi2 : i = 0 ∨ i = 1 ∨ i = 2 ∨ i = 3 ∨ i = 4 ∨ i = 5 ∨ i = 6 ∨ i = 7 := by omega
          clear hi
          rcases hi2 with rfl | rfl | rfl | rfl | rfl | rfl | rfl | rfl
          · -- 0: Op.load 156 (Operand.tmp 5)
            refine AnyO.Step.mk rfl [] (by kernel_rfl) ?_
            intro vs u hE hp ac hb K hK
            have s5 : ac.tmps[5]?.getD undef = .pointer (some ⟨b + 1 + 1 + 1, 0, none⟩) := by rw [hb]; kernel_rfl
            rw [if_pos (AnyO.wanted_none rfl)]
            clear hb hp
            obtain ⟨x1, x2⟩ := rowV (HX.out.1.rv.keep (Below.step (below_drew _) hE))
            go_simp
            exact hK _ _ (Below.refl _ _) rfl
          · -- 1: Op.move (Operand.tmp 6)
            refine AnyO.Step.mk rfl [] (by kernel_rfl) ?_
            intro vs u hE hp ac hb K hK
            have s6 : ac.tmps[6]?.getD undef = .int .i64 (t : Int) := by rw [hb]; kernel_rfl
            rw [if_pos (AnyO.wanted_none rfl)]
            clear hb hp
            go_simp
            exact hK _ _ (Below.refl _ _) rfl
          · -- 2: Op.indexAddr 116 (Operand.global 1) (Operand.tmp 59)
            refine AnyO.Step.mk rfl [1] (by kernel_rfl) ?_
            intro vs u hE hp ac hb K hK
            have s59 : ac.tmps[59]?.getD undef = .int .i64 (t : Int) := by rw [hb]; exact (show _ = vs 1 by kernel_rfl).trans (hp 1 (by decide))
            rw [if_pos (AnyO.wanted_none rfl)]
            clear hb hp
            have x1 := HX.out.2.2.2.2.1
            go_simp
            exact hK _ _ (Below.refl _ _) rfl
          · -- 3: Op.load 114 (Operand.tmp 60)
            refine AnyO.Step.mk rfl [2] (by kernel_rfl) ?_
            intro vs u hE hp ac hb K hK
            have s60 : ac.tmps[60]?.getD undef = .pointer (some ⟨1, t, none⟩) := by rw [hb]; exact (show _ = vs 2 by kernel_rfl).trans (hp 2 (by decide))
            rw [if_pos (AnyO.wanted_none rfl)]
            clear hb hp
            have x1 := (HX.out.2.1.keep (Below.step (below_drew _) hE)).2 t hlt
            go_simp
            exact hK _ _ (Below.refl _ _) rfl
          · -- 4: Op.move (Operand.tmp 6)
            refine AnyO.Step.mk rfl [] (by kernel_rfl) ?_
            intro vs u hE hp ac hb K hK
            have s6 : ac.tmps[6]?.getD undef = .int .i64 (t : Int) := by rw [hb]; kernel_rfl
            rw [if_pos (AnyO.wanted_none rfl)]
            clear hb hp
            go_simp
            exact hK _ _ (Below.refl _ _) rfl
          · -- 5: Op.binOp BinOp.rem 3 (Operand.tmp 62) (Operand.const (Value.
            refine AnyO.Step.mk rfl [4] (by kernel_rfl) ?_
            intro vs u hE hp ac hb K hK
            have s62 : ac.tmps[62]?.getD undef = .int .i64 (t : Int) := by rw [hb]; exact (show _ = vs 4 by kernel_rfl).trans (hp 4 (by decide))
            rw [if_pos (AnyO.wanted_none rfl)]
            clear hb hp
            have x1 := HX.out.2.2.2.2.2
            go_simp
            exact hK _ _ (Below.refl _ _) rfl
          · -- 6: Op.indexAddr 161 (Operand.tmp 3) (Operand.tmp 63)
            refine AnyO.Step.mk rfl [5] (by kernel_rfl) ?_
            intro vs u hE hp ac hb K hK
            have s3 : ac.tmps[3]?.getD undef = .pointer (some ⟨b + 1, 0, none⟩) := by rw [hb]; kernel_rfl
            have s63 : ac.tmps[63]?.getD undef = .int .i64 (i0 : Int) := by rw [hb]; exact (show _ = vs 5 by kernel_rfl).trans (hp 5 (by decide))
            rw [if_pos (AnyO.wanted_none rfl)]
            clear hb hp
            have x1 := HX.out.2.2.2.1
            go_simp
            exact hK _ _ (Below.refl _ _) rfl
          · -- 7: Op.load 114 (Operand.tmp 64)
            refine AnyO.Step.mk rfl [6] (by kernel_rfl) ?_
            intro vs u hE hp ac hb K hK
            have s64 : ac.tmps[64]?.getD undef = .pointer (some ⟨b + 1, i0, none⟩) := by rw [hb]; exact (show _ = vs 6 by kernel_rfl).trans (hp 6 (by decide))
            rw [if_pos (AnyO.wanted_none rfl)]
            clear hb hp
            have x1 := HX.out.1.slot (Below.step (below_drew _) hE) HX.out.2.2.1 hlt
            go_simp
            exact hK _ _ (Below.refl _ _) rfl
        · intro vs u hE hp
          have e0 : vs 0 = vV (rds h (mW m) t) := hp 0 (by decide)
          have e1 : vs 1 = .int .i64 (t : Int) := hp 1 (by decide)
          have e2 : vs 2 = .pointer (some ⟨1, t, none⟩) := hp 2 (by decide)
          have e3 : vs 3 = vW (kW t) := hp 3 (by decide)
          have e4 : vs 4 = .int .i64 (t : Int) := hp 4 (by decide)
          have e5 : vs 5 = .int .i64 (i0 : Int) := hp 5 (by decide)
          have e6 : vs 6 = .pointer (some ⟨b + 1, i0, none⟩) := hp 6 (by decide)
          have e7 : vs 7 = vW (sw (mW m) t) := hp 7 (by decide)
          clear hp
          have HE := Lib.hid hE; clear hE
          rw [puts_range [some 58, some 59, some 60, some 61, some 62, some 63, some 64, some 65] (by kernel_rfl)]
          simp only [putL, Nat.reduceAdd, List.drop_succ_cons, List.drop_zero, e0, e1, e2, e3, e4, e5, e6, e7]
          clear e0 e1 e2 e3 e4 e5 e6 e7
          go_simp
          go_wp2_with (go_at_call 117; refine (round_v _ _ _ _).mono ?_; rintro e w3 ⟨rfl, hb3⟩; have HB3 := Lib.hid (Below.step HE.out hb3); have ro := (HX.out.1.rv.keep HB3.out).okv; clear hb3)
          have HN := Lib.hid (HX.out.1.next HB3.out hlt)
          go_roundw
          case rel => exact ⟨t + 1, by omega, by go_num, HN.out⟩
          case measure => simp [intOf]; omega
      · have HX := Lib.hid (show PrI w b h m (t + 1) t wr ∧ KAt wr ∧ (t : Int) % 16 = (i0 : Int) ∧ (i0 : Int) < 16 ∧ (t : Int) < 64 ∧ (t : Int).tmod 16 = (i0 : Int) from ⟨HR.out.low (by omega), HK.out.keep HR.out.below, g0, by omega, hti, by rw [Int.tmod_eq_emod_of_nonneg (by omega)]; exact g0⟩)
        clear g0 l0 hti
        go_wp2
        refine AnyO.wp_any_tail 8 (by kernel_rfl) (by kernel_rfl) (by kernel_rfl) (by kernel_rfl) (by kernel_rfl) (by kernel_rfl) (pstP [isV (vV (rds h (mW m) t)), isV (.int .i64 (t : Int)), isV (.pointer (some ⟨1, t, none⟩)), isV (vW (kW t)), isV (.int .i64 (t : Int)), isV (.int .i64 (i0 : Int)), isV (.pointer (some ⟨b + 1, i0, none⟩)), isV (vW (sw (mW m) t))]) (MonoL.cons (Mono.v _) (MonoL.cons (Mono.v _) (MonoL.cons (Mono.v _) (MonoL.cons (Mono.v _) (MonoL.cons (Mono.v _) (MonoL.cons (Mono.v _) (MonoL.cons (Mono.v _) (MonoL.cons (Mono.v _) MonoL.nil)))))))) ?_ ?_
        · intro i hi
          have hi2 : i = 0 ∨ i = 1 ∨ i = 2 ∨ i = 3 ∨ i = 4 ∨ i = 5 ∨ i = 6 ∨ i = 7 := by omega
          clear hi
          rcases hi2 with rfl | rfl | rfl | rfl | rfl | rfl | rfl | rfl
          · -- 0: Op.load 156 (Operand.tmp 5)
            refine AnyO.Step.mk rfl [] (by kernel_rfl) ?_
            intro vs u hE hp ac hb K hK
            have s5 : ac.tmps[5]?.getD undef = .pointer (some ⟨b + 1 + 1 + 1, 0, none⟩) := by rw [hb]; kernel_rfl
            rw [if_pos (AnyO.wanted_none rfl)]
            clear hb hp
            obtain ⟨x1, x2⟩ := rowV (HX.out.1.rv.keep (Below.step (below_drew _) hE))
            go_simp
            exact hK _ _ (Below.refl _ _) rfl
          · -- 1: Op.move (Operand.tmp 6)
            refine AnyO.Step.mk rfl [] (by kernel_rfl) ?_
            intro vs u hE hp ac hb K hK
            have s6 : ac.tmps[6]?.getD undef = .int .i64 (t : Int) := by rw [hb]; kernel_rfl
            rw [if_pos (AnyO.wanted_none rfl)]
            clear hb hp
            go_simp
            exact hK _ _ (Below.refl _ _) rfl
          · -- 2: Op.indexAddr 116 (Operand.global 1) (Operand.tmp 59)
            refine AnyO.Step.mk rfl [1] (by kernel_rfl) ?_
            intro vs u hE hp ac hb K hK
            have s59 : ac.tmps[59]?.getD undef = .int .i64 (t : Int) := by rw [hb]; exact (show _ = vs 1 by kernel_rfl).trans (hp 1 (by decide))
            rw [if_pos (AnyO.wanted_none rfl)]
            clear hb hp
            have x1 := HX.out.2.2.2.2.1
            go_simp
            exact hK _ _ (Below.refl _ _) rfl
          · -- 3: Op.load 114 (Operand.tmp 60)
            refine AnyO.Step.mk rfl [2] (by kernel_rfl) ?_
            intro vs u hE hp ac hb K hK
            have s60 : ac.tmps[60]?.getD undef = .pointer (some ⟨1, t, none⟩) := by rw [hb]; exact (show _ = vs 2 by kernel_rfl).trans (hp 2 (by decide))
            rw [if_pos (AnyO.wanted_none rfl)]
            clear hb hp
            have x1 := (HX.out.2.1.keep (Below.step (below_drew _) hE)).2 t hlt
            go_simp
            exact hK _ _ (Below.refl _ _) rfl
          · -- 4: Op.move (Operand.tmp 6)
            refine AnyO.Step.mk rfl [] (by kernel_rfl) ?_
            intro vs u hE hp ac hb K hK
            have s6 : ac.tmps[6]?.getD undef = .int .i64 (t : Int) := by rw [hb]; kernel_rfl
            rw [if_pos (AnyO.wanted_none rfl)]
            clear hb hp
            go_simp
            exact hK _ _ (Below.refl _ _) rfl
          · -- 5: Op.binOp BinOp.rem 3 (Operand.tmp 62) (Operand.const (Value.
            refine AnyO.Step.mk rfl [4] (by kernel_rfl) ?_
            intro vs u hE hp ac hb K hK
            have s62 : ac.tmps[62]?.getD undef = .int .i64 (t : Int) := by rw [hb]; exact (show _ = vs 4 by kernel_rfl).trans (hp 4 (by decide))
            rw [if_pos (AnyO.wanted_none rfl)]
            clear hb hp
            have x1 := HX.out.2.2.2.2.2
            go_simp
            exact hK _ _ (Below.refl _ _) rfl
          · -- 6: Op.indexAddr 161 (Operand.tmp 3) (Operand.tmp 63)
            refine AnyO.Step.mk rfl [5] (by kernel_rfl) ?_
            intro vs u hE hp ac hb K hK
            have s3 : ac.tmps[3]?.getD undef = .pointer (some ⟨b + 1, 0, none⟩) := by rw [hb]; kernel_rfl
            have s63 : ac.tmps[63]?.getD undef = .int .i64 (i0 : Int) := by rw [hb]; exact (show _ = vs 5 by kernel_rfl).trans (hp 5 (by decide))
            rw [if_pos (AnyO.wanted_none rfl)]
            clear hb hp
            have x1 := HX.out.2.2.2.1
            go_simp
            exact hK _ _ (Below.refl _ _) rfl
          · -- 7: Op.load 114 (Operand.tmp 64)
            refine AnyO.Step.mk rfl [6] (by kernel_rfl) ?_
            intro vs u hE hp ac hb K hK
            have s64 : ac.tmps[64]?.getD undef = .pointer (some ⟨b + 1, i0, none⟩) := by rw [hb]; exact (show _ = vs 6 by kernel_rfl).trans (hp 6 (by decide))
            rw [if_pos (AnyO.wanted_none rfl)]
            clear hb hp
            have x1 := HX.out.1.slot (Below.step (below_drew _) hE) HX.out.2.2.1 hlt
            go_simp
            exact hK _ _ (Below.refl _ _) rfl
        · intro vs u hE hp
          have e0 : vs 0 = vV (rds h (mW m) t) := hp 0 (by decide)
          have e1 : vs 1 = .int .i64 (t : Int) := hp 1 (by decide)
          have e2 : vs 2 = .pointer (some ⟨1, t, none⟩) := hp 2 (by decide)
          have e3 : vs 3 = vW (kW t) := hp 3 (by decide)
          have e4 : vs 4 = .int .i64 (t : Int) := hp 4 (by decide)
          have e5 : vs 5 = .int .i64 (i0 : Int) := hp 5 (by decide)
          have e6 : vs 6 = .pointer (some ⟨b + 1, i0, none⟩) := hp 6 (by decide)
          have e7 : vs 7 = vW (sw (mW m) t) := hp 7 (by decide)
          clear hp
          have HE := Lib.hid hE; clear hE
          rw [puts_range [some 58, some 59, some 60, some 61, some 62, some 63, some 64, some 65] (by kernel_rfl)]
          simp only [putL, Nat.reduceAdd, List.drop_succ_cons, List.drop_zero, e0, e1, e2, e3, e4, e5, e6, e7]
          clear e0 e1 e2 e3 e4 e5 e6 e7
          go_simp
          go_wp2_with (go_at_call 117; refine (round_v _ _ _ _).mono ?_; rintro e w3 ⟨rfl, hb3⟩; have HB3 := Lib.hid (Below.step HE.out hb3); have ro := (HX.out.1.rv.keep HB3.out).okv; clear hb3)
          have HN := Lib.hid (HX.out.1.next HB3.out hlt)
          go_roundw
          case rel => exact ⟨t + 1, by omega, by go_num, HN.out⟩
          case measure => simp [intOf]; omega
    · obtain rfl : t = 64 := by omega
      obtain ⟨x1, x2⟩ := rowV HR.out.rh
      obtain ⟨x3, x4⟩ := rowV HR.out.rv
      go_wp2_with (go_at_call 118; refine (plus_v _ _ _).mono ?_; rintro e w3 ⟨rfl, hb3⟩; have ro := (HR.out.rr.keep hb3).okv; have H3 := Lib.hid hb3; clear hb3)
      have hld := load_v (at_setRow (cV (addV h (rds h (mW m) 64))) ro)
      have hle : w.heap.size ≤ b + 1 + 1 := by have := HR.out.size; omega
      exact bodyPost_ret (results_c1 (ad := ⟨b + 1 + 1, 0, none⟩) rfl rfl hld) rfl ⟨rfl, Below.setRow (Below.step HR.out.below H3.out) hle _⟩
end Go.Proofs.YtecalodcbkljoaaGreatDoor
