/- views. -/
import Derived.Test.YtlelecnafdddhaaDoorView
namespace Go.Proofs.YtlelecnafdddhaaDoor
open Go.RowKit
theorem Sl.idE {w : World} {A : Option Addr} {xs : List Id} (h : Sl w cI A xs) {k : Nat} (hk : k < xs.length) : ∃ ad, A = some ad ∧ okA w (ad.add (k * 32)) 32 = true ∧ rdA w (ad.add (k * 32)) 32 = vI xs[k] := by
  obtain ⟨ad, rfl, hat⟩ := Sl.at_ cI_length h hk
  have h1 := hat.ok
  have h2 := hat.rd
  rw [cI_length] at h1 h2
  exact ⟨ad, rfl, h1, h2⟩

set_option maxRecDepth 100000 in
set_option maxHeartbeats 3200000 in
theorem views24 (b : Nat) (ch : Int) (s : St) (F : List Nat) (r : Rs) (w : World) (h : Rep b ch s F w) (ha : RefAt F ch s r w) (hi : s.state = 0 → s.cur.1 = zI) (hm : s.wait.length ≤ 100000) : Calls Tryd.prog 24 #[.pointer (some ⟨b, 0, none⟩), vR r] w fun e w' => e = .returned (.bool true) ∧ Below w.heap.size w w' := by
  have HX := Lib.hid (And.intro h (And.intro ha (And.intro hi hm)))
  have HR0 := Lib.hid (Row.new w (cR r) 32)
  clear h ha hi hm
  have T0 : True := trivial
  go_enter Tryd.func24, Tryd.ntmps24
  go_wp2_with (first
    | (have hh := T0; clear hh T0; go_at_call 21; refine (current21 b ch s F _ (HX.out.1.keep (below_alloc w (.cells (aR r) 32))) HX.out.2.2.1).mono ?_; rintro e w1 ⟨rfl, hb⟩; have H1 := Lib.hid (Below.step (below_alloc w (.cells (aR r) 32)) hb); have HR1 := Lib.hid (HR0.out.keep hb); clear hb; have T1 : True := trivial)
    | (have hh := T1; clear hh T1; go_at_call 26; refine (waiting26 b ch s F _ (HX.out.1.keep (Below.step H1.out (below_alloc w1 (.cells (aI s.cur.1) 40)))) HX.out.2.2.2).mono ?_; rintro e w2 ⟨A, n, c, rfl, hn, hs, hb⟩; have hb2 := Below.step (below_alloc w1 (.cells (aI s.cur.1) 40)) hb; have H2 := Lib.hid (And.intro (Below.step H1.out hb2) (And.intro (HR1.out.keep hb2) (And.intro ((Row.new w1 (cI s.cur.1) 40).keep hb) (And.intro hn hs)))); clear hb hb2 hn hs; have T2 : True := trivial))
  obtain ⟨g5, hg5⟩ : ∃ g5, g5 = w1.heap.size := ⟨_, rfl⟩
  obtain ⟨b3, hb3⟩ : ∃ b3, b3 = w.heap.size := ⟨_, rfl⟩
  have R3 := H2.out.2.1
  have R5 := H2.out.2.2.1
  rw [← hg5] at R5 ⊢
  rw [← hb3] at R3 ⊢
  obtain ⟨_, m1, _, ⟨m3, m3'⟩, _, _, m36, _, _, hlt3⟩ := row_R R3
  obtain ⟨m5, m5'⟩ := R5.idI
  have hlt5 := R5.lt
  obtain ⟨Ar, nr, cr, hw⟩ : ∃ Ar nr cr, r.w = (Ar, nr, cr) := ⟨_, _, _, rfl⟩
  obtain ⟨hl, _, hsl, _⟩ := HX.out.2.1.ws
  rw [hw] at m36 hl hsl
  dsimp only at m36 hl hsl
  rw [← hl, H2.out.2.2.2.1] at m36
  rw [HX.out.2.1.st] at m1
  rw [HX.out.2.1.cur] at m3'
  obtain ⟨st, hst⟩ : ∃ st, s.state = st := ⟨_, rfl⟩
  obtain ⟨x, hx⟩ : ∃ x, s.cur.1 = x := ⟨_, rfl⟩
  obtain ⟨ns, hns⟩ : ∃ ns, (!decide (st = 0)) = ns := ⟨_, rfl⟩
  rw [hst] at m1 ⊢
  rw [hx] at m3' m5'
  rw [hns]
  have HNS := Lib.hid (show (st != 0) = ns by rw [← hns]; rfl)
  have HST := Lib.hid hst
  have HRP := Lib.hid (HX.out.1.keep H2.out.1)
  have HSL := Lib.hid (And.intro (hsl.keep H2.out.1) (And.intro H2.out.2.2.2.2 H2.out.2.2.2.1))
  have HW := Lib.hid (And.intro H2.out.1 (And.intro R3 R5))
  clear R3 R5 hg5 hb3 hw hl hsl hst hx hns
  refine AnyO.wp_any (by kernel_rfl) (by kernel_rfl) (pstP [isV (.pointer (some ⟨b, 0, none⟩)), isV (.int .i64 st), isV (.pointer (some ⟨b3, 1, none⟩)), isV (.int .i64 st), isV (.bool false), isV (.bool false), isV (.bool ns), isV (.pointer (some ⟨b3, 1, none⟩)), isV (.int .i64 st), isV (.bool ns), isV (.bool false), isV (.bool false), isV (.bool false), isV (vI x), isV (.pointer (some ⟨b3, 3, none⟩)), isV (.pointer (some ⟨b3, 3, none⟩)), isV (vI x), isV (.bool false), isV (.bool false), isV (.bool false), isV (.slice A n c), isV (.int .i64 (n : Int)), isV (.pointer (some ⟨b3, 36, none⟩)), isV (.slice Ar n cr), isV (.int .i64 (n : Int)), isV (.bool false), isV (.bool false)]) (MonoL.cons (Mono.v _) (MonoL.cons (Mono.v _) (MonoL.cons (Mono.v _) (MonoL.cons (Mono.v _) (MonoL.cons (Mono.v _) (MonoL.cons (Mono.v _) (MonoL.cons (Mono.v _) (MonoL.cons (Mono.v _) (MonoL.cons (Mono.v _) (MonoL.cons (Mono.v _) (MonoL.cons (Mono.v _) (MonoL.cons (Mono.v _) (MonoL.cons (Mono.v _) (MonoL.cons (Mono.v _) (MonoL.cons (Mono.v _) (MonoL.cons (Mono.v _) (MonoL.cons (Mono.v _) (MonoL.cons (Mono.v _) (MonoL.cons (Mono.v _) (MonoL.cons (Mono.v _) (MonoL.cons (Mono.v _) (MonoL.cons (Mono.v _) (MonoL.cons (Mono.v _) (MonoL.cons (Mono.v _) (MonoL.cons (Mono.v _) (MonoL.cons (Mono.v _) (MonoL.cons (Mono.v _) MonoL.nil))))))))))))))))))))))))))) ?_ ?_
  · intro i hi
    have hi2 : i = 0 ∨ i = 1 ∨ i = 2 ∨ i = 3 ∨ i = 4 ∨ i = 5 ∨ i = 6 ∨ i = 7 ∨ i = 8 ∨ i = 9 ∨ i = 10 ∨ i = 11 ∨ i = 12 ∨ i = 13 ∨ i = 14 ∨ i = 15 ∨ i = 16 ∨ i = 17 ∨ i = 18 ∨ i = 19 ∨ i = 20 ∨ i = 21 ∨ i = 22 ∨ i = 23 ∨ i = 24 ∨ i = 25 ∨ i = 26 := by simp only [List.size_toArray, List.length_cons, List.length_nil] at hi; omega
    clear hi
    rcases hi2 with rfl | rfl | rfl | rfl | rfl | rfl | rfl | rfl | rfl | rfl | rfl | rfl | rfl | rfl | rfl | rfl | rfl | rfl | rfl | rfl | rfl | rfl | rfl | rfl | rfl | rfl | rfl
    · -- 0: Op.move (Operand.tmp 0)
      refine AnyO.Step.mk rfl [] (by kernel_rfl) ?_
      intro vs u hE hp ac hb K hK
      have s0 : ac.tmps[0]?.getD undef = .pointer (some ⟨b, 0, none⟩) := by rw [hb]; kernel_rfl
      rw [if_pos (AnyO.wanted_none rfl)]
      clear hb hp
      go_simp
      exact hK _ _ (Below.refl _ _) rfl
    · -- 1: Op.call { callee := Callee.value (Operand.func 20), args := 
      refine AnyO.Step.mk rfl [0] (by kernel_rfl) ?_
      intro vs u hE hp ac hb K hK
      have s16 : ac.tmps[16]?.getD undef = .pointer (some ⟨b, 0, none⟩) := by rw [hb]; exact (show _ = vs 0 by kernel_rfl).trans (hp 0 (by decide))
      rw [if_pos (AnyO.wanted_none rfl)]
      clear hb hp
      go_simp
      go_at_call 20
      refine (state20 b ch s F u (HRP.out.keep (Below.step (below_drew _) hE))).mono ?_
      rintro e w2 ⟨rfl, rfl⟩
      rw [HST.out]
      exact hK _ _ (Below.refl _ _) rfl
    · -- 2: Op.fieldAddr 32 (Operand.tmp 3) 1
      refine AnyO.Step.mk rfl [] (by kernel_rfl) ?_
      intro vs u hE hp ac hb K hK
      have s3 : ac.tmps[3]?.getD undef = .pointer (some ⟨b3, 0, none⟩) := by rw [hb]; kernel_rfl
      rw [if_pos (AnyO.wanted_none rfl)]
      clear hb hp
      go_simp
      exact hK _ _ (Below.refl _ _) rfl
    · -- 3: Op.load 3 (Operand.tmp 18)
      refine AnyO.Step.mk rfl [2] (by kernel_rfl) ?_
      intro vs u hE hp ac hb K hK
      have s18 : ac.tmps[18]?.getD undef = .pointer (some ⟨b3, 1, none⟩) := by rw [hb]; exact (show _ = vs 2 by kernel_rfl).trans (hp 2 (by decide))
      rw [if_pos (AnyO.wanted_none rfl)]
      clear hb hp
      have rr := cell_below m1 (Below.step (below_drew _) hE)
      go_simp
      exact hK _ _ (Below.refl _ _) rfl
    · -- 4: Op.binOp BinOp.neq 3 (Operand.tmp 17) (Operand.tmp 19) 3
      refine AnyO.Step.mk rfl [1, 3] (by kernel_rfl) ?_
      intro vs u hE hp ac hb K hK
      have s17 : ac.tmps[17]?.getD undef = .int .i64 st := by rw [hb]; exact (show _ = vs 1 by kernel_rfl).trans (hp 1 (by decide))
      have s19 : ac.tmps[19]?.getD undef = .int .i64 st := by rw [hb]; exact (show _ = vs 3 by kernel_rfl).trans (hp 3 (by decide))
      rw [if_pos (AnyO.wanted_none rfl)]
      clear hb hp
      go_simp
      exact hK _ _ (Below.refl _ _) rfl
    · -- 5: Op.move (Operand.tmp 20)
      refine AnyO.Step.mk rfl [4, 1] (by kernel_rfl) ?_
      intro vs u hE hp ac hb K hK
      have s20 : ac.tmps[20]?.getD undef = .bool false := by rw [hb]; exact (show _ = vs 4 by kernel_rfl).trans (hp 4 (by decide))
      rw [if_pos (AnyO.wanted_none rfl)]
      clear hb hp
      go_simp
      exact hK _ _ (Below.refl _ _) rfl
    · -- 6: Op.move (Operand.tmp 6)
      refine AnyO.Step.mk rfl [5] (by kernel_rfl) ?_
      intro vs u hE hp ac hb K hK
      have s6 : ac.tmps[6]?.getD undef = .bool ns := by rw [hb]; kernel_rfl
      have s21 : ac.tmps[21]?.getD undef = .bool false := by rw [hb]; exact (show _ = vs 5 by kernel_rfl).trans (hp 5 (by decide))
      rw [if_pos (AnyO.wanted_some (g := 5) (t := 21) (want := false) rfl rfl s21)]
      clear hb hp
      go_simp
      exact hK _ _ (Below.refl _ _) rfl
    · -- 7: Op.fieldAddr 32 (Operand.tmp 3) 1
      refine AnyO.Step.mk rfl [5] (by kernel_rfl) ?_
      intro vs u hE hp ac hb K hK
      have s3 : ac.tmps[3]?.getD undef = .pointer (some ⟨b3, 0, none⟩) := by rw [hb]; kernel_rfl
      have s21 : ac.tmps[21]?.getD undef = .bool false := by rw [hb]; exact (show _ = vs 5 by kernel_rfl).trans (hp 5 (by decide))
      rw [if_pos (AnyO.wanted_some (g := 5) (t := 21) (want := false) rfl rfl s21)]
      clear hb hp
      go_simp
      exact hK _ _ (Below.refl _ _) rfl
    · -- 8: Op.load 3 (Operand.tmp 23)
      refine AnyO.Step.mk rfl [7, 5] (by kernel_rfl) ?_
      intro vs u hE hp ac hb K hK
      have s23 : ac.tmps[23]?.getD undef = .pointer (some ⟨b3, 1, none⟩) := by rw [hb]; exact (show _ = vs 7 by kernel_rfl).trans (hp 7 (by decide))
      have s21 : ac.tmps[21]?.getD undef = .bool false := by rw [hb]; exact (show _ = vs 5 by kernel_rfl).trans (hp 5 (by decide))
      rw [if_pos (AnyO.wanted_some (g := 5) (t := 21) (want := false) rfl rfl s21)]
      clear hb hp
      have rr := cell_below m1 (Below.step (below_drew _) hE)
      go_simp
      exact hK _ _ (Below.refl _ _) rfl
    · -- 9: Op.binOp BinOp.neq 3 (Operand.tmp 24) (Operand.const (Value.
      refine AnyO.Step.mk rfl [8, 5] (by kernel_rfl) ?_
      intro vs u hE hp ac hb K hK
      have s24 : ac.tmps[24]?.getD undef = .int .i64 st := by rw [hb]; exact (show _ = vs 8 by kernel_rfl).trans (hp 8 (by decide))
      have s21 : ac.tmps[21]?.getD undef = .bool false := by rw [hb]; exact (show _ = vs 5 by kernel_rfl).trans (hp 5 (by decide))
      rw [if_pos (AnyO.wanted_some (g := 5) (t := 21) (want := false) rfl rfl s21)]
      clear hb hp
      have rr := HNS.out
      go_simp
      exact hK _ _ (Below.refl _ _) rfl
    · -- 10: Op.binOp BinOp.neq 4 (Operand.tmp 22) (Operand.tmp 25) 4
      refine AnyO.Step.mk rfl [6, 9, 5] (by kernel_rfl) ?_
      intro vs u hE hp ac hb K hK
      have s22 : ac.tmps[22]?.getD undef = .bool ns := by rw [hb]; exact (show _ = vs 6 by kernel_rfl).trans (hp 6 (by decide))
      have s25 : ac.tmps[25]?.getD undef = .bool ns := by rw [hb]; exact (show _ = vs 9 by kernel_rfl).trans (hp 9 (by decide))
      have s21 : ac.tmps[21]?.getD undef = .bool false := by rw [hb]; exact (show _ = vs 5 by kernel_rfl).trans (hp 5 (by decide))
      rw [if_pos (AnyO.wanted_some (g := 5) (t := 21) (want := false) rfl rfl s21)]
      clear hb hp
      go_simp
      exact hK _ _ (Below.refl _ _) rfl
    · -- 11: Op.pick (Operand.tmp 21) (Operand.const (Value.bool true)) (
      refine AnyO.Step.mk rfl [5, 10] (by kernel_rfl) ?_
      intro vs u hE hp ac hb K hK
      have s21 : ac.tmps[21]?.getD undef = .bool false := by rw [hb]; exact (show _ = vs 5 by kernel_rfl).trans (hp 5 (by decide))
      have s26 : ac.tmps[26]?.getD undef = .bool false := by rw [hb]; exact (show _ = vs 10 by kernel_rfl).trans (hp 10 (by decide))
      rw [if_pos (AnyO.wanted_none rfl)]
      clear hb hp
      go_simp
      exact hK _ _ (Below.refl _ _) rfl
    · -- 12: Op.move (Operand.tmp 27)
      refine AnyO.Step.mk rfl [11, 5] (by kernel_rfl) ?_
      intro vs u hE hp ac hb K hK
      have s27 : ac.tmps[27]?.getD undef = .bool false := by rw [hb]; exact (show _ = vs 11 by kernel_rfl).trans (hp 11 (by decide))
      rw [if_pos (AnyO.wanted_none rfl)]
      clear hb hp
      go_simp
      exact hK _ _ (Below.refl _ _) rfl
    · -- 13: Op.load 40 (Operand.tmp 5)
      refine AnyO.Step.mk rfl [12] (by kernel_rfl) ?_
      intro vs u hE hp ac hb K hK
      have s5 : ac.tmps[5]?.getD undef = .pointer (some ⟨g5, 0, none⟩) := by rw [hb]; kernel_rfl
      have s28 : ac.tmps[28]?.getD undef = .bool false := by rw [hb]; exact (show _ = vs 12 by kernel_rfl).trans (hp 12 (by decide))
      rw [if_pos (AnyO.wanted_some (g := 12) (t := 28) (want := false) rfl rfl s28)]
      clear hb hp
      have rr := okA_below m5 hlt5 (Below.step (below_drew _) hE)
      rw [m5'] at rr
      obtain ⟨rr1, rr2⟩ := rr
      go_simp
      exact hK _ _ (Below.refl _ _) rfl
    · -- 14: Op.fieldAddr 32 (Operand.tmp 3) 3
      refine AnyO.Step.mk rfl [12] (by kernel_rfl) ?_
      intro vs u hE hp ac hb K hK
      have s3 : ac.tmps[3]?.getD undef = .pointer (some ⟨b3, 0, none⟩) := by rw [hb]; kernel_rfl
      have s28 : ac.tmps[28]?.getD undef = .bool false := by rw [hb]; exact (show _ = vs 12 by kernel_rfl).trans (hp 12 (by decide))
      rw [if_pos (AnyO.wanted_some (g := 12) (t := 28) (want := false) rfl rfl s28)]
      clear hb hp
      go_simp
      exact hK _ _ (Below.refl _ _) rfl
    · -- 15: Op.fieldAddr 28 (Operand.tmp 30) 0
      refine AnyO.Step.mk rfl [14, 12] (by kernel_rfl) ?_
      intro vs u hE hp ac hb K hK
      have s30 : ac.tmps[30]?.getD undef = .pointer (some ⟨b3, 3, none⟩) := by rw [hb]; exact (show _ = vs 14 by kernel_rfl).trans (hp 14 (by decide))
      have s28 : ac.tmps[28]?.getD undef = .bool false := by rw [hb]; exact (show _ = vs 12 by kernel_rfl).trans (hp 12 (by decide))
      rw [if_pos (AnyO.wanted_some (g := 12) (t := 28) (want := false) rfl rfl s28)]
      clear hb hp
      go_simp
      exact hK _ _ (Below.refl _ _) rfl
    · -- 16: Op.load 22 (Operand.tmp 31)
      refine AnyO.Step.mk rfl [15, 12] (by kernel_rfl) ?_
      intro vs u hE hp ac hb K hK
      have s31 : ac.tmps[31]?.getD undef = .pointer (some ⟨b3, 3, none⟩) := by rw [hb]; exact (show _ = vs 15 by kernel_rfl).trans (hp 15 (by decide))
      have s28 : ac.tmps[28]?.getD undef = .bool false := by rw [hb]; exact (show _ = vs 12 by kernel_rfl).trans (hp 12 (by decide))
      rw [if_pos (AnyO.wanted_some (g := 12) (t := 28) (want := false) rfl rfl s28)]
      clear hb hp
      have rr := okA_below m3 hlt3 (Below.step (below_drew _) hE)
      rw [m3'] at rr
      obtain ⟨rr1, rr2⟩ := rr
      go_simp
      exact hK _ _ (Below.refl _ _) rfl
    · -- 17: Op.binOp BinOp.neq 22 (Operand.tmp 29) (Operand.tmp 32) 22
      refine AnyO.Step.mk rfl [13, 16, 12] (by kernel_rfl) ?_
      intro vs u hE hp ac hb K hK
      have s29 : ac.tmps[29]?.getD undef = vI x := by rw [hb]; exact (show _ = vs 13 by kernel_rfl).trans (hp 13 (by decide))
      have s32 : ac.tmps[32]?.getD undef = vI x := by rw [hb]; exact (show _ = vs 16 by kernel_rfl).trans (hp 16 (by decide))
      have s28 : ac.tmps[28]?.getD undef = .bool false := by rw [hb]; exact (show _ = vs 12 by kernel_rfl).trans (hp 12 (by decide))
      rw [if_pos (AnyO.wanted_some (g := 12) (t := 28) (want := false) rfl rfl s28)]
      clear hb hp
      go_simp
      exact hK _ _ (Below.refl _ _) rfl
    · -- 18: Op.pick (Operand.tmp 28) (Operand.const (Value.bool true)) (
      refine AnyO.Step.mk rfl [12, 17] (by kernel_rfl) ?_
      intro vs u hE hp ac hb K hK
      have s28 : ac.tmps[28]?.getD undef = .bool false := by rw [hb]; exact (show _ = vs 12 by kernel_rfl).trans (hp 12 (by decide))
      have s33 : ac.tmps[33]?.getD undef = .bool false := by rw [hb]; exact (show _ = vs 17 by kernel_rfl).trans (hp 17 (by decide))
      rw [if_pos (AnyO.wanted_none rfl)]
      clear hb hp
      go_simp
      exact hK _ _ (Below.refl _ _) rfl
    · -- 19: Op.move (Operand.tmp 34)
      refine AnyO.Step.mk rfl [18, 12] (by kernel_rfl) ?_
      intro vs u hE hp ac hb K hK
      have s34 : ac.tmps[34]?.getD undef = .bool false := by rw [hb]; exact (show _ = vs 18 by kernel_rfl).trans (hp 18 (by decide))
      rw [if_pos (AnyO.wanted_none rfl)]
      clear hb hp
      go_simp
      exact hK _ _ (Below.refl _ _) rfl
    · -- 20: Op.move (Operand.tmp 7)
      refine AnyO.Step.mk rfl [19] (by kernel_rfl) ?_
      intro vs u hE hp ac hb K hK
      have s7 : ac.tmps[7]?.getD undef = .slice A n c := by rw [hb]; kernel_rfl
      have s35 : ac.tmps[35]?.getD undef = .bool false := by rw [hb]; exact (show _ = vs 19 by kernel_rfl).trans (hp 19 (by decide))
      rw [if_pos (AnyO.wanted_some (g := 19) (t := 35) (want := false) rfl rfl s35)]
      clear hb hp
      go_simp
      exact hK _ _ (Below.refl _ _) rfl
    · -- 21: Op.call { callee := Callee.builtin Builtin.len, args := #[Op
      refine AnyO.Step.mk rfl [20, 19] (by kernel_rfl) ?_
      intro vs u hE hp ac hb K hK
      have s36 : ac.tmps[36]?.getD undef = .slice A n c := by rw [hb]; exact (show _ = vs 20 by kernel_rfl).trans (hp 20 (by decide))
      have s35 : ac.tmps[35]?.getD undef = .bool false := by rw [hb]; exact (show _ = vs 19 by kernel_rfl).trans (hp 19 (by decide))
      rw [if_pos (AnyO.wanted_some (g := 19) (t := 35) (want := false) rfl rfl s35)]
      clear hb hp
      go_simp
      exact hK _ _ (Below.refl _ _) rfl
    · -- 22: Op.fieldAddr 32 (Operand.tmp 3) 4
      refine AnyO.Step.mk rfl [19] (by kernel_rfl) ?_
      intro vs u hE hp ac hb K hK
      have s3 : ac.tmps[3]?.getD undef = .pointer (some ⟨b3, 0, none⟩) := by rw [hb]; kernel_rfl
      have s35 : ac.tmps[35]?.getD undef = .bool false := by rw [hb]; exact (show _ = vs 19 by kernel_rfl).trans (hp 19 (by decide))
      rw [if_pos (AnyO.wanted_some (g := 19) (t := 35) (want := false) rfl rfl s35)]
      clear hb hp
      go_simp
      exact hK _ _ (Below.refl _ _) rfl
    · -- 23: Op.load 29 (Operand.tmp 38)
      refine AnyO.Step.mk rfl [22, 19] (by kernel_rfl) ?_
      intro vs u hE hp ac hb K hK
      have s38 : ac.tmps[38]?.getD undef = .pointer (some ⟨b3, 36, none⟩) := by rw [hb]; exact (show _ = vs 22 by kernel_rfl).trans (hp 22 (by decide))
      have s35 : ac.tmps[35]?.getD undef = .bool false := by rw [hb]; exact (show _ = vs 19 by kernel_rfl).trans (hp 19 (by decide))
      rw [if_pos (AnyO.wanted_some (g := 19) (t := 35) (want := false) rfl rfl s35)]
      clear hb hp
      have rr := cell_below m36 (Below.step (below_drew _) hE)
      go_simp
      exact hK _ _ (Below.refl _ _) rfl
    · -- 24: Op.call { callee := Callee.builtin Builtin.len, args := #[Op
      refine AnyO.Step.mk rfl [23, 19] (by kernel_rfl) ?_
      intro vs u hE hp ac hb K hK
      have s39 : ac.tmps[39]?.getD undef = .slice Ar n cr := by rw [hb]; exact (show _ = vs 23 by kernel_rfl).trans (hp 23 (by decide))
      have s35 : ac.tmps[35]?.getD undef = .bool false := by rw [hb]; exact (show _ = vs 19 by kernel_rfl).trans (hp 19 (by decide))
      rw [if_pos (AnyO.wanted_some (g := 19) (t := 35) (want := false) rfl rfl s35)]
      clear hb hp
      go_simp
      exact hK _ _ (Below.refl _ _) rfl
    · -- 25: Op.binOp BinOp.neq 3 (Operand.tmp 37) (Operand.tmp 40) 3
      refine AnyO.Step.mk rfl [21, 24, 19] (by kernel_rfl) ?_
      intro vs u hE hp ac hb K hK
      have s37 : ac.tmps[37]?.getD undef = .int .i64 (n : Int) := by rw [hb]; exact (show _ = vs 21 by kernel_rfl).trans (hp 21 (by decide))
      have s40 : ac.tmps[40]?.getD undef = .int .i64 (n : Int) := by rw [hb]; exact (show _ = vs 24 by kernel_rfl).trans (hp 24 (by decide))
      have s35 : ac.tmps[35]?.getD undef = .bool false := by rw [hb]; exact (show _ = vs 19 by kernel_rfl).trans (hp 19 (by decide))
      rw [if_pos (AnyO.wanted_some (g := 19) (t := 35) (want := false) rfl rfl s35)]
      clear hb hp
      go_simp
      exact hK _ _ (Below.refl _ _) rfl
    · -- 26: Op.pick (Operand.tmp 35) (Operand.const (Value.bool true)) (
      refine AnyO.Step.mk rfl [19, 25] (by kernel_rfl) ?_
      intro vs u hE hp ac hb K hK
      have s35 : ac.tmps[35]?.getD undef = .bool false := by rw [hb]; exact (show _ = vs 19 by kernel_rfl).trans (hp 19 (by decide))
      have s41 : ac.tmps[41]?.getD undef = .bool false := by rw [hb]; exact (show _ = vs 25 by kernel_rfl).trans (hp 25 (by decide))
      rw [if_pos (AnyO.wanted_none rfl)]
      clear hb hp
      go_simp
      exact hK _ _ (Below.refl _ _) rfl
  · intro vs u hE hp
    have e0 : vs 0 = .pointer (some ⟨b, 0, none⟩) := hp 0 (by decide)
    have e1 : vs 1 = .int .i64 st := hp 1 (by decide)
    have e2 : vs 2 = .pointer (some ⟨b3, 1, none⟩) := hp 2 (by decide)
    have e3 : vs 3 = .int .i64 st := hp 3 (by decide)
    have e4 : vs 4 = .bool false := hp 4 (by decide)
    have e5 : vs 5 = .bool false := hp 5 (by decide)
    have e6 : vs 6 = .bool ns := hp 6 (by decide)
    have e7 : vs 7 = .pointer (some ⟨b3, 1, none⟩) := hp 7 (by decide)
    have e8 : vs 8 = .int .i64 st := hp 8 (by decide)
    have e9 : vs 9 = .bool ns := hp 9 (by decide)
    have e10 : vs 10 = .bool false := hp 10 (by decide)
    have e11 : vs 11 = .bool false := hp 11 (by decide)
    have e12 : vs 12 = .bool false := hp 12 (by decide)
    have e13 : vs 13 = vI x := hp 13 (by decide)
    have e14 : vs 14 = .pointer (some ⟨b3, 3, none⟩) := hp 14 (by decide)
    have e15 : vs 15 = .pointer (some ⟨b3, 3, none⟩) := hp 15 (by decide)
    have e16 : vs 16 = vI x := hp 16 (by decide)
    have e17 : vs 17 = .bool false := hp 17 (by decide)
    have e18 : vs 18 = .bool false := hp 18 (by decide)
    have e19 : vs 19 = .bool false := hp 19 (by decide)
    have e20 : vs 20 = .slice A n c := hp 20 (by decide)
    have e21 : vs 21 = .int .i64 (n : Int) := hp 21 (by decide)
    have e22 : vs 22 = .pointer (some ⟨b3, 36, none⟩) := hp 22 (by decide)
    have e23 : vs 23 = .slice Ar n cr := hp 23 (by decide)
    have e24 : vs 24 = .int .i64 (n : Int) := hp 24 (by decide)
    have e25 : vs 25 = .bool false := hp 25 (by decide)
    have e26 : vs 26 = .bool false := hp 26 (by decide)
    clear hp
    have HE := Lib.hid hE
    clear hE
    rw [puts_range [some 16, some 17, some 18, some 19, some 20, some 21, some 22, some 23, some 24, some 25, some 26, some 27, some 28, some 29, some 30, some 31, some 32, some 33, some 34, some 35, some 36, some 37, some 38, some 39, some 40, some 41, some 42] (by kernel_rfl)]
    simp only [putL, Nat.reduceAdd, e0, e1, e2, e3, e4, e5, e6, e7, e8, e9, e10, e11, e12, e13, e14, e15, e16, e17, e18, e19, e20, e21, e22, e23, e24, e25, e26]
    clear e0 e1 e2 e3 e4 e5 e6 e7 e8 e9 e10 e11 e12 e13 e14 e15 e16 e17 e18 e19 e20 e21 e22 e23 e24 e25 e26
    go_simp
    have M36 := cell_below m36 HE.out
    have HS := Lib.hid (And.intro (HSL.out.2.1.keep HE.out) (And.intro (HSL.out.1.keep HE.out) M36))
    have hwu := Below.step HW.out.1 HE.out
    have HWU := Lib.hid hwu
    clear M36 hwu m1 m3 m3' m36 m5 m5'
    go_wp2
    go_loopw [8] (fun i wr => ∃ k : Nat, k ≤ n ∧ i = .int .i64 k ∧ Below u.heap.size u wr) (fun i _ => n - (intOf i).toNat)
    case atStart => exact ⟨0, Nat.zero_le _, rfl, Below.refl _ _⟩
    case round =>
      obtain ⟨k, hk, rfl, hb⟩ := hrel
      have r36 := cell_below HS.out.2.2 hb
      by_cases hlt : k < n
      · have hl1 : k < s.wait.length := by rw [HSL.out.2.2]; exact hlt
        have hkb : k ≤ 100000 := by have := HX.out.2.2.2; omega
        obtain ⟨ad1, rfl, ok1, rd1⟩ := Sl.idE (HS.out.1.keep hb) (show k < (s.wait.map (·.1)).length by rw [List.length_map]; exact hl1)
        obtain ⟨ad2, rfl, ok2, rd2⟩ := Sl.artId (HS.out.2.1.keep hb) hl1
        rw [List.getElem_map] at rd1
        generalize (s.wait[k]'hl1).1 = y at rd1 rd2
        have hlk : (k : Int) < (n : Int) := by omega
        have HB2 := Lib.hid hb
        clear hb hl1
        go_wp2
        go_quiet (fail)
        go_wp2
        go_roundw
        case rel => exact ⟨k + 1, hlt, by go_num, Below.step HB2.out (below_drewN _ _)⟩
        case measure => simp [intOf] <;> omega
      · have hkn : k = n := by omega
        subst hkn
        have HB2 := Lib.hid hb
        clear hb
        go_wp2
        go_ret
        exact ⟨rfl, Below.step HWU.out HB2.out⟩

end Go.Proofs.YtlelecnafdddhaaDoor
