/- The reference's Hear: an article that is wanted, the outcomes. -/
import Derived.Test.YtlelecnafdddhaaDoorRefH
namespace Go.Proofs.YtlelecnafdddhaaDoor
open Go.RowKit
theorem want_facts {b : Nat} {r : Rs} {ty : TypeId} {w5 : World} (h : Row w5 b (cR r) ty) (fr : Int) (U1 U2 : World) (h1 : U1 = w5.setCell ⟨b, 1, none⟩ (.int .i64 2)) (h2 : U2 = U1.setCell ⟨b, 2, none⟩ (.int .i64 fr)) :
    w5.frozen? ⟨b, 1, none⟩ = false ∧ (U1.cell? ⟨b, 2, none⟩ = some (.int .i64 r.at_) ∧ U1.frozen? ⟨b, 2, none⟩ = false) ∧
    (okA U2 ⟨b, 0, none⟩ 38 = true ∧ rdA U2 ⟨b, 0, none⟩ 38 = vR { r with st := 2, at_ := fr }) ∧ (∀ j, j ≠ b → U1.heap[j]? = w5.heap[j]?) ∧ (∀ j, j ≠ b → U2.heap[j]? = w5.heap[j]?) ∧ (∀ B, B ≤ b → Below B w5 U2) := by
  have row1 : Row U1 b (cR { r with st := 2 }) ty := by rw [h1, ← cR_set1]; exact h.set 1 _
  have row2 : Row U2 b (cR { r with st := 2, at_ := fr }) ty := by rw [h2]; exact row1.set 2 _
  have o1 : ∀ j, j ≠ b → U1.heap[j]? = w5.heap[j]? := fun j hj => by rw [h1]; exact heap_set_other w5 b 1 _ j hj
  have o2 : ∀ j, j ≠ b → U2.heap[j]? = U1.heap[j]? := fun j hj => by rw [h2]; exact heap_set_other U1 b 2 _ j hj
  refine ⟨h.fz 1, ⟨row1.cell 2, row1.fz 2⟩, row2.okw (cR_length _), o1, fun j hj => (o2 j hj).trans (o1 j hj), fun B hB => ?_⟩
  subst h2 h1
  exact Below.setCell' (Below.setCell' (Below.refl B w5) hB 1 _) hB 2 _
theorem cO_hi (o : Out) (k : Nat) : (cO o)[32 + k]? = [Value.int .i64 o.2.1, .int .i64 o.2.2][k]? := by
  unfold cO
  rw [List.getElem?_append_right (by rw [cI_length]; omega), cI_length, show 32 + k - 32 = k by omega]
theorem cO_set32 (x : Id) (a b n : Int) : (cO (x, a, b)).set 32 (.int .i64 n) = cO (x, n, b) := by
  unfold cO
  rw [show (32 : Nat) = (cI x).length + 0 by rw [cI_length], set_hi]
  rfl
theorem cO_set33 (x : Id) (a b n : Int) : (cO (x, a, b)).set 33 (.int .i64 n) = cO (x, a, n) := by
  unfold cO
  rw [show (33 : Nat) = (cI x).length + 1 by rw [cI_length], set_hi]
  rfl
set_option maxRecDepth 100000 in
set_option maxHeartbeats 3200000 in
theorem rhear_want (F : List Nat) (ch : Int) (s : St) (r : Rs) (c : Rc) (w : World) (x : Id) (t : ByteArray) (fr : Int) (h : RefAt F ch s r w) (hrst : r.st = 1) (hcur : r.cur = (x, t)) (hv : c.verb = 3) (hid : c.id = x) (hfr : c.from_ = fr) (hle : fr ≤ (t.size : Int)) : Calls Tryd.prog 45 #[vR r, vK c] w (RefP F ch { s with state := 2, snd := some (fr, false) } 0 w) := by
  have HX := Lib.hid (And.intro h hcur)
  have hne : decide (x = x) = true := by simp
  have hgt : ¬ (t.size : Int) < fr := by omega
  have HW3 : Below w.heap.size w (((w.alloc (.cells (aR r) 32)).alloc (.cells (aK c) 55)).alloc (.cells (aR zR) 32)) := Below.step (Below.step (below_alloc w _) (below_alloc _ _)) (below_alloc _ _)
  have R1 : Row (((w.alloc (.cells (aR r) 32)).alloc (.cells (aK c) 55)).alloc (.cells (aR zR) 32)) w.heap.size (cR r) 32 := ((Row.new w (cR r) 32).keep (below_alloc _ _)).keep (below_alloc _ _)
  have R2 : Row (((w.alloc (.cells (aR r) 32)).alloc (.cells (aK c) 55)).alloc (.cells (aR zR) 32)) (w.heap.size + 1) (cK c) 55 := by
    have h := (Row.new (w.alloc (.cells (aR r) 32)) (cK c) 55).keep (below_alloc _ (.cells (aR zR) 32))
    rwa [show (w.alloc (.cells (aR r) 32)).heap.size = w.heap.size + 1 by simp] at h
  have R3 : Row (((w.alloc (.cells (aR r) 32)).alloc (.cells (aK c) 55)).alloc (.cells (aR zR) 32)) (w.heap.size + 1 + 1) (cR zR) 32 := by
    have h := Row.new ((w.alloc (.cells (aR r) 32)).alloc (.cells (aK c) 55)) (cR zR) 32
    rwa [show ((w.alloc (.cells (aR r) 32)).alloc (.cells (aK c) 55)).heap.size = w.heap.size + 1 + 1 by simp] at h
  obtain ⟨W3, hW⟩ : ∃ W3, ((w.alloc (.cells (aR r) 32)).alloc (.cells (aK c) 55)).alloc (.cells (aR zR) 32) = W3 := ⟨_, rfl⟩
  rw [hW] at HW3 R1 R2 R3
  obtain ⟨_, c1, _, ⟨c3, c3'⟩, _, c35, _, _, ⟨c38, c38'⟩, hlt⟩ := row_R R1
  obtain ⟨k0, _, k2, _, ⟨k4, k4'⟩, _, _, hlt2⟩ := row_K R2
  rw [hrst] at c1
  rw [hcur] at c3' c35
  rw [hv] at k0
  rw [hid] at k4'
  dsimp only at c3' c35
  rw [hfr] at k2
  obtain ⟨f1, ⟨f2, f2'⟩, ⟨f3, f3'⟩, z0, z1, z2⟩ := want_facts R1 fr _ _ rfl rfl
  have k2' := ((R2.same (z0 (w.heap.size + 1) (by omega))).cell 2).trans (show (cK c)[2]? = some (.int .i64 c.from_) from rfl)
  rw [hfr] at k2'
  have R3' := R3.same (z1 (w.heap.size + 1 + 1) (by omega))
  have j3 := R3'.rok (cR_length zR)
  have HR := Lib.hid (And.intro (HW3.trans (z2 w.heap.size (Nat.le_refl _))) R3')
  clear h hrst hcur hv hid hfr R1 R2 R3 HW3 R3' z0 z1 z2 hle
  go_enter Tryd.func45, Tryd.ntmps45
  go_wp2
  go_region
  all_goals go_wp2
  all_goals
    have hb := (Below.setRow' HR.out.1 (show w.heap.size ≤ w.heap.size + 1 + 1 by omega) (aR { r with st := 2, at_ := fr })).drew
    have hX := HX.out.1.keep hb
    exact bodyPost_ret (v := .tuple #[vR { r with st := 2, at_ := fr }, .int .i64 0]) (results_c2 (ad := ⟨w.heap.size + 1 + 1, 0, none⟩) rfl rfl (load_R HR.out.2.setRow) rfl) rfl ⟨_, rfl, ⟨hX.ch, rfl, hX.cur, rfl, hX.ws, hX.os⟩, hb⟩
set_option maxRecDepth 100000 in
set_option maxHeartbeats 3200000 in
theorem rhear_end9 (F : List Nat) (ch : Int) (s : St) (r : Rs) (c : Rc) (w : World) (st : Int) (x : Id) (t : ByteArray) (cd : Int) (h : RefAt F ch s r w) (hF : ∀ k ∈ F, k < w.heap.size) (hm : s.outs.length ≤ 100000) (hrst : r.st = st) (hcur : r.cur = (x, t)) (hv : c.verb = 9) (hid : c.id = x) (hcd : c.code = cd) (hst : st = 3) : Calls Tryd.prog 45 #[vR r, vK c] w (RefP F ch ⟨s.wait, 0, zA, s.outs ++ [(x, 0, 0)], none⟩ 0 w) := by
  obtain ⟨A, n, cc, hos⟩ : ∃ A n cc, r.o = (A, n, cc) := ⟨_, _, _, rfl⟩
  obtain ⟨hl, _, hsl, _⟩ := h.os
  rw [hos] at hl hsl
  dsimp only at hl hsl
  have HX := Lib.hid (And.intro h hF)
  have hne : decide (x = x) = true := by simp
  subst hst
  have HW3 : Below w.heap.size w (((w.alloc (.cells (aR r) 32)).alloc (.cells (aK c) 55)).alloc (.cells (aR zR) 32)) := Below.step (Below.step (below_alloc w _) (below_alloc _ _)) (below_alloc _ _)
  have R1 : Row (((w.alloc (.cells (aR r) 32)).alloc (.cells (aK c) 55)).alloc (.cells (aR zR) 32)) w.heap.size (cR r) 32 := ((Row.new w (cR r) 32).keep (below_alloc _ _)).keep (below_alloc _ _)
  have R2 : Row (((w.alloc (.cells (aR r) 32)).alloc (.cells (aK c) 55)).alloc (.cells (aR zR) 32)) (w.heap.size + 1) (cK c) 55 := by
    have h := (Row.new (w.alloc (.cells (aR r) 32)) (cK c) 55).keep (below_alloc _ (.cells (aR zR) 32))
    rwa [show (w.alloc (.cells (aR r) 32)).heap.size = w.heap.size + 1 by simp] at h
  have R3 : Row (((w.alloc (.cells (aR r) 32)).alloc (.cells (aK c) 55)).alloc (.cells (aR zR) 32)) (w.heap.size + 1 + 1) (cR zR) 32 := by
    have h := Row.new ((w.alloc (.cells (aR r) 32)).alloc (.cells (aK c) 55)) (cR zR) 32
    rwa [show ((w.alloc (.cells (aR r) 32)).alloc (.cells (aK c) 55)).heap.size = w.heap.size + 1 + 1 by simp] at h
  obtain ⟨W3, hW⟩ : ∃ W3, ((w.alloc (.cells (aR r) 32)).alloc (.cells (aK c) 55)).alloc (.cells (aR zR) 32) = W3 := ⟨_, rfl⟩
  rw [hW] at HW3 R1 R2 R3
  obtain ⟨_, c1, _, ⟨c3, c3'⟩, _, c35, _, c37, ⟨c38, c38'⟩, hlt⟩ := row_R R1
  obtain ⟨k0, _, k2, k3, ⟨k4, k4'⟩, _, _, hlt2⟩ := row_K R2
  rw [hrst] at c1
  rw [hcur] at c3' c35
  rw [hv] at k0
  rw [hid] at k4'
  dsimp only at c3' c35
  rw [hos] at c37
  rw [hcd] at k3
  dsimp only at c37
  have HSL := Lib.hid (And.intro hl (And.intro hsl hm))
  obtain ⟨W4, hW4⟩ : ∃ W4, W3.alloc (.cells (aO (x, 0, 0)) 103) = W4 := ⟨_, rfl⟩
  have R6 := Row.new W3 (cO (x, 0, 0)) 103
  have hb4 := below_alloc W3 (.cells (aO (x, 0, 0)) 103)
  change Row (W3.alloc (.cells (aO (x, 0, 0)) 103)) _ _ _ at R6
  rw [hW4] at R6 hb4
  have o0 := cell_below k0 hb4
  have o3 := cell_below k3 hb4
  have HW4 := HW3.trans (hb4.mono HW3.size)
  have Q1 := R1.keep hb4
  have Q3 := R3.keep hb4
  have S1 := Q1
  have S3 := Q3
  have S6 := R6
  have hbU := HW4
  have c37' := (S1.cell 37).trans (cR_hi r 2)
  rw [hos] at c37'
  dsimp only at c37'
  have c6 := S6.okw (cO_length _)
  have HQ := Lib.hid (And.intro S1 (And.intro S3 (And.intro S6 hbU)))
  have HJ := Lib.hid (And.intro c37' c6)
  clear h hF hm hrst hcur hv hid hcd hos hl hsl R1 R2 R3 HW3 R6 hb4 HW4 Q1 Q3 S1 S3 S6 hbU c37' c6
  go_enter Tryd.func45, Tryd.ntmps45
  go_wp2
  generalize W4 = U at HQ HJ ⊢
  clear c1 c3 c3' c35 c37 c38 c38' k0 k2 k3 k4 k4' o0 o3 hW hW4
  obtain ⟨c37, c6, c6'⟩ := HJ.out
  change rdA U _ 34 = vO (x, 0, 0) at c6'
  obtain ⟨g6, hg6⟩ : ∃ g6, g6 = W3.heap.size := ⟨_, rfl⟩
  rw [← hg6] at HQ c6 c6' ⊢
  have hlt6 : g6 < U.heap.size := HQ.out.2.2.1.lt
  obtain ⟨o, ho⟩ : ∃ o : Out, (x, (0 : Int), (0 : Int)) = o := ⟨_, rfl⟩
  rw [ho] at c6' ⊢
  have Hoo := Lib.hid ho
  clear HJ hg6 ho
  refine AnyO.wp_any_tail 6 (by kernel_rfl) (by kernel_rfl) (by kernel_rfl) (by kernel_rfl) (by kernel_rfl) (by kernel_rfl) (pstP [isOwn0G (α := Out) U.heap.size 103 34 cO, isV (.pointer (some ⟨w.heap.size, 37, none⟩)), isV (.slice A n cc), isOwnG U.heap.size 103 34 cO s.outs, isV (vO o), isOne cO o]) (MonoL.cons (Mono.own0G _ _ _ _) (MonoL.cons (Mono.v _) (MonoL.cons (Mono.v _) (MonoL.cons (Mono.ownG _ _ _ _ _) (MonoL.cons (Mono.v _) (MonoL.cons (Mono.one _ _) MonoL.nil)))))) ?_ ?_
  · intro i hi
    have hi2 : i = 0 ∨ i = 1 ∨ i = 2 ∨ i = 3 ∨ i = 4 ∨ i = 5 := by omega
    clear hi
    rcases hi2 with rfl | rfl | rfl | rfl | rfl | rfl
    · -- 0: Op.buildSlice 30 0 #[]
      refine AnyO.Step.mk rfl [] (by kernel_rfl) ?_
      intro vs u hE hp ac hb K hK
      rw [if_pos (AnyO.wanted_none rfl)]
      clear hb hp
      go_simp
      exact hK _ _ (below_alloc _ _) ⟨_, rfl, Own.new0 u U.heap.size 103 34 cO cO_length hE.size⟩
    · -- 1: Op.fieldAddr 32 (Operand.tmp 2) 5
      refine AnyO.Step.mk rfl [] (by kernel_rfl) ?_
      intro vs u hE hp ac hb K hK
      have s2 : ac.tmps[2]?.getD undef = .pointer (some ⟨w.heap.size, 0, none⟩) := by rw [hb]; kernel_rfl
      rw [if_pos (AnyO.wanted_none rfl)]
      clear hb hp
      go_simp
      exact hK _ _ (Below.refl _ _) rfl
    · -- 2: Op.load 30 (Operand.tmp 102)
      refine AnyO.Step.mk rfl [1] (by kernel_rfl) ?_
      intro vs u hE hp ac hb K hK
      have s102 : ac.tmps[102]?.getD undef = .pointer (some ⟨w.heap.size, 37, none⟩) := by rw [hb]; exact (show _ = vs 1 by kernel_rfl).trans (hp 1 (by decide))
      rw [if_pos (AnyO.wanted_none rfl)]
      clear hb hp
      have rr := cell_below c37 (Below.step (below_drew _) hE)
      go_simp
      exact hK _ _ (Below.refl _ _) rfl
    · -- 3: Op.call { callee := Callee.builtin Builtin.append, args := #
      refine AnyO.Step.mk rfl [0, 2] (by kernel_rfl) ?_
      intro vs u hE hp ac hb K hK
      obtain ⟨g101, e101, h101⟩ := hp 0 (by decide)
      have s101 : ac.tmps[101]?.getD undef = .slice (some ⟨g101, 0, none⟩) 0 0 := by rw [hb]; exact (show _ = vs 0 by kernel_rfl).trans e101
      clear e101
      have s103 : ac.tmps[103]?.getD undef = .slice A n cc := by rw [hb]; exact (show _ = vs 2 by kernel_rfl).trans (hp 2 (by decide))
      rw [if_pos (AnyO.wanted_none rfl)]
      clear hb hp
      refine wp_append_fresh u (.tmp 101) (.tmp 103) 30 rfl U.heap.size 103 34 48 cO Tryd.underlying30 row103 (by decide) cO_length g101 (ev_tmp s101) h101 A n cc s.outs HSL.out.1 (ev_tmp s103) ((HSL.out.2.1.keep HQ.out.2.2.2).keep (Below.step (below_drew _) hE)) (by have := HSL.out.1; have := HSL.out.2.2; omega) (by have := HSL.out.1; have := HSL.out.2.2; omega) hE.size ?_
      exact fun v w2 h1 h2 => hK _ _ h2 h1
    · -- 4: Op.load 103 (Operand.tmp 6)
      refine AnyO.Step.mk rfl [] (by kernel_rfl) ?_
      intro vs u hE hp ac hb K hK
      have s6 : ac.tmps[6]?.getD undef = .pointer (some ⟨g6, 0, none⟩) := by rw [hb]; kernel_rfl
      rw [if_pos (AnyO.wanted_none rfl)]
      clear hb hp
      have rr := okA_below c6 hlt6 (Below.step (below_drew _) hE)
      rw [c6'] at rr
      obtain ⟨rr1, rr2⟩ := rr
      go_simp
      exact hK _ _ (Below.refl _ _) rfl
    · -- 5: Op.buildSlice 30 1 #[(0, Operand.tmp 105)]
      refine AnyO.Step.mk rfl [4] (by kernel_rfl) ?_
      intro vs u hE hp ac hb K hK
      have s105 : ac.tmps[105]?.getD undef = vO o := by rw [hb]; exact (show _ = vs 4 by kernel_rfl).trans (hp 4 (by decide))
      rw [if_pos (AnyO.wanted_none rfl)]
      clear hb hp
      go_simp
      exact hK _ _ (below_alloc _ _) (isOne.O u _ _)
  · intro vs u hE hp
    obtain ⟨g_0, e0, h_0⟩ := show isOwn0G (α := Out) U.heap.size 103 34 cO (vs 0) u from hp 0 (by decide)
    have e1 : vs 1 = .pointer (some ⟨w.heap.size, 37, none⟩) := hp 1 (by decide)
    have e2 : vs 2 = .slice A n cc := hp 2 (by decide)
    have f3 : isOwnG U.heap.size 103 34 cO s.outs (vs 3) u := hp 3 (by decide)
    have e4 : vs 4 = vO o := hp 4 (by decide)
    obtain ⟨g_5, e5, h_5⟩ := show isOne cO o (vs 5) u from hp 5 (by decide)
    clear hp
    have HF := Lib.hid (And.intro f3 (And.intro h_5 hE))
    clear f3 h_5 hE
    rw [puts_range [some 101, some 102, some 103, some 104, some 105, some 106] (by kernel_rfl)]
    simp only [putL, Nat.reduceAdd, List.drop_succ_cons, List.drop_zero, e0, e1, e2, e4, e5]
    clear e0 e1 e2 e4 e5
    go_simp
    go_wp2_with (at_builtin; refine wpList_append_sl u rfl (.tmp 104) (.tmp 106) 30 rfl U.heap.size 103 34 48 cO Tryd.underlying30 row103 (by decide) cO_length cO_one (vs 3) s.outs rfl HF.out.1 (some ⟨g_5, 0, none⟩) 1 1 [o] rfl rfl HF.out.2.1 (by have := HSL.out.1; have := HSL.out.2.2; omega) (by have := HSL.out.1; have := HSL.out.2.2; omega) HF.out.2.2.size ?_)
    intro v2 w2 ho hg
    have hb2 := Own.grew HF.out.1 hg HF.out.2.2 (Nat.le_refl _) HF.out.2.2.size
    obtain ⟨A2, n2, c2, rfl⟩ : ∃ A2 n2 c2, v2 = .slice A2 n2 c2 := by obtain ⟨A2, c2, e, _⟩ := ho.sl; exact ⟨A2, _, c2, e⟩
    have R1 := HQ.out.1.keep hb2
    have q1 := cell_below c37 hb2
    have q2 := R1.fz 37
    have R3 := R1.set 37 (.slice A2 n2 c2)
    rw [cR_seto] at R3
    have hoo : ∀ k, k ≠ w.heap.size → (w2.setCell ⟨w.heap.size, 37, none⟩ (.slice A2 n2 c2)).heap[k]? = w2.heap[k]? := fun k hk => heap_set_other w2 w.heap.size 37 _ k hk
    obtain ⟨⟨i1, i2⟩, ⟨i3, i4⟩, i5, ⟨i6, i7⟩, z1, z2, z3⟩ := idle_facts R3 _ _ _ rfl rfl rfl
    have R4 := ((HQ.out.2.1.keep hb2).same (hoo (w.heap.size + 1 + 1) (by omega))).same (z2 (w.heap.size + 1 + 1) (by omega))
    have j1 := R4.rok (cR_length zR)
    have hbz := ((HQ.out.2.2.2.trans (hb2.mono HQ.out.2.2.2.size)).trans (Below.setCell' (Below.refl _ w2) (Nat.le_refl w.heap.size) 37 (.slice A2 n2 c2))).trans (z3 w.heap.size (Nat.le_refl _))
    have HZ := Lib.hid (And.intro R4 (And.intro hbz (And.intro ho (And.intro hoo z2))))
    clear R1 R3 R4 z1 z2 z3 hbz ho hg hoo hb2
    go_wp2
    generalize hU : stD (((w2.setCell ⟨w.heap.size, 37, none⟩ (.slice A2 n2 c2)).setCell ⟨w.heap.size, 1, none⟩ (.int .i64 0)).setCell ⟨w.heap.size, 2, none⟩ (.int .i64 0)) w.heap.size 3 (cA zA) = V at *
    have hf := Below.setRow' HZ.out.2.1 (show w.heap.size ≤ w.heap.size + 1 + 1 by omega) (aR { r with o := (A2, n2, c2), st := 0, at_ := 0, cur := zA })
    have hX := HX.out.1.keep hf
    have ho2 := HZ.out.2.2.1
    have hl2 := HQ.out.2.1.lt
    have ho3 := Own.same (w' := V.setRow (w.heap.size + 1 + 1) (aR { r with o := (A2, n2, c2), st := 0, at_ := 0, cur := zA })) ho2 fun j e => (heap_setRow_other V _ j _ (by have := (ho2.lt j e).1; omega)).trans ((HZ.out.2.2.2.2 j (by have := (ho2.lt j e).1; omega)).trans (HZ.out.2.2.2.1 j (by have := (ho2.lt j e).1; omega)))
    exact bodyPost_ret (v := .tuple #[vR { r with o := (A2, n2, c2), st := 0, at_ := 0, cur := zA }, .int .i64 0]) (results_c2 (ad := ⟨w.heap.size + 1 + 1, 0, none⟩) rfl rfl (load_R HZ.out.1.setRow) rfl) rfl ⟨_, rfl, ⟨hX.ch, rfl, rfl, rfl, hX.ws, by rw [Hoo.out]; exact SlF.own ho3 (fun j hj => Nat.lt_of_lt_of_le (HX.out.2 j hj) HQ.out.2.2.2.size)⟩, hf⟩

set_option maxRecDepth 100000 in
set_option maxHeartbeats 3200000 in
theorem rhear_end4 (F : List Nat) (ch : Int) (s : St) (r : Rs) (c : Rc) (w : World) (st : Int) (x : Id) (t : ByteArray) (cd : Int) (h : RefAt F ch s r w) (hF : ∀ k ∈ F, k < w.heap.size) (hm : s.outs.length ≤ 100000) (hrst : r.st = st) (hcur : r.cur = (x, t)) (hv : c.verb = 4) (hid : c.id = x) (hcd : c.code = cd) (hst : st = 1) : Calls Tryd.prog 45 #[vR r, vK c] w (RefP F ch ⟨s.wait, 0, zA, s.outs ++ [(x, 1, 0)], none⟩ 0 w) := by
  obtain ⟨A, n, cc, hos⟩ : ∃ A n cc, r.o = (A, n, cc) := ⟨_, _, _, rfl⟩
  obtain ⟨hl, _, hsl, _⟩ := h.os
  rw [hos] at hl hsl
  dsimp only at hl hsl
  have HX := Lib.hid (And.intro h hF)
  have hne : decide (x = x) = true := by simp
  subst hst
  have HW3 : Below w.heap.size w (((w.alloc (.cells (aR r) 32)).alloc (.cells (aK c) 55)).alloc (.cells (aR zR) 32)) := Below.step (Below.step (below_alloc w _) (below_alloc _ _)) (below_alloc _ _)
  have R1 : Row (((w.alloc (.cells (aR r) 32)).alloc (.cells (aK c) 55)).alloc (.cells (aR zR) 32)) w.heap.size (cR r) 32 := ((Row.new w (cR r) 32).keep (below_alloc _ _)).keep (below_alloc _ _)
  have R2 : Row (((w.alloc (.cells (aR r) 32)).alloc (.cells (aK c) 55)).alloc (.cells (aR zR) 32)) (w.heap.size + 1) (cK c) 55 := by
    have h := (Row.new (w.alloc (.cells (aR r) 32)) (cK c) 55).keep (below_alloc _ (.cells (aR zR) 32))
    rwa [show (w.alloc (.cells (aR r) 32)).heap.size = w.heap.size + 1 by simp] at h
  have R3 : Row (((w.alloc (.cells (aR r) 32)).alloc (.cells (aK c) 55)).alloc (.cells (aR zR) 32)) (w.heap.size + 1 + 1) (cR zR) 32 := by
    have h := Row.new ((w.alloc (.cells (aR r) 32)).alloc (.cells (aK c) 55)) (cR zR) 32
    rwa [show ((w.alloc (.cells (aR r) 32)).alloc (.cells (aK c) 55)).heap.size = w.heap.size + 1 + 1 by simp] at h
  obtain ⟨W3, hW⟩ : ∃ W3, ((w.alloc (.cells (aR r) 32)).alloc (.cells (aK c) 55)).alloc (.cells (aR zR) 32) = W3 := ⟨_, rfl⟩
  rw [hW] at HW3 R1 R2 R3
  obtain ⟨_, c1, _, ⟨c3, c3'⟩, _, c35, _, c37, ⟨c38, c38'⟩, hlt⟩ := row_R R1
  obtain ⟨k0, _, k2, k3, ⟨k4, k4'⟩, _, _, hlt2⟩ := row_K R2
  rw [hrst] at c1
  rw [hcur] at c3' c35
  rw [hv] at k0
  rw [hid] at k4'
  dsimp only at c3' c35
  rw [hos] at c37
  rw [hcd] at k3
  dsimp only at c37
  have HSL := Lib.hid (And.intro hl (And.intro hsl hm))
  obtain ⟨W4, hW4⟩ : ∃ W4, W3.alloc (.cells (aO (x, 0, 0)) 103) = W4 := ⟨_, rfl⟩
  have R6 := Row.new W3 (cO (x, 0, 0)) 103
  have hb4 := below_alloc W3 (.cells (aO (x, 0, 0)) 103)
  change Row (W3.alloc (.cells (aO (x, 0, 0)) 103)) _ _ _ at R6
  rw [hW4] at R6 hb4
  have o0 := cell_below k0 hb4
  have o3 := cell_below k3 hb4
  have HW4 := HW3.trans (hb4.mono HW3.size)
  have Q1 := R1.keep hb4
  have Q3 := R3.keep hb4
  have t32 := (R6.cell 32).trans (cO_hi (x, 0, 0) 0)
  have tf32 := R6.fz 32
  have T0 := R6.set 32 (.int .i64 1)
  rw [cO_set32] at T0
  have p0 : ∀ k, k ≠ W3.heap.size → (W4.setCell ⟨W3.heap.size, 32, none⟩ (.int .i64 1)).heap[k]? = W4.heap[k]? := fun k hk => heap_set_other W4 W3.heap.size 32 _ k hk
  have S6 := T0
  have S1 := Q1.same ((fun k hk => p0 k hk) w.heap.size (by have := R1.lt; omega))
  have S3 := Q3.same ((fun k hk => p0 k hk) (w.heap.size + 1 + 1) (by have := R3.lt; omega))
  have hbU := HW4.trans (Below.setCell' (Below.refl _ W4) (show w.heap.size ≤ W3.heap.size from HW3.size) 32 (.int .i64 1))
  clear T0 p0
  have c37' := (S1.cell 37).trans (cR_hi r 2)
  rw [hos] at c37'
  dsimp only at c37'
  have c6 := S6.okw (cO_length _)
  have HQ := Lib.hid (And.intro S1 (And.intro S3 (And.intro S6 hbU)))
  have HJ := Lib.hid (And.intro c37' c6)
  clear h hF hm hrst hcur hv hid hcd hos hl hsl R1 R2 R3 HW3 R6 hb4 HW4 Q1 Q3 S1 S3 S6 hbU c37' c6
  go_enter Tryd.func45, Tryd.ntmps45
  go_wp2
  generalize (W4.setCell ⟨W3.heap.size, 32, none⟩ (.int .i64 1)) = U at HQ HJ ⊢
  clear c1 c3 c3' c35 c37 c38 c38' k0 k2 k3 k4 k4' o0 o3 hW hW4
  obtain ⟨c37, c6, c6'⟩ := HJ.out
  change rdA U _ 34 = vO (x, 1, 0) at c6'
  obtain ⟨g6, hg6⟩ : ∃ g6, g6 = W3.heap.size := ⟨_, rfl⟩
  rw [← hg6] at HQ c6 c6' ⊢
  have hlt6 : g6 < U.heap.size := HQ.out.2.2.1.lt
  obtain ⟨o, ho⟩ : ∃ o : Out, (x, (1 : Int), (0 : Int)) = o := ⟨_, rfl⟩
  rw [ho] at c6' ⊢
  have Hoo := Lib.hid ho
  clear HJ hg6 ho
  refine AnyO.wp_any_tail 6 (by kernel_rfl) (by kernel_rfl) (by kernel_rfl) (by kernel_rfl) (by kernel_rfl) (by kernel_rfl) (pstP [isOwn0G (α := Out) U.heap.size 103 34 cO, isV (.pointer (some ⟨w.heap.size, 37, none⟩)), isV (.slice A n cc), isOwnG U.heap.size 103 34 cO s.outs, isV (vO o), isOne cO o]) (MonoL.cons (Mono.own0G _ _ _ _) (MonoL.cons (Mono.v _) (MonoL.cons (Mono.v _) (MonoL.cons (Mono.ownG _ _ _ _ _) (MonoL.cons (Mono.v _) (MonoL.cons (Mono.one _ _) MonoL.nil)))))) ?_ ?_
  · intro i hi
    have hi2 : i = 0 ∨ i = 1 ∨ i = 2 ∨ i = 3 ∨ i = 4 ∨ i = 5 := by omega
    clear hi
    rcases hi2 with rfl | rfl | rfl | rfl | rfl | rfl
    · -- 0: Op.buildSlice 30 0 #[]
      refine AnyO.Step.mk rfl [] (by kernel_rfl) ?_
      intro vs u hE hp ac hb K hK
      rw [if_pos (AnyO.wanted_none rfl)]
      clear hb hp
      go_simp
      exact hK _ _ (below_alloc _ _) ⟨_, rfl, Own.new0 u U.heap.size 103 34 cO cO_length hE.size⟩
    · -- 1: Op.fieldAddr 32 (Operand.tmp 2) 5
      refine AnyO.Step.mk rfl [] (by kernel_rfl) ?_
      intro vs u hE hp ac hb K hK
      have s2 : ac.tmps[2]?.getD undef = .pointer (some ⟨w.heap.size, 0, none⟩) := by rw [hb]; kernel_rfl
      rw [if_pos (AnyO.wanted_none rfl)]
      clear hb hp
      go_simp
      exact hK _ _ (Below.refl _ _) rfl
    · -- 2: Op.load 30 (Operand.tmp 102)
      refine AnyO.Step.mk rfl [1] (by kernel_rfl) ?_
      intro vs u hE hp ac hb K hK
      have s102 : ac.tmps[102]?.getD undef = .pointer (some ⟨w.heap.size, 37, none⟩) := by rw [hb]; exact (show _ = vs 1 by kernel_rfl).trans (hp 1 (by decide))
      rw [if_pos (AnyO.wanted_none rfl)]
      clear hb hp
      have rr := cell_below c37 (Below.step (below_drew _) hE)
      go_simp
      exact hK _ _ (Below.refl _ _) rfl
    · -- 3: Op.call { callee := Callee.builtin Builtin.append, args := #
      refine AnyO.Step.mk rfl [0, 2] (by kernel_rfl) ?_
      intro vs u hE hp ac hb K hK
      obtain ⟨g101, e101, h101⟩ := hp 0 (by decide)
      have s101 : ac.tmps[101]?.getD undef = .slice (some ⟨g101, 0, none⟩) 0 0 := by rw [hb]; exact (show _ = vs 0 by kernel_rfl).trans e101
      clear e101
      have s103 : ac.tmps[103]?.getD undef = .slice A n cc := by rw [hb]; exact (show _ = vs 2 by kernel_rfl).trans (hp 2 (by decide))
      rw [if_pos (AnyO.wanted_none rfl)]
      clear hb hp
      refine wp_append_fresh u (.tmp 101) (.tmp 103) 30 rfl U.heap.size 103 34 48 cO Tryd.underlying30 row103 (by decide) cO_length g101 (ev_tmp s101) h101 A n cc s.outs HSL.out.1 (ev_tmp s103) ((HSL.out.2.1.keep HQ.out.2.2.2).keep (Below.step (below_drew _) hE)) (by have := HSL.out.1; have := HSL.out.2.2; omega) (by have := HSL.out.1; have := HSL.out.2.2; omega) hE.size ?_
      exact fun v w2 h1 h2 => hK _ _ h2 h1
    · -- 4: Op.load 103 (Operand.tmp 6)
      refine AnyO.Step.mk rfl [] (by kernel_rfl) ?_
      intro vs u hE hp ac hb K hK
      have s6 : ac.tmps[6]?.getD undef = .pointer (some ⟨g6, 0, none⟩) := by rw [hb]; kernel_rfl
      rw [if_pos (AnyO.wanted_none rfl)]
      clear hb hp
      have rr := okA_below c6 hlt6 (Below.step (below_drew _) hE)
      rw [c6'] at rr
      obtain ⟨rr1, rr2⟩ := rr
      go_simp
      exact hK _ _ (Below.refl _ _) rfl
    · -- 5: Op.buildSlice 30 1 #[(0, Operand.tmp 105)]
      refine AnyO.Step.mk rfl [4] (by kernel_rfl) ?_
      intro vs u hE hp ac hb K hK
      have s105 : ac.tmps[105]?.getD undef = vO o := by rw [hb]; exact (show _ = vs 4 by kernel_rfl).trans (hp 4 (by decide))
      rw [if_pos (AnyO.wanted_none rfl)]
      clear hb hp
      go_simp
      exact hK _ _ (below_alloc _ _) (isOne.O u _ _)
  · intro vs u hE hp
    obtain ⟨g_0, e0, h_0⟩ := show isOwn0G (α := Out) U.heap.size 103 34 cO (vs 0) u from hp 0 (by decide)
    have e1 : vs 1 = .pointer (some ⟨w.heap.size, 37, none⟩) := hp 1 (by decide)
    have e2 : vs 2 = .slice A n cc := hp 2 (by decide)
    have f3 : isOwnG U.heap.size 103 34 cO s.outs (vs 3) u := hp 3 (by decide)
    have e4 : vs 4 = vO o := hp 4 (by decide)
    obtain ⟨g_5, e5, h_5⟩ := show isOne cO o (vs 5) u from hp 5 (by decide)
    clear hp
    have HF := Lib.hid (And.intro f3 (And.intro h_5 hE))
    clear f3 h_5 hE
    rw [puts_range [some 101, some 102, some 103, some 104, some 105, some 106] (by kernel_rfl)]
    simp only [putL, Nat.reduceAdd, List.drop_succ_cons, List.drop_zero, e0, e1, e2, e4, e5]
    clear e0 e1 e2 e4 e5
    go_simp
    go_wp2_with (at_builtin; refine wpList_append_sl u rfl (.tmp 104) (.tmp 106) 30 rfl U.heap.size 103 34 48 cO Tryd.underlying30 row103 (by decide) cO_length cO_one (vs 3) s.outs rfl HF.out.1 (some ⟨g_5, 0, none⟩) 1 1 [o] rfl rfl HF.out.2.1 (by have := HSL.out.1; have := HSL.out.2.2; omega) (by have := HSL.out.1; have := HSL.out.2.2; omega) HF.out.2.2.size ?_)
    intro v2 w2 ho hg
    have hb2 := Own.grew HF.out.1 hg HF.out.2.2 (Nat.le_refl _) HF.out.2.2.size
    obtain ⟨A2, n2, c2, rfl⟩ : ∃ A2 n2 c2, v2 = .slice A2 n2 c2 := by obtain ⟨A2, c2, e, _⟩ := ho.sl; exact ⟨A2, _, c2, e⟩
    have R1 := HQ.out.1.keep hb2
    have q1 := cell_below c37 hb2
    have q2 := R1.fz 37
    have R3 := R1.set 37 (.slice A2 n2 c2)
    rw [cR_seto] at R3
    have hoo : ∀ k, k ≠ w.heap.size → (w2.setCell ⟨w.heap.size, 37, none⟩ (.slice A2 n2 c2)).heap[k]? = w2.heap[k]? := fun k hk => heap_set_other w2 w.heap.size 37 _ k hk
    obtain ⟨⟨i1, i2⟩, ⟨i3, i4⟩, i5, ⟨i6, i7⟩, z1, z2, z3⟩ := idle_facts R3 _ _ _ rfl rfl rfl
    have R4 := ((HQ.out.2.1.keep hb2).same (hoo (w.heap.size + 1 + 1) (by omega))).same (z2 (w.heap.size + 1 + 1) (by omega))
    have j1 := R4.rok (cR_length zR)
    have hbz := ((HQ.out.2.2.2.trans (hb2.mono HQ.out.2.2.2.size)).trans (Below.setCell' (Below.refl _ w2) (Nat.le_refl w.heap.size) 37 (.slice A2 n2 c2))).trans (z3 w.heap.size (Nat.le_refl _))
    have HZ := Lib.hid (And.intro R4 (And.intro hbz (And.intro ho (And.intro hoo z2))))
    clear R1 R3 R4 z1 z2 z3 hbz ho hg hoo hb2
    go_wp2
    generalize hU : stD (((w2.setCell ⟨w.heap.size, 37, none⟩ (.slice A2 n2 c2)).setCell ⟨w.heap.size, 1, none⟩ (.int .i64 0)).setCell ⟨w.heap.size, 2, none⟩ (.int .i64 0)) w.heap.size 3 (cA zA) = V at *
    have hf := Below.setRow' HZ.out.2.1 (show w.heap.size ≤ w.heap.size + 1 + 1 by omega) (aR { r with o := (A2, n2, c2), st := 0, at_ := 0, cur := zA })
    have hX := HX.out.1.keep hf
    have ho2 := HZ.out.2.2.1
    have hl2 := HQ.out.2.1.lt
    have ho3 := Own.same (w' := V.setRow (w.heap.size + 1 + 1) (aR { r with o := (A2, n2, c2), st := 0, at_ := 0, cur := zA })) ho2 fun j e => (heap_setRow_other V _ j _ (by have := (ho2.lt j e).1; omega)).trans ((HZ.out.2.2.2.2 j (by have := (ho2.lt j e).1; omega)).trans (HZ.out.2.2.2.1 j (by have := (ho2.lt j e).1; omega)))
    exact bodyPost_ret (v := .tuple #[vR { r with o := (A2, n2, c2), st := 0, at_ := 0, cur := zA }, .int .i64 0]) (results_c2 (ad := ⟨w.heap.size + 1 + 1, 0, none⟩) rfl rfl (load_R HZ.out.1.setRow) rfl) rfl ⟨_, rfl, ⟨hX.ch, rfl, rfl, rfl, hX.ws, by rw [Hoo.out]; exact SlF.own ho3 (fun j hj => Nat.lt_of_lt_of_le (HX.out.2 j hj) HQ.out.2.2.2.size)⟩, hf⟩

set_option maxRecDepth 100000 in
set_option maxHeartbeats 3200000 in
theorem rhear_end5 (F : List Nat) (ch : Int) (s : St) (r : Rs) (c : Rc) (w : World) (st : Int) (x : Id) (t : ByteArray) (cd : Int) (h : RefAt F ch s r w) (hF : ∀ k ∈ F, k < w.heap.size) (hm : s.outs.length ≤ 100000) (hrst : r.st = st) (hcur : r.cur = (x, t)) (hv : c.verb = 5) (hid : c.id = x) (hcd : c.code = cd) (hst : (st == 0) = false) : Calls Tryd.prog 45 #[vR r, vK c] w (RefP F ch ⟨s.wait, 0, zA, s.outs ++ [(x, 3, 0)], none⟩ 0 w) := by
  obtain ⟨A, n, cc, hos⟩ : ∃ A n cc, r.o = (A, n, cc) := ⟨_, _, _, rfl⟩
  obtain ⟨hl, _, hsl, _⟩ := h.os
  rw [hos] at hl hsl
  dsimp only at hl hsl
  have HX := Lib.hid (And.intro h hF)
  have hne : decide (x = x) = true := by simp
  have HW3 : Below w.heap.size w (((w.alloc (.cells (aR r) 32)).alloc (.cells (aK c) 55)).alloc (.cells (aR zR) 32)) := Below.step (Below.step (below_alloc w _) (below_alloc _ _)) (below_alloc _ _)
  have R1 : Row (((w.alloc (.cells (aR r) 32)).alloc (.cells (aK c) 55)).alloc (.cells (aR zR) 32)) w.heap.size (cR r) 32 := ((Row.new w (cR r) 32).keep (below_alloc _ _)).keep (below_alloc _ _)
  have R2 : Row (((w.alloc (.cells (aR r) 32)).alloc (.cells (aK c) 55)).alloc (.cells (aR zR) 32)) (w.heap.size + 1) (cK c) 55 := by
    have h := (Row.new (w.alloc (.cells (aR r) 32)) (cK c) 55).keep (below_alloc _ (.cells (aR zR) 32))
    rwa [show (w.alloc (.cells (aR r) 32)).heap.size = w.heap.size + 1 by simp] at h
  have R3 : Row (((w.alloc (.cells (aR r) 32)).alloc (.cells (aK c) 55)).alloc (.cells (aR zR) 32)) (w.heap.size + 1 + 1) (cR zR) 32 := by
    have h := Row.new ((w.alloc (.cells (aR r) 32)).alloc (.cells (aK c) 55)) (cR zR) 32
    rwa [show ((w.alloc (.cells (aR r) 32)).alloc (.cells (aK c) 55)).heap.size = w.heap.size + 1 + 1 by simp] at h
  obtain ⟨W3, hW⟩ : ∃ W3, ((w.alloc (.cells (aR r) 32)).alloc (.cells (aK c) 55)).alloc (.cells (aR zR) 32) = W3 := ⟨_, rfl⟩
  rw [hW] at HW3 R1 R2 R3
  obtain ⟨_, c1, _, ⟨c3, c3'⟩, _, c35, _, c37, ⟨c38, c38'⟩, hlt⟩ := row_R R1
  obtain ⟨k0, _, k2, k3, ⟨k4, k4'⟩, _, _, hlt2⟩ := row_K R2
  rw [hrst] at c1
  rw [hcur] at c3' c35
  rw [hv] at k0
  rw [hid] at k4'
  dsimp only at c3' c35
  rw [hos] at c37
  rw [hcd] at k3
  dsimp only at c37
  have HSL := Lib.hid (And.intro hl (And.intro hsl hm))
  obtain ⟨W4, hW4⟩ : ∃ W4, W3.alloc (.cells (aO (x, 0, 0)) 103) = W4 := ⟨_, rfl⟩
  have R6 := Row.new W3 (cO (x, 0, 0)) 103
  have hb4 := below_alloc W3 (.cells (aO (x, 0, 0)) 103)
  change Row (W3.alloc (.cells (aO (x, 0, 0)) 103)) _ _ _ at R6
  rw [hW4] at R6 hb4
  have o0 := cell_below k0 hb4
  have o3 := cell_below k3 hb4
  have HW4 := HW3.trans (hb4.mono HW3.size)
  have Q1 := R1.keep hb4
  have Q3 := R3.keep hb4
  have t32 := (R6.cell 32).trans (cO_hi (x, 0, 0) 0)
  have tf32 := R6.fz 32
  have T0 := R6.set 32 (.int .i64 3)
  rw [cO_set32] at T0
  have p0 : ∀ k, k ≠ W3.heap.size → (W4.setCell ⟨W3.heap.size, 32, none⟩ (.int .i64 3)).heap[k]? = W4.heap[k]? := fun k hk => heap_set_other W4 W3.heap.size 32 _ k hk
  have S6 := T0
  have S1 := Q1.same ((fun k hk => p0 k hk) w.heap.size (by have := R1.lt; omega))
  have S3 := Q3.same ((fun k hk => p0 k hk) (w.heap.size + 1 + 1) (by have := R3.lt; omega))
  have hbU := HW4.trans (Below.setCell' (Below.refl _ W4) (show w.heap.size ≤ W3.heap.size from HW3.size) 32 (.int .i64 3))
  clear T0 p0
  have c37' := (S1.cell 37).trans (cR_hi r 2)
  rw [hos] at c37'
  dsimp only at c37'
  have c6 := S6.okw (cO_length _)
  have HQ := Lib.hid (And.intro S1 (And.intro S3 (And.intro S6 hbU)))
  have HJ := Lib.hid (And.intro c37' c6)
  clear h hF hm hrst hcur hv hid hcd hos hl hsl R1 R2 R3 HW3 R6 hb4 HW4 Q1 Q3 S1 S3 S6 hbU c37' c6
  go_enter Tryd.func45, Tryd.ntmps45
  go_wp2
  generalize (W4.setCell ⟨W3.heap.size, 32, none⟩ (.int .i64 3)) = U at HQ HJ ⊢
  clear c1 c3 c3' c35 c37 c38 c38' k0 k2 k3 k4 k4' o0 o3 hW hW4
  obtain ⟨c37, c6, c6'⟩ := HJ.out
  change rdA U _ 34 = vO (x, 3, 0) at c6'
  obtain ⟨g6, hg6⟩ : ∃ g6, g6 = W3.heap.size := ⟨_, rfl⟩
  rw [← hg6] at HQ c6 c6' ⊢
  have hlt6 : g6 < U.heap.size := HQ.out.2.2.1.lt
  obtain ⟨o, ho⟩ : ∃ o : Out, (x, (3 : Int), (0 : Int)) = o := ⟨_, rfl⟩
  rw [ho] at c6' ⊢
  have Hoo := Lib.hid ho
  clear HJ hg6 ho
  refine AnyO.wp_any_tail 6 (by kernel_rfl) (by kernel_rfl) (by kernel_rfl) (by kernel_rfl) (by kernel_rfl) (by kernel_rfl) (pstP [isOwn0G (α := Out) U.heap.size 103 34 cO, isV (.pointer (some ⟨w.heap.size, 37, none⟩)), isV (.slice A n cc), isOwnG U.heap.size 103 34 cO s.outs, isV (vO o), isOne cO o]) (MonoL.cons (Mono.own0G _ _ _ _) (MonoL.cons (Mono.v _) (MonoL.cons (Mono.v _) (MonoL.cons (Mono.ownG _ _ _ _ _) (MonoL.cons (Mono.v _) (MonoL.cons (Mono.one _ _) MonoL.nil)))))) ?_ ?_
  · intro i hi
    have hi2 : i = 0 ∨ i = 1 ∨ i = 2 ∨ i = 3 ∨ i = 4 ∨ i = 5 := by omega
    clear hi
    rcases hi2 with rfl | rfl | rfl | rfl | rfl | rfl
    · -- 0: Op.buildSlice 30 0 #[]
      refine AnyO.Step.mk rfl [] (by kernel_rfl) ?_
      intro vs u hE hp ac hb K hK
      rw [if_pos (AnyO.wanted_none rfl)]
      clear hb hp
      go_simp
      exact hK _ _ (below_alloc _ _) ⟨_, rfl, Own.new0 u U.heap.size 103 34 cO cO_length hE.size⟩
    · -- 1: Op.fieldAddr 32 (Operand.tmp 2) 5
      refine AnyO.Step.mk rfl [] (by kernel_rfl) ?_
      intro vs u hE hp ac hb K hK
      have s2 : ac.tmps[2]?.getD undef = .pointer (some ⟨w.heap.size, 0, none⟩) := by rw [hb]; kernel_rfl
      rw [if_pos (AnyO.wanted_none rfl)]
      clear hb hp
      go_simp
      exact hK _ _ (Below.refl _ _) rfl
    · -- 2: Op.load 30 (Operand.tmp 102)
      refine AnyO.Step.mk rfl [1] (by kernel_rfl) ?_
      intro vs u hE hp ac hb K hK
      have s102 : ac.tmps[102]?.getD undef = .pointer (some ⟨w.heap.size, 37, none⟩) := by rw [hb]; exact (show _ = vs 1 by kernel_rfl).trans (hp 1 (by decide))
      rw [if_pos (AnyO.wanted_none rfl)]
      clear hb hp
      have rr := cell_below c37 (Below.step (below_drew _) hE)
      go_simp
      exact hK _ _ (Below.refl _ _) rfl
    · -- 3: Op.call { callee := Callee.builtin Builtin.append, args := #
      refine AnyO.Step.mk rfl [0, 2] (by kernel_rfl) ?_
      intro vs u hE hp ac hb K hK
      obtain ⟨g101, e101, h101⟩ := hp 0 (by decide)
      have s101 : ac.tmps[101]?.getD undef = .slice (some ⟨g101, 0, none⟩) 0 0 := by rw [hb]; exact (show _ = vs 0 by kernel_rfl).trans e101
      clear e101
      have s103 : ac.tmps[103]?.getD undef = .slice A n cc := by rw [hb]; exact (show _ = vs 2 by kernel_rfl).trans (hp 2 (by decide))
      rw [if_pos (AnyO.wanted_none rfl)]
      clear hb hp
      refine wp_append_fresh u (.tmp 101) (.tmp 103) 30 rfl U.heap.size 103 34 48 cO Tryd.underlying30 row103 (by decide) cO_length g101 (ev_tmp s101) h101 A n cc s.outs HSL.out.1 (ev_tmp s103) ((HSL.out.2.1.keep HQ.out.2.2.2).keep (Below.step (below_drew _) hE)) (by have := HSL.out.1; have := HSL.out.2.2; omega) (by have := HSL.out.1; have := HSL.out.2.2; omega) hE.size ?_
      exact fun v w2 h1 h2 => hK _ _ h2 h1
    · -- 4: Op.load 103 (Operand.tmp 6)
      refine AnyO.Step.mk rfl [] (by kernel_rfl) ?_
      intro vs u hE hp ac hb K hK
      have s6 : ac.tmps[6]?.getD undef = .pointer (some ⟨g6, 0, none⟩) := by rw [hb]; kernel_rfl
      rw [if_pos (AnyO.wanted_none rfl)]
      clear hb hp
      have rr := okA_below c6 hlt6 (Below.step (below_drew _) hE)
      rw [c6'] at rr
      obtain ⟨rr1, rr2⟩ := rr
      go_simp
      exact hK _ _ (Below.refl _ _) rfl
    · -- 5: Op.buildSlice 30 1 #[(0, Operand.tmp 105)]
      refine AnyO.Step.mk rfl [4] (by kernel_rfl) ?_
      intro vs u hE hp ac hb K hK
      have s105 : ac.tmps[105]?.getD undef = vO o := by rw [hb]; exact (show _ = vs 4 by kernel_rfl).trans (hp 4 (by decide))
      rw [if_pos (AnyO.wanted_none rfl)]
      clear hb hp
      go_simp
      exact hK _ _ (below_alloc _ _) (isOne.O u _ _)
  · intro vs u hE hp
    obtain ⟨g_0, e0, h_0⟩ := show isOwn0G (α := Out) U.heap.size 103 34 cO (vs 0) u from hp 0 (by decide)
    have e1 : vs 1 = .pointer (some ⟨w.heap.size, 37, none⟩) := hp 1 (by decide)
    have e2 : vs 2 = .slice A n cc := hp 2 (by decide)
    have f3 : isOwnG U.heap.size 103 34 cO s.outs (vs 3) u := hp 3 (by decide)
    have e4 : vs 4 = vO o := hp 4 (by decide)
    obtain ⟨g_5, e5, h_5⟩ := show isOne cO o (vs 5) u from hp 5 (by decide)
    clear hp
    have HF := Lib.hid (And.intro f3 (And.intro h_5 hE))
    clear f3 h_5 hE
    rw [puts_range [some 101, some 102, some 103, some 104, some 105, some 106] (by kernel_rfl)]
    simp only [putL, Nat.reduceAdd, List.drop_succ_cons, List.drop_zero, e0, e1, e2, e4, e5]
    clear e0 e1 e2 e4 e5
    go_simp
    go_wp2_with (at_builtin; refine wpList_append_sl u rfl (.tmp 104) (.tmp 106) 30 rfl U.heap.size 103 34 48 cO Tryd.underlying30 row103 (by decide) cO_length cO_one (vs 3) s.outs rfl HF.out.1 (some ⟨g_5, 0, none⟩) 1 1 [o] rfl rfl HF.out.2.1 (by have := HSL.out.1; have := HSL.out.2.2; omega) (by have := HSL.out.1; have := HSL.out.2.2; omega) HF.out.2.2.size ?_)
    intro v2 w2 ho hg
    have hb2 := Own.grew HF.out.1 hg HF.out.2.2 (Nat.le_refl _) HF.out.2.2.size
    obtain ⟨A2, n2, c2, rfl⟩ : ∃ A2 n2 c2, v2 = .slice A2 n2 c2 := by obtain ⟨A2, c2, e, _⟩ := ho.sl; exact ⟨A2, _, c2, e⟩
    have R1 := HQ.out.1.keep hb2
    have q1 := cell_below c37 hb2
    have q2 := R1.fz 37
    have R3 := R1.set 37 (.slice A2 n2 c2)
    rw [cR_seto] at R3
    have hoo : ∀ k, k ≠ w.heap.size → (w2.setCell ⟨w.heap.size, 37, none⟩ (.slice A2 n2 c2)).heap[k]? = w2.heap[k]? := fun k hk => heap_set_other w2 w.heap.size 37 _ k hk
    obtain ⟨⟨i1, i2⟩, ⟨i3, i4⟩, i5, ⟨i6, i7⟩, z1, z2, z3⟩ := idle_facts R3 _ _ _ rfl rfl rfl
    have R4 := ((HQ.out.2.1.keep hb2).same (hoo (w.heap.size + 1 + 1) (by omega))).same (z2 (w.heap.size + 1 + 1) (by omega))
    have j1 := R4.rok (cR_length zR)
    have hbz := ((HQ.out.2.2.2.trans (hb2.mono HQ.out.2.2.2.size)).trans (Below.setCell' (Below.refl _ w2) (Nat.le_refl w.heap.size) 37 (.slice A2 n2 c2))).trans (z3 w.heap.size (Nat.le_refl _))
    have HZ := Lib.hid (And.intro R4 (And.intro hbz (And.intro ho (And.intro hoo z2))))
    clear R1 R3 R4 z1 z2 z3 hbz ho hg hoo hb2
    go_wp2
    generalize hU : stD (((w2.setCell ⟨w.heap.size, 37, none⟩ (.slice A2 n2 c2)).setCell ⟨w.heap.size, 1, none⟩ (.int .i64 0)).setCell ⟨w.heap.size, 2, none⟩ (.int .i64 0)) w.heap.size 3 (cA zA) = V at *
    have hf := Below.setRow' HZ.out.2.1 (show w.heap.size ≤ w.heap.size + 1 + 1 by omega) (aR { r with o := (A2, n2, c2), st := 0, at_ := 0, cur := zA })
    have hX := HX.out.1.keep hf
    have ho2 := HZ.out.2.2.1
    have hl2 := HQ.out.2.1.lt
    have ho3 := Own.same (w' := V.setRow (w.heap.size + 1 + 1) (aR { r with o := (A2, n2, c2), st := 0, at_ := 0, cur := zA })) ho2 fun j e => (heap_setRow_other V _ j _ (by have := (ho2.lt j e).1; omega)).trans ((HZ.out.2.2.2.2 j (by have := (ho2.lt j e).1; omega)).trans (HZ.out.2.2.2.1 j (by have := (ho2.lt j e).1; omega)))
    exact bodyPost_ret (v := .tuple #[vR { r with o := (A2, n2, c2), st := 0, at_ := 0, cur := zA }, .int .i64 0]) (results_c2 (ad := ⟨w.heap.size + 1 + 1, 0, none⟩) rfl rfl (load_R HZ.out.1.setRow) rfl) rfl ⟨_, rfl, ⟨hX.ch, rfl, rfl, rfl, hX.ws, by rw [Hoo.out]; exact SlF.own ho3 (fun j hj => Nat.lt_of_lt_of_le (HX.out.2 j hj) HQ.out.2.2.2.size)⟩, hf⟩

set_option maxRecDepth 100000 in
set_option maxHeartbeats 3200000 in
theorem rhear_end6 (F : List Nat) (ch : Int) (s : St) (r : Rs) (c : Rc) (w : World) (st : Int) (x : Id) (t : ByteArray) (cd : Int) (h : RefAt F ch s r w) (hF : ∀ k ∈ F, k < w.heap.size) (hm : s.outs.length ≤ 100000) (hrst : r.st = st) (hcur : r.cur = (x, t)) (hv : c.verb = 6) (hid : c.id = x) (hcd : c.code = cd) (hst : (st == 0) = false) : Calls Tryd.prog 45 #[vR r, vK c] w (RefP F ch ⟨s.wait, 0, zA, s.outs ++ [(x, 2, cd)], none⟩ 0 w) := by
  obtain ⟨A, n, cc, hos⟩ : ∃ A n cc, r.o = (A, n, cc) := ⟨_, _, _, rfl⟩
  obtain ⟨hl, _, hsl, _⟩ := h.os
  rw [hos] at hl hsl
  dsimp only at hl hsl
  have HX := Lib.hid (And.intro h hF)
  have hne : decide (x = x) = true := by simp
  have HW3 : Below w.heap.size w (((w.alloc (.cells (aR r) 32)).alloc (.cells (aK c) 55)).alloc (.cells (aR zR) 32)) := Below.step (Below.step (below_alloc w _) (below_alloc _ _)) (below_alloc _ _)
  have R1 : Row (((w.alloc (.cells (aR r) 32)).alloc (.cells (aK c) 55)).alloc (.cells (aR zR) 32)) w.heap.size (cR r) 32 := ((Row.new w (cR r) 32).keep (below_alloc _ _)).keep (below_alloc _ _)
  have R2 : Row (((w.alloc (.cells (aR r) 32)).alloc (.cells (aK c) 55)).alloc (.cells (aR zR) 32)) (w.heap.size + 1) (cK c) 55 := by
    have h := (Row.new (w.alloc (.cells (aR r) 32)) (cK c) 55).keep (below_alloc _ (.cells (aR zR) 32))
    rwa [show (w.alloc (.cells (aR r) 32)).heap.size = w.heap.size + 1 by simp] at h
  have R3 : Row (((w.alloc (.cells (aR r) 32)).alloc (.cells (aK c) 55)).alloc (.cells (aR zR) 32)) (w.heap.size + 1 + 1) (cR zR) 32 := by
    have h := Row.new ((w.alloc (.cells (aR r) 32)).alloc (.cells (aK c) 55)) (cR zR) 32
    rwa [show ((w.alloc (.cells (aR r) 32)).alloc (.cells (aK c) 55)).heap.size = w.heap.size + 1 + 1 by simp] at h
  obtain ⟨W3, hW⟩ : ∃ W3, ((w.alloc (.cells (aR r) 32)).alloc (.cells (aK c) 55)).alloc (.cells (aR zR) 32) = W3 := ⟨_, rfl⟩
  rw [hW] at HW3 R1 R2 R3
  obtain ⟨_, c1, _, ⟨c3, c3'⟩, _, c35, _, c37, ⟨c38, c38'⟩, hlt⟩ := row_R R1
  obtain ⟨k0, _, k2, k3, ⟨k4, k4'⟩, _, _, hlt2⟩ := row_K R2
  rw [hrst] at c1
  rw [hcur] at c3' c35
  rw [hv] at k0
  rw [hid] at k4'
  dsimp only at c3' c35
  rw [hos] at c37
  rw [hcd] at k3
  dsimp only at c37
  have HSL := Lib.hid (And.intro hl (And.intro hsl hm))
  obtain ⟨W4, hW4⟩ : ∃ W4, W3.alloc (.cells (aO (x, 0, 0)) 103) = W4 := ⟨_, rfl⟩
  have R6 := Row.new W3 (cO (x, 0, 0)) 103
  have hb4 := below_alloc W3 (.cells (aO (x, 0, 0)) 103)
  change Row (W3.alloc (.cells (aO (x, 0, 0)) 103)) _ _ _ at R6
  rw [hW4] at R6 hb4
  have o0 := cell_below k0 hb4
  have o3 := cell_below k3 hb4
  have HW4 := HW3.trans (hb4.mono HW3.size)
  have Q1 := R1.keep hb4
  have Q3 := R3.keep hb4
  have t32 := (R6.cell 32).trans (cO_hi (x, 0, 0) 0)
  have tf32 := R6.fz 32
  have T0 := R6.set 32 (.int .i64 2)
  rw [cO_set32] at T0
  have p0 : ∀ k, k ≠ W3.heap.size → (W4.setCell ⟨W3.heap.size, 32, none⟩ (.int .i64 2)).heap[k]? = W4.heap[k]? := fun k hk => heap_set_other W4 W3.heap.size 32 _ k hk
  have R2x := (R2.keep hb4).same (p0 (w.heap.size + 1) (by have := R2.lt; omega))
  have o3x := (R2x.cell 3).trans (show (cK c)[3]? = some (.int .i64 c.code) from rfl)
  rw [hcd] at o3x
  clear R2x
  have t33 := (T0.cell 33).trans (cO_hi (x, 2, 0) 1)
  have tf33 := T0.fz 33
  have T1 := T0.set 33 (.int .i64 cd)
  rw [cO_set33] at T1
  have p1 : ∀ k, k ≠ W3.heap.size → ((W4.setCell ⟨W3.heap.size, 32, none⟩ (.int .i64 2)).setCell ⟨W3.heap.size, 33, none⟩ (.int .i64 cd)).heap[k]? = (W4.setCell ⟨W3.heap.size, 32, none⟩ (.int .i64 2)).heap[k]? := fun k hk => heap_set_other (W4.setCell ⟨W3.heap.size, 32, none⟩ (.int .i64 2)) W3.heap.size 33 _ k hk
  have S6 := T1
  have S1 := Q1.same ((fun k hk => (p1 k hk).trans (p0 k hk)) w.heap.size (by have := R1.lt; omega))
  have S3 := Q3.same ((fun k hk => (p1 k hk).trans (p0 k hk)) (w.heap.size + 1 + 1) (by have := R3.lt; omega))
  have hbU := HW4.trans (Below.setCell' (Below.setCell' (Below.refl _ W4) (show w.heap.size ≤ W3.heap.size from HW3.size) 32 (.int .i64 2)) (show w.heap.size ≤ W3.heap.size from HW3.size) 33 (.int .i64 cd))
  clear T0 T1 p0 p1
  have S1 := S1.keep (below_drew _)
  have S3 := S3.keep (below_drew _)
  have S6 := S6.keep (below_drew _)
  have hbU := hbU.drew
  have c37' := (S1.cell 37).trans (cR_hi r 2)
  rw [hos] at c37'
  dsimp only at c37'
  have c6 := S6.okw (cO_length _)
  have HQ := Lib.hid (And.intro S1 (And.intro S3 (And.intro S6 hbU)))
  have HJ := Lib.hid (And.intro c37' c6)
  clear h hF hm hrst hcur hv hid hcd hos hl hsl R1 R2 R3 HW3 R6 hb4 HW4 Q1 Q3 S1 S3 S6 hbU c37' c6
  go_enter Tryd.func45, Tryd.ntmps45
  go_wp2
  go_region
  all_goals go_wp2
  generalize ((W4.setCell ⟨W3.heap.size, 32, none⟩ (.int .i64 2)).setCell ⟨W3.heap.size, 33, none⟩ (.int .i64 cd)).drew = U at HQ HJ ⊢
  clear c1 c3 c3' c35 c37 c38 c38' k0 k2 k3 k4 k4' o0 o3 hW hW4
  obtain ⟨c37, c6, c6'⟩ := HJ.out
  change rdA U _ 34 = vO (x, 2, cd) at c6'
  obtain ⟨g6, hg6⟩ : ∃ g6, g6 = W3.heap.size := ⟨_, rfl⟩
  rw [← hg6] at HQ c6 c6' ⊢
  have hlt6 : g6 < U.heap.size := HQ.out.2.2.1.lt
  obtain ⟨o, ho⟩ : ∃ o : Out, (x, (2 : Int), (cd : Int)) = o := ⟨_, rfl⟩
  rw [ho] at c6' ⊢
  have Hoo := Lib.hid ho
  clear HJ hg6 ho
  refine AnyO.wp_any_tail 6 (by kernel_rfl) (by kernel_rfl) (by kernel_rfl) (by kernel_rfl) (by kernel_rfl) (by kernel_rfl) (pstP [isOwn0G (α := Out) U.heap.size 103 34 cO, isV (.pointer (some ⟨w.heap.size, 37, none⟩)), isV (.slice A n cc), isOwnG U.heap.size 103 34 cO s.outs, isV (vO o), isOne cO o]) (MonoL.cons (Mono.own0G _ _ _ _) (MonoL.cons (Mono.v _) (MonoL.cons (Mono.v _) (MonoL.cons (Mono.ownG _ _ _ _ _) (MonoL.cons (Mono.v _) (MonoL.cons (Mono.one _ _) MonoL.nil)))))) ?_ ?_
  · intro i hi
    have hi2 : i = 0 ∨ i = 1 ∨ i = 2 ∨ i = 3 ∨ i = 4 ∨ i = 5 := by omega
    clear hi
    rcases hi2 with rfl | rfl | rfl | rfl | rfl | rfl
    · -- 0: Op.buildSlice 30 0 #[]
      refine AnyO.Step.mk rfl [] (by kernel_rfl) ?_
      intro vs u hE hp ac hb K hK
      rw [if_pos (AnyO.wanted_none rfl)]
      clear hb hp
      go_simp
      exact hK _ _ (below_alloc _ _) ⟨_, rfl, Own.new0 u U.heap.size 103 34 cO cO_length hE.size⟩
    · -- 1: Op.fieldAddr 32 (Operand.tmp 2) 5
      refine AnyO.Step.mk rfl [] (by kernel_rfl) ?_
      intro vs u hE hp ac hb K hK
      have s2 : ac.tmps[2]?.getD undef = .pointer (some ⟨w.heap.size, 0, none⟩) := by rw [hb]; kernel_rfl
      rw [if_pos (AnyO.wanted_none rfl)]
      clear hb hp
      go_simp
      exact hK _ _ (Below.refl _ _) rfl
    · -- 2: Op.load 30 (Operand.tmp 102)
      refine AnyO.Step.mk rfl [1] (by kernel_rfl) ?_
      intro vs u hE hp ac hb K hK
      have s102 : ac.tmps[102]?.getD undef = .pointer (some ⟨w.heap.size, 37, none⟩) := by rw [hb]; exact (show _ = vs 1 by kernel_rfl).trans (hp 1 (by decide))
      rw [if_pos (AnyO.wanted_none rfl)]
      clear hb hp
      have rr := cell_below c37 (Below.step (below_drew _) hE)
      go_simp
      exact hK _ _ (Below.refl _ _) rfl
    · -- 3: Op.call { callee := Callee.builtin Builtin.append, args := #
      refine AnyO.Step.mk rfl [0, 2] (by kernel_rfl) ?_
      intro vs u hE hp ac hb K hK
      obtain ⟨g101, e101, h101⟩ := hp 0 (by decide)
      have s101 : ac.tmps[101]?.getD undef = .slice (some ⟨g101, 0, none⟩) 0 0 := by rw [hb]; exact (show _ = vs 0 by kernel_rfl).trans e101
      clear e101
      have s103 : ac.tmps[103]?.getD undef = .slice A n cc := by rw [hb]; exact (show _ = vs 2 by kernel_rfl).trans (hp 2 (by decide))
      rw [if_pos (AnyO.wanted_none rfl)]
      clear hb hp
      refine wp_append_fresh u (.tmp 101) (.tmp 103) 30 rfl U.heap.size 103 34 48 cO Tryd.underlying30 row103 (by decide) cO_length g101 (ev_tmp s101) h101 A n cc s.outs HSL.out.1 (ev_tmp s103) ((HSL.out.2.1.keep HQ.out.2.2.2).keep (Below.step (below_drew _) hE)) (by have := HSL.out.1; have := HSL.out.2.2; omega) (by have := HSL.out.1; have := HSL.out.2.2; omega) hE.size ?_
      exact fun v w2 h1 h2 => hK _ _ h2 h1
    · -- 4: Op.load 103 (Operand.tmp 6)
      refine AnyO.Step.mk rfl [] (by kernel_rfl) ?_
      intro vs u hE hp ac hb K hK
      have s6 : ac.tmps[6]?.getD undef = .pointer (some ⟨g6, 0, none⟩) := by rw [hb]; kernel_rfl
      rw [if_pos (AnyO.wanted_none rfl)]
      clear hb hp
      have rr := okA_below c6 hlt6 (Below.step (below_drew _) hE)
      rw [c6'] at rr
      obtain ⟨rr1, rr2⟩ := rr
      go_simp
      exact hK _ _ (Below.refl _ _) rfl
    · -- 5: Op.buildSlice 30 1 #[(0, Operand.tmp 105)]
      refine AnyO.Step.mk rfl [4] (by kernel_rfl) ?_
      intro vs u hE hp ac hb K hK
      have s105 : ac.tmps[105]?.getD undef = vO o := by rw [hb]; exact (show _ = vs 4 by kernel_rfl).trans (hp 4 (by decide))
      rw [if_pos (AnyO.wanted_none rfl)]
      clear hb hp
      go_simp
      exact hK _ _ (below_alloc _ _) (isOne.O u _ _)
  · intro vs u hE hp
    obtain ⟨g_0, e0, h_0⟩ := show isOwn0G (α := Out) U.heap.size 103 34 cO (vs 0) u from hp 0 (by decide)
    have e1 : vs 1 = .pointer (some ⟨w.heap.size, 37, none⟩) := hp 1 (by decide)
    have e2 : vs 2 = .slice A n cc := hp 2 (by decide)
    have f3 : isOwnG U.heap.size 103 34 cO s.outs (vs 3) u := hp 3 (by decide)
    have e4 : vs 4 = vO o := hp 4 (by decide)
    obtain ⟨g_5, e5, h_5⟩ := show isOne cO o (vs 5) u from hp 5 (by decide)
    clear hp
    have HF := Lib.hid (And.intro f3 (And.intro h_5 hE))
    clear f3 h_5 hE
    rw [puts_range [some 101, some 102, some 103, some 104, some 105, some 106] (by kernel_rfl)]
    simp only [putL, Nat.reduceAdd, List.drop_succ_cons, List.drop_zero, e0, e1, e2, e4, e5]
    clear e0 e1 e2 e4 e5
    go_simp
    go_wp2_with (at_builtin; refine wpList_append_sl u rfl (.tmp 104) (.tmp 106) 30 rfl U.heap.size 103 34 48 cO Tryd.underlying30 row103 (by decide) cO_length cO_one (vs 3) s.outs rfl HF.out.1 (some ⟨g_5, 0, none⟩) 1 1 [o] rfl rfl HF.out.2.1 (by have := HSL.out.1; have := HSL.out.2.2; omega) (by have := HSL.out.1; have := HSL.out.2.2; omega) HF.out.2.2.size ?_)
    intro v2 w2 ho hg
    have hb2 := Own.grew HF.out.1 hg HF.out.2.2 (Nat.le_refl _) HF.out.2.2.size
    obtain ⟨A2, n2, c2, rfl⟩ : ∃ A2 n2 c2, v2 = .slice A2 n2 c2 := by obtain ⟨A2, c2, e, _⟩ := ho.sl; exact ⟨A2, _, c2, e⟩
    have R1 := HQ.out.1.keep hb2
    have q1 := cell_below c37 hb2
    have q2 := R1.fz 37
    have R3 := R1.set 37 (.slice A2 n2 c2)
    rw [cR_seto] at R3
    have hoo : ∀ k, k ≠ w.heap.size → (w2.setCell ⟨w.heap.size, 37, none⟩ (.slice A2 n2 c2)).heap[k]? = w2.heap[k]? := fun k hk => heap_set_other w2 w.heap.size 37 _ k hk
    obtain ⟨⟨i1, i2⟩, ⟨i3, i4⟩, i5, ⟨i6, i7⟩, z1, z2, z3⟩ := idle_facts R3 _ _ _ rfl rfl rfl
    have R4 := ((HQ.out.2.1.keep hb2).same (hoo (w.heap.size + 1 + 1) (by omega))).same (z2 (w.heap.size + 1 + 1) (by omega))
    have j1 := R4.rok (cR_length zR)
    have hbz := ((HQ.out.2.2.2.trans (hb2.mono HQ.out.2.2.2.size)).trans (Below.setCell' (Below.refl _ w2) (Nat.le_refl w.heap.size) 37 (.slice A2 n2 c2))).trans (z3 w.heap.size (Nat.le_refl _))
    have HZ := Lib.hid (And.intro R4 (And.intro hbz (And.intro ho (And.intro hoo z2))))
    clear R1 R3 R4 z1 z2 z3 hbz ho hg hoo hb2
    go_wp2
    generalize hU : stD (((w2.setCell ⟨w.heap.size, 37, none⟩ (.slice A2 n2 c2)).setCell ⟨w.heap.size, 1, none⟩ (.int .i64 0)).setCell ⟨w.heap.size, 2, none⟩ (.int .i64 0)) w.heap.size 3 (cA zA) = V at *
    have hf := Below.setRow' HZ.out.2.1 (show w.heap.size ≤ w.heap.size + 1 + 1 by omega) (aR { r with o := (A2, n2, c2), st := 0, at_ := 0, cur := zA })
    have hX := HX.out.1.keep hf
    have ho2 := HZ.out.2.2.1
    have hl2 := HQ.out.2.1.lt
    have ho3 := Own.same (w' := V.setRow (w.heap.size + 1 + 1) (aR { r with o := (A2, n2, c2), st := 0, at_ := 0, cur := zA })) ho2 fun j e => (heap_setRow_other V _ j _ (by have := (ho2.lt j e).1; omega)).trans ((HZ.out.2.2.2.2 j (by have := (ho2.lt j e).1; omega)).trans (HZ.out.2.2.2.1 j (by have := (ho2.lt j e).1; omega)))
    exact bodyPost_ret (v := .tuple #[vR { r with o := (A2, n2, c2), st := 0, at_ := 0, cur := zA }, .int .i64 0]) (results_c2 (ad := ⟨w.heap.size + 1 + 1, 0, none⟩) rfl rfl (load_R HZ.out.1.setRow) rfl) rfl ⟨_, rfl, ⟨hX.ch, rfl, rfl, rfl, hX.ws, by rw [Hoo.out]; exact SlF.own ho3 (fun j hj => Nat.lt_of_lt_of_le (HX.out.2 j hj) HQ.out.2.2.2.size)⟩, hf⟩

end Go.Proofs.YtlelecnafdddhaaDoor
