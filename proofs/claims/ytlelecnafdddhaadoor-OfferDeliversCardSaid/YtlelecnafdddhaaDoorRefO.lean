/- The reference's Say: an offer. -/
import Derived.Test.YtlelecnafdddhaaDoorRefS
namespace Go.Proofs.YtlelecnafdddhaaDoor
open Go.RowKit
/-- The stores of an offer: the article, the list behind it, the state, nothing said. -/
theorem roff_facts {b : Nat} {r : Rs} {ty : TypeId} {w5 : World} (h : Row w5 b (cR r) ty) (a : Art) (A2 : Option Addr) (n2 c2 : Nat) (U1 U2 U3 U4 : World) (h1 : U1 = stD w5 b 3 (cA a)) (h2 : U2 = U1.setCell ⟨b, 36, none⟩ (.slice A2 n2 c2)) (h3 : U3 = U2.setCell ⟨b, 1, none⟩ (.int .i64 1)) (h4 : U4 = U3.setCell ⟨b, 2, none⟩ (.int .i64 0)) :
    stOk w5 b 3 33 = true ∧ (U1.cell? ⟨b, 36, none⟩ = some (.slice r.w.1 r.w.2.1 r.w.2.2) ∧ U1.frozen? ⟨b, 36, none⟩ = false) ∧ (U2.cell? ⟨b, 1, none⟩ = some (.int .i64 r.st) ∧ U2.frozen? ⟨b, 1, none⟩ = false) ∧ (U3.cell? ⟨b, 2, none⟩ = some (.int .i64 r.at_) ∧ U3.frozen? ⟨b, 2, none⟩ = false) ∧
    Row U4 b (cR { r with st := 1, at_ := 0, cur := a, w := (A2, n2, c2) }) ty ∧ (∀ j, j ≠ b → U4.heap[j]? = w5.heap[j]?) ∧ (∀ B, B ≤ b → Below B w5 U4) := by
  have row1 : Row U1 b (cR { r with cur := a }) ty := by rw [h1]; exact row_cur h a
  have row2 : Row U2 b (cR { r with cur := a, w := (A2, n2, c2) }) ty := by rw [h2]; have := row1.set 36 (.slice A2 n2 c2); rwa [cR_setw] at this
  have row3 : Row U3 b (cR { r with st := 1, cur := a, w := (A2, n2, c2) }) ty := by rw [h3]; exact row2.set 1 _
  have row4 : Row U4 b (cR { r with st := 1, at_ := 0, cur := a, w := (A2, n2, c2) }) ty := by rw [h4]; exact row3.set 2 _
  have o1 : ∀ j, j ≠ b → U1.heap[j]? = w5.heap[j]? := fun j hj => by rw [h1]; exact heap_stD_other w5 b 3 _ j hj
  have o2 : ∀ j, j ≠ b → U2.heap[j]? = U1.heap[j]? := fun j hj => by rw [h2]; exact heap_set_other U1 b 36 _ j hj
  have o3 : ∀ j, j ≠ b → U3.heap[j]? = U2.heap[j]? := fun j hj => by rw [h3]; exact heap_set_other U2 b 1 _ j hj
  have o4 : ∀ j, j ≠ b → U4.heap[j]? = U3.heap[j]? := fun j hj => by rw [h4]; exact heap_set_other U3 b 2 _ j hj
  refine ⟨Row.ok _ h 3 33 (by rw [cR_length]; omega), ⟨(row1.cell 36).trans (cR_hi _ 1), row1.fz 36⟩, ⟨row2.cell 1, row2.fz 1⟩, ⟨row3.cell 2, row3.fz 2⟩, row4, fun j hj => (o4 j hj).trans ((o3 j hj).trans ((o2 j hj).trans (o1 j hj))), fun B hB => ?_⟩
  subst h4 h3 h2 h1
  exact Below.setCell' (Below.setCell' (Below.setCell' (Below.stD (Below.refl B w5) hB 3 _) hB 36 _) hB 1 _) hB 2 _
set_option maxRecDepth 100000 in
set_option maxHeartbeats 3200000 in
theorem refSay23_offer (F : List Nat) (ch : Int) (s : St) (r : Rs) (w : World) (x : Id) (t : ByteArray) (rest : List Art) (h : RefAt F ch s r w) (hF : ∀ k ∈ F, k < w.heap.size) (hst : s.state = 0) (hw : s.wait = (x, t) :: rest) (hm : s.wait.length ≤ 100000) :
    Calls Tryd.prog 23 #[vR r] w (RSayP F ch ⟨rest, 1, (x, t), s.outs, none⟩ ⟨2, (t.size : Int), 0, 0, x, ⟨#[]⟩⟩ true w) := by
  have hrst : r.st = 0 := h.st.trans hst
  obtain ⟨hl, hc, hsl, _⟩ := h.ws
  obtain ⟨A, n1, c, hws⟩ : ∃ A n1 c, r.w = (A, n1, c) := ⟨_, _, _, rfl⟩
  rw [hws] at hl hc hsl
  dsimp only at hl hc hsl
  rw [hw] at hl hsl hm
  obtain ⟨n, hn⟩ : ∃ n, rest.length = n := ⟨_, rfl⟩
  rw [List.length_cons, hn] at hl hm
  subst hl
  obtain ⟨ad, hA, hok, hrd⟩ := Sl.art hsl (k := 0) (by simp)
  subst hA
  have hadlt0 : ad.block < w.heap.size := by
    obtain ⟨ad', e, hat⟩ := Sl.at_ cA_length hsl (k := 0) (by simp)
    obtain rfl : ad = ad' := by injection e
    have := hat.1
    rwa [block_of_add] at this
  rw [Nat.zero_mul, show ad.add 0 = ad from rfl] at hok hrd
  rw [List.getElem_cons_zero] at hrd
  have hcut := Sl.cut cA_length hsl (c := c) (k := 1) (by rw [List.length_cons, hn]; exact hc)
  rw [List.drop_succ_cons, List.drop_zero] at hcut
  have HX := Lib.hid (And.intro h (And.intro hF (And.intro hst hw)))
  have HW3 : Below w.heap.size w (((w.alloc (.cells (aR r) 32)).alloc (.cells (aR zR) 32)).alloc (.cells (aK zK) 55)) := Below.step (Below.step (below_alloc w _) (below_alloc _ _)) (below_alloc _ _)
  have R1 : Row (((w.alloc (.cells (aR r) 32)).alloc (.cells (aR zR) 32)).alloc (.cells (aK zK) 55)) w.heap.size (cR r) 32 := ((Row.new w (cR r) 32).keep (below_alloc _ _)).keep (below_alloc _ _)
  have R2 : Row (((w.alloc (.cells (aR r) 32)).alloc (.cells (aR zR) 32)).alloc (.cells (aK zK) 55)) (w.heap.size + 1) (cR zR) 32 := by
    have h := (Row.new (w.alloc (.cells (aR r) 32)) (cR zR) 32).keep (below_alloc _ (.cells (aK zK) 55))
    rwa [show (w.alloc (.cells (aR r) 32)).heap.size = w.heap.size + 1 by simp] at h
  have R3 : Row (((w.alloc (.cells (aR r) 32)).alloc (.cells (aR zR) 32)).alloc (.cells (aK zK) 55)) (w.heap.size + 1 + 1) (cK zK) 55 := by
    have h := Row.new ((w.alloc (.cells (aR r) 32)).alloc (.cells (aR zR) 32)) (cK zK) 55
    rwa [show ((w.alloc (.cells (aR r) 32)).alloc (.cells (aR zR) 32)).heap.size = w.heap.size + 1 + 1 by simp] at h
  obtain ⟨W3, hW⟩ : ∃ W3, ((w.alloc (.cells (aR r) 32)).alloc (.cells (aR zR) 32)).alloc (.cells (aK zK) 55) = W3 := ⟨_, rfl⟩
  rw [hW] at HW3 R1 R2 R3
  obtain ⟨_, c1, _, _, _, _, c36, _, _, hlt⟩ := row_R R1
  rw [hrst] at c1
  rw [hws] at c36
  dsimp only at c36
  obtain ⟨cA1, cA1'⟩ := okA_below hok hadlt0 HW3
  rw [hrd] at cA1'
  have hadlt : ad.block < W3.heap.size := Nat.lt_of_lt_of_le hadlt0 HW3.size
  have q0 : (0 : Int) < (n : Int) + 1 := by omega
  have HR := Lib.hid (And.intro R1 (And.intro (And.intro R2 R3) HW3))
  have hm2 : n ≤ 100000 := by omega
  clear h hF hst hrst hw hws hsl hok hrd hadlt0 R1 R2 R3 HW3 hm
  by_cases hc1 : c = 1
  · rw [if_pos hc1] at hcut
    have HSL := Lib.hid (And.intro hcut (And.intro trivial (And.intro hm2 (And.intro (show rest.length = 0 by omega) hn))))
    subst hc1
    obtain rfl : n = 0 := by omega
    rw [Nat.zero_add] at c36
    clear hcut hm2 hn
    go_enter Tryd.func23, Tryd.ntmps23
    go_wp2
    refine AnyO.wp_any_tail 10 (by kernel_rfl) (by kernel_rfl) (by kernel_rfl) (by kernel_rfl) (by kernel_rfl) (by kernel_rfl) (pstP [isV (.pointer (some ⟨w.heap.size, 36, none⟩)), isV (.slice (some ad) 1 1), isV (.pointer (some ad)), isV (vA (x, t)), isOwn0G (α := Art) W3.heap.size 28 33 cA, isV (.pointer (some ⟨w.heap.size, 36, none⟩)), isV (.slice (some ad) 1 1), isV (.slice (some ad) 0 0), isOwnG W3.heap.size 28 33 cA rest, isV (.pointer (some ⟨w.heap.size, 3, none⟩))]) (MonoL.cons (Mono.v _) (MonoL.cons (Mono.v _) (MonoL.cons (Mono.v _) (MonoL.cons (Mono.v _) (MonoL.cons (Mono.own0G _ _ _ _) (MonoL.cons (Mono.v _) (MonoL.cons (Mono.v _) (MonoL.cons (Mono.v _) (MonoL.cons (Mono.ownG _ _ _ _ _) (MonoL.cons (Mono.v _) MonoL.nil)))))))))) ?_ ?_
    · intro i hi
      have hi2 : i = 0 ∨ i = 1 ∨ i = 2 ∨ i = 3 ∨ i = 4 ∨ i = 5 ∨ i = 6 ∨ i = 7 ∨ i = 8 ∨ i = 9 := by omega
      clear hi
      rcases hi2 with rfl | rfl | rfl | rfl | rfl | rfl | rfl | rfl | rfl | rfl
      · -- 0: Op.fieldAddr 32 (Operand.tmp 1) 4
        refine AnyO.Step.mk rfl [] (by kernel_rfl) ?_
        intro vs u hE hp ac hb K hK
        have s1 : ac.tmps[1]?.getD undef = .pointer (some ⟨w.heap.size, 0, none⟩) := by rw [hb]; kernel_rfl
        rw [if_pos (AnyO.wanted_none rfl)]
        clear hb hp
        go_simp
        exact hK _ _ (Below.refl _ _) rfl
      · -- 1: Op.load 29 (Operand.tmp 16)
        refine AnyO.Step.mk rfl [0] (by kernel_rfl) ?_
        intro vs u hE hp ac hb K hK
        have s16 : ac.tmps[16]?.getD undef = .pointer (some ⟨w.heap.size, 36, none⟩) := by rw [hb]; exact (show _ = vs 0 by kernel_rfl).trans (hp 0 (by decide))
        rw [if_pos (AnyO.wanted_none rfl)]
        clear hb hp
        have rr := cell_below c36 (Below.step (below_drew _) hE)
        go_simp
        exact hK _ _ (Below.refl _ _) rfl
      · -- 2: Op.indexAddr 29 (Operand.tmp 17) (Operand.const (Value.int I
        refine AnyO.Step.mk rfl [1] (by kernel_rfl) ?_
        intro vs u hE hp ac hb K hK
        have s17 : ac.tmps[17]?.getD undef = .slice (some ad) 1 1 := by rw [hb]; exact (show _ = vs 1 by kernel_rfl).trans (hp 1 (by decide))
        rw [if_pos (AnyO.wanted_none rfl)]
        clear hb hp
        go_simp
        exact hK _ _ (Below.refl _ _) rfl
      · -- 3: Op.load 28 (Operand.tmp 18)
        refine AnyO.Step.mk rfl [2] (by kernel_rfl) ?_
        intro vs u hE hp ac hb K hK
        have s18 : ac.tmps[18]?.getD undef = .pointer (some ad) := by rw [hb]; exact (show _ = vs 2 by kernel_rfl).trans (hp 2 (by decide))
        rw [if_pos (AnyO.wanted_none rfl)]
        clear hb hp
        have rr := okA_below cA1 hadlt (Below.step (below_drew _) hE)
        rw [cA1'] at rr
        obtain ⟨rr1, rr2⟩ := rr
        go_simp
        exact hK _ _ (Below.refl _ _) rfl
      · -- 4: Op.buildSlice 29 0 #[]
        refine AnyO.Step.mk rfl [] (by kernel_rfl) ?_
        intro vs u hE hp ac hb K hK
        rw [if_pos (AnyO.wanted_none rfl)]
        clear hb hp
        go_simp
        exact hK _ _ (below_alloc _ _) ⟨_, rfl, Own.new0 u W3.heap.size 28 33 cA cA_length hE.size⟩
      · -- 5: Op.fieldAddr 32 (Operand.tmp 1) 4
        refine AnyO.Step.mk rfl [] (by kernel_rfl) ?_
        intro vs u hE hp ac hb K hK
        have s1 : ac.tmps[1]?.getD undef = .pointer (some ⟨w.heap.size, 0, none⟩) := by rw [hb]; kernel_rfl
        rw [if_pos (AnyO.wanted_none rfl)]
        clear hb hp
        go_simp
        exact hK _ _ (Below.refl _ _) rfl
      · -- 6: Op.load 29 (Operand.tmp 21)
        refine AnyO.Step.mk rfl [5] (by kernel_rfl) ?_
        intro vs u hE hp ac hb K hK
        have s21 : ac.tmps[21]?.getD undef = .pointer (some ⟨w.heap.size, 36, none⟩) := by rw [hb]; exact (show _ = vs 5 by kernel_rfl).trans (hp 5 (by decide))
        rw [if_pos (AnyO.wanted_none rfl)]
        clear hb hp
        have rr := cell_below c36 (Below.step (below_drew _) hE)
        go_simp
        exact hK _ _ (Below.refl _ _) rfl
      · -- 7: Op.slice 29 (Operand.tmp 22) (some (Operand.const (Value.int
        refine AnyO.Step.mk rfl [6] (by kernel_rfl) ?_
        intro vs u hE hp ac hb K hK
        have s22 : ac.tmps[22]?.getD undef = .slice (some ad) 1 1 := by rw [hb]; exact (show _ = vs 6 by kernel_rfl).trans (hp 6 (by decide))
        rw [if_pos (AnyO.wanted_none rfl)]
        clear hb hp
        go_simp
        exact hK _ _ (Below.refl _ _) rfl
      · -- 8: Op.call { callee := Callee.builtin Builtin.append, args := #
        refine AnyO.Step.mk rfl [4, 7] (by kernel_rfl) ?_
        intro vs u hE hp ac hb K hK
        obtain ⟨g20, e20, h20⟩ := hp 4 (by decide)
        have s20 : ac.tmps[20]?.getD undef = .slice (some ⟨g20, 0, none⟩) 0 0 := by rw [hb]; exact (show _ = vs 4 by kernel_rfl).trans e20
        clear e20
        have s23 : ac.tmps[23]?.getD undef = .slice (some ad) 0 0 := by rw [hb]; exact (show _ = vs 7 by kernel_rfl).trans (hp 7 (by decide))
        rw [if_pos (AnyO.wanted_none rfl)]
        clear hb hp
        refine wp_append_fresh u (.tmp 20) (.tmp 23) 29 rfl W3.heap.size 28 33 48 cA Tryd.underlying29 row28 (by decide) cA_length g20 (ev_tmp s20) h20 _ _ _ rest HSL.out.2.2.2.1 (ev_tmp s23) ((HSL.out.1.keep HR.out.2.2).keep (Below.step (below_drew _) hE)) (by have := HSL.out.2.2.1; have := HSL.out.2.2.2.1; omega) (by have := HSL.out.2.2.1; have := HSL.out.2.2.2.1; omega) hE.size ?_
        exact fun v w2 h1 h2 => hK _ _ h2 h1
      · -- 9: Op.fieldAddr 32 (Operand.tmp 1) 3
        refine AnyO.Step.mk rfl [0, 1, 2, 3, 5, 6] (by kernel_rfl) ?_
        intro vs u hE hp ac hb K hK
        have s1 : ac.tmps[1]?.getD undef = .pointer (some ⟨w.heap.size, 0, none⟩) := by rw [hb]; kernel_rfl
        rw [if_pos (AnyO.wanted_none rfl)]
        clear hb hp
        go_simp
        exact hK _ _ (Below.refl _ _) rfl
    · intro vs u hE hp
      have e0 : vs 0 = .pointer (some ⟨w.heap.size, 36, none⟩) := hp 0 (by decide)
      have e1 : vs 1 = .slice (some ad) 1 1 := hp 1 (by decide)
      have e2 : vs 2 = .pointer (some ad) := hp 2 (by decide)
      have e3 : vs 3 = vA (x, t) := hp 3 (by decide)
      obtain ⟨g_4, e4, h_4⟩ := show isOwn0G (α := Art) W3.heap.size 28 33 cA (vs 4) u from hp 4 (by decide)
      have e5 : vs 5 = .pointer (some ⟨w.heap.size, 36, none⟩) := hp 5 (by decide)
      have e6 : vs 6 = .slice (some ad) 1 1 := hp 6 (by decide)
      have e7 : vs 7 = .slice (some ad) 0 0 := hp 7 (by decide)
      have f8 : isOwnG W3.heap.size 28 33 cA rest (vs 8) u := hp 8 (by decide)
      have e9 : vs 9 = .pointer (some ⟨w.heap.size, 3, none⟩) := hp 9 (by decide)
      clear hp
      have HF := Lib.hid (And.intro f8 hE)
      clear f8 hE
      rw [puts_range [some 16, some 17, some 18, some 19, some 20, some 21, some 22, some 23, some 24, some 25] (by kernel_rfl)]
      simp only [putL, Nat.reduceAdd, List.drop_succ_cons, List.drop_zero, e0, e1, e2, e3, e4, e5, e6, e7, e9]
      clear e0 e1 e2 e3 e4 e5 e6 e7 e9
      go_simp
      obtain ⟨v8, hv8⟩ : ∃ v, vs 8 = v := ⟨_, rfl⟩
      rw [hv8] at HF ⊢
      obtain ⟨A2, n2, c2, rfl⟩ : ∃ A2 n2 c2, v8 = .slice A2 n2 c2 := by obtain ⟨A2, c2, e, _⟩ := Own.sl (show Own u W3.heap.size 28 33 cA v8 rest from HF.out.1); exact ⟨A2, _, c2, e⟩
      clear hv8
      obtain ⟨j0, ⟨j1, j2⟩, ⟨j3, j4⟩, ⟨j5, j6⟩, z1, z2, z3⟩ := roff_facts (HR.out.1.keep HF.out.2) (x, t) A2 n2 c2 _ _ _ _ rfl rfl rfl rfl
      have HZ := Lib.hid (And.intro z1 (And.intro z2 z3))
      clear z1 z2 z3
      go_wp2
      generalize ((((stD u w.heap.size 3 (cA (x, t))).setCell ⟨w.heap.size, 36, none⟩ (.slice A2 n2 c2)).setCell ⟨w.heap.size, 1, none⟩ (.int .i64 1)).setCell ⟨w.heap.size, 2, none⟩ (.int .i64 0)) = U at HZ ⊢
      clear j0 j1 j2 j3 j4 j5 j6 c36 cA1 cA1' c1 hW
      obtain ⟨r1, hr1⟩ : ∃ r1 : Rs, { r with st := 1, at_ := 0, cur := (x, t), w := (A2, n2, c2) } = r1 := ⟨_, rfl⟩
      rw [hr1] at HZ
      have HXI := Lib.hid (And.intro (show r1.cur.1 = x by rw [← hr1]) (show r1.cur.2 = t by rw [← hr1]))
      have hbU := (HR.out.2.2.trans (HF.out.2.mono HR.out.2.2.size)).trans (HZ.out.2.2 w.heap.size (Nat.le_refl _))
      have HQ := Lib.hid (And.intro HZ.out.1 (And.intro ((HR.out.2.1.1.keep HF.out.2).same (HZ.out.2.1 (w.heap.size + 1) (by omega))) (And.intro ((HR.out.2.1.2.keep HF.out.2).same (HZ.out.2.1 (w.heap.size + 1 + 1) (by omega))) hbU)))
      have hB4 : w.heap.size + 1 + 1 < W3.heap.size := HR.out.2.1.2.lt
      obtain ⟨b3, hb3⟩ : ∃ b3, b3 = w.heap.size + 1 + 1 := ⟨_, rfl⟩
      obtain ⟨b2, hb2⟩ : ∃ b2, b2 = w.heap.size + 1 := ⟨_, rfl⟩
      have hB2 : w.heap.size < b2 := by omega
      have hB3 : b2 < b3 := by omega
      rw [← hb3] at hB4
      rw [← hb3, ← hb2] at HQ ⊢
      clear hb2 hb3 hbU
      obtain ⟨S, hS⟩ : ∃ S : List AnyO.Sto, S = [(9, b2, 32, cR zR, cR r1), (10, b3, 55, cK zK, cK ⟨2, (t.size : Int), 0, 0, x, ⟨#[]⟩⟩)] := ⟨_, rfl⟩
      have hm9 : ((9, b2, 32, cR zR, cR r1) : AnyO.Sto) ∈ S := by rw [hS]; simp
      have hm10 : ((10, b3, 55, cK zK, cK ⟨2, (t.size : Int), 0, 0, x, ⟨#[]⟩⟩) : AnyO.Sto) ∈ S := by rw [hS]; simp
      have hst : ∀ x ∈ S, Row U x.2.1 x.2.2.2.1 x.2.2.1 := fun x hx => by rw [hS] at hx; simp only [List.mem_cons, List.not_mem_nil, or_false] at hx; rcases hx with rfl | rfl <;> first | exact HQ.out.2.1 | exact HQ.out.2.2.1
      have hbs : ∀ x ∈ S, w.heap.size ≤ x.2.1 := fun x hx => by rw [hS] at hx; simp only [List.mem_cons, List.not_mem_nil, or_false] at hx; rcases hx with rfl | rfl <;> (dsimp only; omega)
      have hne : ∀ i, i ≠ 9 ∧ i ≠ 10 → ∀ x ∈ S, x.1 ≠ i := fun i hi x hx => by rw [hS] at hx; simp only [List.mem_cons, List.not_mem_nil, or_false] at hx; rcases hx with rfl | rfl <;> (dsimp only; omega)
      have hd9 : ∀ y ∈ S, y ≠ (9, b2, 32, cR zR, cR r1) → y.2.1 ≠ b2 ∧ y.1 ≠ 9 := fun y hy hn => by rw [hS] at hy; simp only [List.mem_cons, List.not_mem_nil, or_false] at hy; rcases hy with rfl | rfl <;> first | exact absurd rfl hn | exact ⟨by dsimp only; omega, by dsimp only; omega⟩
      have hd10 : ∀ y ∈ S, y ≠ (10, b3, 55, cK zK, cK ⟨2, (t.size : Int), 0, 0, x, ⟨#[]⟩⟩) → y.2.1 ≠ b3 ∧ y.1 ≠ 10 := fun y hy hn => by rw [hS] at hy; simp only [List.mem_cons, List.not_mem_nil, or_false] at hy; rcases hy with rfl | rfl <;> first | exact absurd rfl hn | exact ⟨by dsimp only; omega, by dsimp only; omega⟩
      have hus : ∀ x ∈ S, x.2.1 < W3.heap.size := fun x hx => by rw [hS] at hx; simp only [List.mem_cons, List.not_mem_nil, or_false] at hx; rcases hx with rfl | rfl <;> (dsimp only; omega)
      have hr0 : ∀ x ∈ S, w.heap.size ≠ x.2.1 := fun x hx => by rw [hS] at hx; simp only [List.mem_cons, List.not_mem_nil, or_false] at hx; rcases hx with rfl | rfl <;> (dsimp only; omega)
      have Hm9 := Lib.hid hm9
      have Hm10 := Lib.hid hm10
      have Hd9 := Lib.hid hd9
      have Hd10 := Lib.hid hd10
      have Hne := Lib.hid hne
      have Hbs := Lib.hid hbs
      have Hst := Lib.hid hst
      have Hus := Lib.hid hus
      have Hr0 := Lib.hid hr0
      clear hS hm9 hm10 hd9 hd10 hne hbs hst hus hr0
      refine AnyO.wp_anyI (by kernel_rfl) (by kernel_rfl) (AnyO.InvS (AnyO.pvL [some (vR r1), some (.pointer (some ⟨w.heap.size, 3, none⟩)), some (.pointer (some ⟨w.heap.size, 3, none⟩)), some (vI x), some (.pointer (some ⟨w.heap.size, 3, none⟩)), some (.pointer (some ⟨w.heap.size, 35, none⟩)), some (.string t), some (.int .i64 (t.size : Int)), some (vK ⟨2, (t.size : Int), 0, 0, x, ⟨#[]⟩⟩), none, none, some (Value.bool true)]) U S) (AnyO.InvS.start Hst.out) ?_ ?_
      · intro i hi
        have hi2 : i = 0 ∨ i = 1 ∨ i = 2 ∨ i = 3 ∨ i = 4 ∨ i = 5 ∨ i = 6 ∨ i = 7 ∨ i = 8 ∨ i = 9 ∨ i = 10 ∨ i = 11 := by simp only [List.size_toArray, List.length_cons, List.length_nil] at hi; omega
        clear hi
        rcases hi2 with rfl | rfl | rfl | rfl | rfl | rfl | rfl | rfl | rfl | rfl | rfl | rfl
        · -- 0: Op.load 32 (Operand.tmp 1)
          refine AnyO.StepI.mk rfl [] (by kernel_rfl) ?_
          intro D vs u hI h0 hC hp ac hb K hK
          have s1 : ac.tmps[1]?.getD undef = .pointer (some ⟨w.heap.size, 0, none⟩) := by rw [hb]; kernel_rfl
          rw [if_pos (AnyO.wanted_none rfl)]
          clear hb hp hC
          have RR := AnyO.InvS.row hI HQ.out.1 Hr0.out
          obtain ⟨rr1, rr2⟩ := RR.okw (cR_length _)
          change rdA _ _ _ = vR r1 at rr2
          clear RR
          clear h0
          go_simp
          exact hK _ _ (AnyO.InvS.pure hI (Hne.out 0 (by decide)) rfl (Below.refl _ _))
        · -- 1: Op.fieldAddr 32 (Operand.tmp 1) 3
          refine AnyO.StepI.mk rfl [] (by kernel_rfl) ?_
          intro D vs u hI h0 hC hp ac hb K hK
          have s1 : ac.tmps[1]?.getD undef = .pointer (some ⟨w.heap.size, 0, none⟩) := by rw [hb]; kernel_rfl
          rw [if_pos (AnyO.wanted_none rfl)]
          clear hb hp hC
          clear h0
          go_simp
          exact hK _ _ (AnyO.InvS.pure hI (Hne.out 1 (by decide)) rfl (Below.refl _ _))
        · -- 2: Op.fieldAddr 28 (Operand.tmp 30) 0
          refine AnyO.StepI.mk rfl [1] (by kernel_rfl) ?_
          intro D vs u hI h0 hC hp ac hb K hK
          have s30 : ac.tmps[30]?.getD undef = .pointer (some ⟨w.heap.size, 3, none⟩) := by rw [hb]; exact (show _ = vs 1 by kernel_rfl).trans (show vs 1 = .pointer (some ⟨w.heap.size, 3, none⟩) from hI.1 1 (hp 1 (by decide)))
          rw [if_pos (AnyO.wanted_none rfl)]
          clear hb hp hC
          clear h0
          go_simp
          exact hK _ _ (AnyO.InvS.pure hI (Hne.out 2 (by decide)) rfl (Below.refl _ _))
        · -- 3: Op.load 22 (Operand.tmp 31)
          refine AnyO.StepI.mk rfl [2] (by kernel_rfl) ?_
          intro D vs u hI h0 hC hp ac hb K hK
          have s31 : ac.tmps[31]?.getD undef = .pointer (some ⟨w.heap.size, 3, none⟩) := by rw [hb]; exact (show _ = vs 2 by kernel_rfl).trans (show vs 2 = .pointer (some ⟨w.heap.size, 3, none⟩) from hI.1 2 (hp 2 (by decide)))
          rw [if_pos (AnyO.wanted_none rfl)]
          clear hb hp hC
          have RR := AnyO.InvS.row hI HQ.out.1 Hr0.out
          obtain ⟨_, _, _, ⟨rr1, rr2⟩, _⟩ := row_R RR
          rw [HXI.out.1] at rr2
          clear RR
          clear h0
          go_simp
          exact hK _ _ (AnyO.InvS.pure hI (Hne.out 3 (by decide)) rfl (Below.refl _ _))
        · -- 4: Op.fieldAddr 32 (Operand.tmp 1) 3
          refine AnyO.StepI.mk rfl [] (by kernel_rfl) ?_
          intro D vs u hI h0 hC hp ac hb K hK
          have s1 : ac.tmps[1]?.getD undef = .pointer (some ⟨w.heap.size, 0, none⟩) := by rw [hb]; kernel_rfl
          rw [if_pos (AnyO.wanted_none rfl)]
          clear hb hp hC
          clear h0
          go_simp
          exact hK _ _ (AnyO.InvS.pure hI (Hne.out 4 (by decide)) rfl (Below.refl _ _))
        · -- 5: Op.fieldAddr 28 (Operand.tmp 33) 1
          refine AnyO.StepI.mk rfl [4] (by kernel_rfl) ?_
          intro D vs u hI h0 hC hp ac hb K hK
          have s33 : ac.tmps[33]?.getD undef = .pointer (some ⟨w.heap.size, 3, none⟩) := by rw [hb]; exact (show _ = vs 4 by kernel_rfl).trans (show vs 4 = .pointer (some ⟨w.heap.size, 3, none⟩) from hI.1 4 (hp 4 (by decide)))
          rw [if_pos (AnyO.wanted_none rfl)]
          clear hb hp hC
          clear h0
          go_simp
          exact hK _ _ (AnyO.InvS.pure hI (Hne.out 5 (by decide)) rfl (Below.refl _ _))
        · -- 6: Op.load 9 (Operand.tmp 34)
          refine AnyO.StepI.mk rfl [5] (by kernel_rfl) ?_
          intro D vs u hI h0 hC hp ac hb K hK
          have s34 : ac.tmps[34]?.getD undef = .pointer (some ⟨w.heap.size, 35, none⟩) := by rw [hb]; exact (show _ = vs 5 by kernel_rfl).trans (show vs 5 = .pointer (some ⟨w.heap.size, 35, none⟩) from hI.1 5 (hp 5 (by decide)))
          rw [if_pos (AnyO.wanted_none rfl)]
          clear hb hp hC
          have RR := AnyO.InvS.row hI HQ.out.1 Hr0.out
          obtain ⟨_, _, _, _, _, rr1, _⟩ := row_R RR
          rw [HXI.out.2] at rr1
          clear RR
          clear h0
          go_simp
          exact hK _ _ (AnyO.InvS.pure hI (Hne.out 6 (by decide)) rfl (Below.refl _ _))
        · -- 7: Op.call { callee := Callee.builtin Builtin.len, args := #[Op
          refine AnyO.StepI.mk rfl [6] (by kernel_rfl) ?_
          intro D vs u hI h0 hC hp ac hb K hK
          have s35 : ac.tmps[35]?.getD undef = .string t := by rw [hb]; exact (show _ = vs 6 by kernel_rfl).trans (show vs 6 = .string t from hI.1 6 (hp 6 (by decide)))
          rw [if_pos (AnyO.wanted_none rfl)]
          clear hb hp hC
          clear h0
          go_simp
          exact hK _ _ (AnyO.InvS.pure hI (Hne.out 7 (by decide)) rfl (Below.refl _ _))
        · -- 8: Op.build 55 #[(0, Operand.const (Value.int IntKind.i64 2)), 
          refine AnyO.StepI.mk rfl [3, 7] (by kernel_rfl) ?_
          intro D vs u hI h0 hC hp ac hb K hK
          have s32 : ac.tmps[32]?.getD undef = vI x := by rw [hb]; exact (show _ = vs 3 by kernel_rfl).trans (show vs 3 = vI x from hI.1 3 (hp 3 (by decide)))
          have s36 : ac.tmps[36]?.getD undef = .int .i64 (t.size : Int) := by rw [hb]; exact (show _ = vs 7 by kernel_rfl).trans (show vs 7 = .int .i64 (t.size : Int) from hI.1 7 (hp 7 (by decide)))
          rw [if_pos (AnyO.wanted_none rfl)]
          clear hb hp hC
          clear h0
          go_simp
          exact hK _ _ (AnyO.InvS.pure hI (Hne.out 8 (by decide)) rfl (Below.refl _ _))
        · -- 9: Op.store 32 (Operand.tmp 2) (Operand.tmp 29)
          refine AnyO.StepI.mk rfl [0, 0] (by kernel_rfl) ?_
          intro D vs u hI h0 hC hp ac hb K hK
          have s2 : ac.tmps[2]?.getD undef = .pointer (some ⟨b2, 0, none⟩) := by rw [hb]; kernel_rfl
          have s29 : ac.tmps[29]?.getD undef = vR r1 := by rw [hb]; exact (show _ = vs 0 by kernel_rfl).trans (show vs 0 = vR r1 from hI.1 0 (hp 0 (by decide)))
          rw [if_pos (AnyO.wanted_none rfl)]
          clear hb hp hC
          have rr0 : Row u (b2) (cR zR) 32 := by have := hI.2.2.2 _ Hm9.out; simpa [h0] using this
          have rr := rr0.rok (cR_length zR)
          clear h0
          go_simp
          refine hK undef _ ?_
          refine AnyO.InvS.store hI Hm9.out rfl trivial ?_ ?_ ?_ ?_
          · exact rr0.setRow
          · exact (fun k hk => heap_setRow_other u _ k _ hk)
          · exact ⟨rfl, rfl, rfl, Nat.le_of_eq (by simp [World.setRow])⟩
          · exact Hd9.out
        · -- 10: Op.store 55 (Operand.tmp 3) (Operand.tmp 37)
          refine AnyO.StepI.mk rfl [8, 9, 0, 1, 2, 3, 4, 5, 6, 7, 8, 9] (by kernel_rfl) ?_
          intro D vs u hI h0 hC hp ac hb K hK
          have s3 : ac.tmps[3]?.getD undef = .pointer (some ⟨b3, 0, none⟩) := by rw [hb]; kernel_rfl
          have s37 : ac.tmps[37]?.getD undef = vK ⟨2, (t.size : Int), 0, 0, x, ⟨#[]⟩⟩ := by rw [hb]; exact (show _ = vs 8 by kernel_rfl).trans (show vs 8 = vK ⟨2, (t.size : Int), 0, 0, x, ⟨#[]⟩⟩ from hI.1 8 (hp 8 (by decide)))
          rw [if_pos (AnyO.wanted_none rfl)]
          clear hb hp hC
          have rr0 : Row u (b3) (cK zK) 55 := by have := hI.2.2.2 _ Hm10.out; simpa [h0] using this
          have rr := rr0.rok (cK_length zK)
          clear h0
          go_simp
          refine hK undef _ ?_
          refine AnyO.InvS.store hI Hm10.out rfl trivial ?_ ?_ ?_ ?_
          · exact rr0.setRow
          · exact (fun k hk => heap_setRow_other u _ k _ hk)
          · exact ⟨rfl, rfl, rfl, Nat.le_of_eq (by simp [World.setRow])⟩
          · exact Hd10.out
        · -- 11: Op.assign (Operand.const (Value.bool true))
          refine AnyO.StepI.mk rfl [10, 0, 1, 2, 3, 4, 5, 6, 7, 8, 9, 10] (by kernel_rfl) ?_
          intro D vs u hI h0 hC hp ac hb K hK
          rw [if_pos (AnyO.wanted_none rfl)]
          clear hb hp hC
          clear h0
          go_simp
          exact hK _ _ (AnyO.InvS.pure hI (Hne.out 11 (by decide)) rfl (Below.refl _ _))
      · intro D vs u hI hD
        have e0 : vs 0 = vR r1 := hI.1 0 (hD 0 (by decide))
        have e1 : vs 1 = .pointer (some ⟨w.heap.size, 3, none⟩) := hI.1 1 (hD 1 (by decide))
        have e2 : vs 2 = .pointer (some ⟨w.heap.size, 3, none⟩) := hI.1 2 (hD 2 (by decide))
        have e3 : vs 3 = vI x := hI.1 3 (hD 3 (by decide))
        have e4 : vs 4 = .pointer (some ⟨w.heap.size, 3, none⟩) := hI.1 4 (hD 4 (by decide))
        have e5 : vs 5 = .pointer (some ⟨w.heap.size, 35, none⟩) := hI.1 5 (hD 5 (by decide))
        have e6 : vs 6 = .string t := hI.1 6 (hD 6 (by decide))
        have e7 : vs 7 = .int .i64 (t.size : Int) := hI.1 7 (hD 7 (by decide))
        have e8 : vs 8 = vK ⟨2, (t.size : Int), 0, 0, x, ⟨#[]⟩⟩ := hI.1 8 (hD 8 (by decide))
        have e11 : vs 11 = Value.bool true := hI.1 11 (hD 11 (by decide))
        have q9 : Row u (b2) (cR r1) 32 := by have := hI.2.2.2 _ Hm9.out; simpa [hD 9 (by decide)] using this
        have q10 : Row u (b3) (cK ⟨2, (t.size : Int), 0, 0, x, ⟨#[]⟩⟩) 55 := by have := hI.2.2.2 _ Hm10.out; simpa [hD 10 (by decide)] using this
        have HI := Lib.hid hI
        clear hI hD
        rw [puts_range [some 29, some 30, some 31, some 32, some 33, some 34, some 35, some 36, some 37, none, none, some 4] (by kernel_rfl)]
        simp only [putL, Nat.reduceAdd, e0, e1, e2, e3, e4, e5, e6, e7, e8, e11]
        clear e0 e1 e2 e3 e4 e5 e6 e7 e8 e11
        go_simp
        go_wp2
        have hbw := AnyO.InvS.below HI.out Hbs.out (Nat.le_of_lt HQ.out.1.lt) HQ.out.2.2.2
        have hX := HX.out.1.keep hbw
        have ho2 : Own _ W3.heap.size 28 33 cA (.slice A2 n2 c2) rest := HF.out.1
        have ho3 := Own.same (w' := u) ho2 fun j e => (HI.out.2.2.1 j (Nat.lt_of_lt_of_le (ho2.lt j e).2 (HZ.out.2.2 0 (Nat.zero_le _)).size) (fun x hx e2 => by have h1 := Hus.out x hx; have h2 := (ho2.lt j e).1; omega)).trans (HZ.out.2.1 j (by have h2 := (ho2.lt j e).1; omega))
        have hra : RefAt F ch ⟨rest, 1, (x, t), s.outs, none⟩ r1 u := by
          subst hr1
          exact ⟨hX.ch, rfl, rfl, rfl, SlF.own ho3 (fun j hj => Nat.lt_of_lt_of_le (HX.out.2.1 j hj) HR.out.2.2.size), hX.os⟩
        clear hX hr1 ho2 ho3
        exact bodyPost_ret (v := .tuple #[vR r1, vK ⟨2, (t.size : Int), 0, 0, x, ⟨#[]⟩⟩, .bool true]) (results_cct (ad := ⟨b2, 0, none⟩) (ad2 := ⟨b3, 0, none⟩) rfl rfl (load_R q9) rfl (load_K q10) rfl) rfl ⟨r1, rfl, hra, hbw⟩

  · rw [if_neg hc1] at hcut
    rw [show Option.map (fun x : Addr => x.add (1 * 33)) (some ad) = some ⟨ad.block, ad.off + 33, none⟩ from rfl] at hcut
    have HSL := Lib.hid (And.intro hcut (And.intro trivial (And.intro hm2 (And.intro hn hn))))
    clear hcut hm2 hn
    go_enter Tryd.func23, Tryd.ntmps23
    go_wp2
    refine AnyO.wp_any_tail 10 (by kernel_rfl) (by kernel_rfl) (by kernel_rfl) (by kernel_rfl) (by kernel_rfl) (by kernel_rfl) (pstP [isV (.pointer (some ⟨w.heap.size, 36, none⟩)), isV (.slice (some ad) (n + 1) c), isV (.pointer (some ad)), isV (vA (x, t)), isOwn0G (α := Art) W3.heap.size 28 33 cA, isV (.pointer (some ⟨w.heap.size, 36, none⟩)), isV (.slice (some ad) (n + 1) c), isV (.slice (some ⟨ad.block, ad.off + 33, none⟩) n (c - 1)), isOwnG W3.heap.size 28 33 cA rest, isV (.pointer (some ⟨w.heap.size, 3, none⟩))]) (MonoL.cons (Mono.v _) (MonoL.cons (Mono.v _) (MonoL.cons (Mono.v _) (MonoL.cons (Mono.v _) (MonoL.cons (Mono.own0G _ _ _ _) (MonoL.cons (Mono.v _) (MonoL.cons (Mono.v _) (MonoL.cons (Mono.v _) (MonoL.cons (Mono.ownG _ _ _ _ _) (MonoL.cons (Mono.v _) MonoL.nil)))))))))) ?_ ?_
    · intro i hi
      have hi2 : i = 0 ∨ i = 1 ∨ i = 2 ∨ i = 3 ∨ i = 4 ∨ i = 5 ∨ i = 6 ∨ i = 7 ∨ i = 8 ∨ i = 9 := by omega
      clear hi
      rcases hi2 with rfl | rfl | rfl | rfl | rfl | rfl | rfl | rfl | rfl | rfl
      · -- 0: Op.fieldAddr 32 (Operand.tmp 1) 4
        refine AnyO.Step.mk rfl [] (by kernel_rfl) ?_
        intro vs u hE hp ac hb K hK
        have s1 : ac.tmps[1]?.getD undef = .pointer (some ⟨w.heap.size, 0, none⟩) := by rw [hb]; kernel_rfl
        rw [if_pos (AnyO.wanted_none rfl)]
        clear hb hp
        go_simp
        exact hK _ _ (Below.refl _ _) rfl
      · -- 1: Op.load 29 (Operand.tmp 16)
        refine AnyO.Step.mk rfl [0] (by kernel_rfl) ?_
        intro vs u hE hp ac hb K hK
        have s16 : ac.tmps[16]?.getD undef = .pointer (some ⟨w.heap.size, 36, none⟩) := by rw [hb]; exact (show _ = vs 0 by kernel_rfl).trans (hp 0 (by decide))
        rw [if_pos (AnyO.wanted_none rfl)]
        clear hb hp
        have rr := cell_below c36 (Below.step (below_drew _) hE)
        go_simp
        exact hK _ _ (Below.refl _ _) rfl
      · -- 2: Op.indexAddr 29 (Operand.tmp 17) (Operand.const (Value.int I
        refine AnyO.Step.mk rfl [1] (by kernel_rfl) ?_
        intro vs u hE hp ac hb K hK
        have s17 : ac.tmps[17]?.getD undef = .slice (some ad) (n + 1) c := by rw [hb]; exact (show _ = vs 1 by kernel_rfl).trans (hp 1 (by decide))
        rw [if_pos (AnyO.wanted_none rfl)]
        clear hb hp
        go_simp
        exact hK _ _ (Below.refl _ _) rfl
      · -- 3: Op.load 28 (Operand.tmp 18)
        refine AnyO.Step.mk rfl [2] (by kernel_rfl) ?_
        intro vs u hE hp ac hb K hK
        have s18 : ac.tmps[18]?.getD undef = .pointer (some ad) := by rw [hb]; exact (show _ = vs 2 by kernel_rfl).trans (hp 2 (by decide))
        rw [if_pos (AnyO.wanted_none rfl)]
        clear hb hp
        have rr := okA_below cA1 hadlt (Below.step (below_drew _) hE)
        rw [cA1'] at rr
        obtain ⟨rr1, rr2⟩ := rr
        go_simp
        exact hK _ _ (Below.refl _ _) rfl
      · -- 4: Op.buildSlice 29 0 #[]
        refine AnyO.Step.mk rfl [] (by kernel_rfl) ?_
        intro vs u hE hp ac hb K hK
        rw [if_pos (AnyO.wanted_none rfl)]
        clear hb hp
        go_simp
        exact hK _ _ (below_alloc _ _) ⟨_, rfl, Own.new0 u W3.heap.size 28 33 cA cA_length hE.size⟩
      · -- 5: Op.fieldAddr 32 (Operand.tmp 1) 4
        refine AnyO.Step.mk rfl [] (by kernel_rfl) ?_
        intro vs u hE hp ac hb K hK
        have s1 : ac.tmps[1]?.getD undef = .pointer (some ⟨w.heap.size, 0, none⟩) := by rw [hb]; kernel_rfl
        rw [if_pos (AnyO.wanted_none rfl)]
        clear hb hp
        go_simp
        exact hK _ _ (Below.refl _ _) rfl
      · -- 6: Op.load 29 (Operand.tmp 21)
        refine AnyO.Step.mk rfl [5] (by kernel_rfl) ?_
        intro vs u hE hp ac hb K hK
        have s21 : ac.tmps[21]?.getD undef = .pointer (some ⟨w.heap.size, 36, none⟩) := by rw [hb]; exact (show _ = vs 5 by kernel_rfl).trans (hp 5 (by decide))
        rw [if_pos (AnyO.wanted_none rfl)]
        clear hb hp
        have rr := cell_below c36 (Below.step (below_drew _) hE)
        go_simp
        exact hK _ _ (Below.refl _ _) rfl
      · -- 7: Op.slice 29 (Operand.tmp 22) (some (Operand.const (Value.int
        refine AnyO.Step.mk rfl [6] (by kernel_rfl) ?_
        intro vs u hE hp ac hb K hK
        have s22 : ac.tmps[22]?.getD undef = .slice (some ad) (n + 1) c := by rw [hb]; exact (show _ = vs 6 by kernel_rfl).trans (hp 6 (by decide))
        rw [if_pos (AnyO.wanted_none rfl)]
        clear hb hp
        have rr := (show (1 : Int) ≤ (n : Int) + 1 by omega)
        go_simp
        exact hK _ _ (Below.refl _ _) rfl
      · -- 8: Op.call { callee := Callee.builtin Builtin.append, args := #
        refine AnyO.Step.mk rfl [4, 7] (by kernel_rfl) ?_
        intro vs u hE hp ac hb K hK
        obtain ⟨g20, e20, h20⟩ := hp 4 (by decide)
        have s20 : ac.tmps[20]?.getD undef = .slice (some ⟨g20, 0, none⟩) 0 0 := by rw [hb]; exact (show _ = vs 4 by kernel_rfl).trans e20
        clear e20
        have s23 : ac.tmps[23]?.getD undef = .slice (some ⟨ad.block, ad.off + 33, none⟩) n (c - 1) := by rw [hb]; exact (show _ = vs 7 by kernel_rfl).trans (hp 7 (by decide))
        rw [if_pos (AnyO.wanted_none rfl)]
        clear hb hp
        refine wp_append_fresh u (.tmp 20) (.tmp 23) 29 rfl W3.heap.size 28 33 48 cA Tryd.underlying29 row28 (by decide) cA_length g20 (ev_tmp s20) h20 _ _ _ rest HSL.out.2.2.2.1 (ev_tmp s23) ((HSL.out.1.keep HR.out.2.2).keep (Below.step (below_drew _) hE)) (by have := HSL.out.2.2.1; have := HSL.out.2.2.2.1; omega) (by have := HSL.out.2.2.1; have := HSL.out.2.2.2.1; omega) hE.size ?_
        exact fun v w2 h1 h2 => hK _ _ h2 h1
      · -- 9: Op.fieldAddr 32 (Operand.tmp 1) 3
        refine AnyO.Step.mk rfl [0, 1, 2, 3, 5, 6] (by kernel_rfl) ?_
        intro vs u hE hp ac hb K hK
        have s1 : ac.tmps[1]?.getD undef = .pointer (some ⟨w.heap.size, 0, none⟩) := by rw [hb]; kernel_rfl
        rw [if_pos (AnyO.wanted_none rfl)]
        clear hb hp
        go_simp
        exact hK _ _ (Below.refl _ _) rfl
    · intro vs u hE hp
      have e0 : vs 0 = .pointer (some ⟨w.heap.size, 36, none⟩) := hp 0 (by decide)
      have e1 : vs 1 = .slice (some ad) (n + 1) c := hp 1 (by decide)
      have e2 : vs 2 = .pointer (some ad) := hp 2 (by decide)
      have e3 : vs 3 = vA (x, t) := hp 3 (by decide)
      obtain ⟨g_4, e4, h_4⟩ := show isOwn0G (α := Art) W3.heap.size 28 33 cA (vs 4) u from hp 4 (by decide)
      have e5 : vs 5 = .pointer (some ⟨w.heap.size, 36, none⟩) := hp 5 (by decide)
      have e6 : vs 6 = .slice (some ad) (n + 1) c := hp 6 (by decide)
      have e7 : vs 7 = .slice (some ⟨ad.block, ad.off + 33, none⟩) n (c - 1) := hp 7 (by decide)
      have f8 : isOwnG W3.heap.size 28 33 cA rest (vs 8) u := hp 8 (by decide)
      have e9 : vs 9 = .pointer (some ⟨w.heap.size, 3, none⟩) := hp 9 (by decide)
      clear hp
      have HF := Lib.hid (And.intro f8 hE)
      clear f8 hE
      rw [puts_range [some 16, some 17, some 18, some 19, some 20, some 21, some 22, some 23, some 24, some 25] (by kernel_rfl)]
      simp only [putL, Nat.reduceAdd, List.drop_succ_cons, List.drop_zero, e0, e1, e2, e3, e4, e5, e6, e7, e9]
      clear e0 e1 e2 e3 e4 e5 e6 e7 e9
      go_simp
      obtain ⟨v8, hv8⟩ : ∃ v, vs 8 = v := ⟨_, rfl⟩
      rw [hv8] at HF ⊢
      obtain ⟨A2, n2, c2, rfl⟩ : ∃ A2 n2 c2, v8 = .slice A2 n2 c2 := by obtain ⟨A2, c2, e, _⟩ := Own.sl (show Own u W3.heap.size 28 33 cA v8 rest from HF.out.1); exact ⟨A2, _, c2, e⟩
      clear hv8
      obtain ⟨j0, ⟨j1, j2⟩, ⟨j3, j4⟩, ⟨j5, j6⟩, z1, z2, z3⟩ := roff_facts (HR.out.1.keep HF.out.2) (x, t) A2 n2 c2 _ _ _ _ rfl rfl rfl rfl
      have HZ := Lib.hid (And.intro z1 (And.intro z2 z3))
      clear z1 z2 z3
      go_wp2
      generalize ((((stD u w.heap.size 3 (cA (x, t))).setCell ⟨w.heap.size, 36, none⟩ (.slice A2 n2 c2)).setCell ⟨w.heap.size, 1, none⟩ (.int .i64 1)).setCell ⟨w.heap.size, 2, none⟩ (.int .i64 0)) = U at HZ ⊢
      clear j0 j1 j2 j3 j4 j5 j6 c36 cA1 cA1' c1 hW
      obtain ⟨r1, hr1⟩ : ∃ r1 : Rs, { r with st := 1, at_ := 0, cur := (x, t), w := (A2, n2, c2) } = r1 := ⟨_, rfl⟩
      rw [hr1] at HZ
      have HXI := Lib.hid (And.intro (show r1.cur.1 = x by rw [← hr1]) (show r1.cur.2 = t by rw [← hr1]))
      have hbU := (HR.out.2.2.trans (HF.out.2.mono HR.out.2.2.size)).trans (HZ.out.2.2 w.heap.size (Nat.le_refl _))
      have HQ := Lib.hid (And.intro HZ.out.1 (And.intro ((HR.out.2.1.1.keep HF.out.2).same (HZ.out.2.1 (w.heap.size + 1) (by omega))) (And.intro ((HR.out.2.1.2.keep HF.out.2).same (HZ.out.2.1 (w.heap.size + 1 + 1) (by omega))) hbU)))
      have hB4 : w.heap.size + 1 + 1 < W3.heap.size := HR.out.2.1.2.lt
      obtain ⟨b3, hb3⟩ : ∃ b3, b3 = w.heap.size + 1 + 1 := ⟨_, rfl⟩
      obtain ⟨b2, hb2⟩ : ∃ b2, b2 = w.heap.size + 1 := ⟨_, rfl⟩
      have hB2 : w.heap.size < b2 := by omega
      have hB3 : b2 < b3 := by omega
      rw [← hb3] at hB4
      rw [← hb3, ← hb2] at HQ ⊢
      clear hb2 hb3 hbU
      obtain ⟨S, hS⟩ : ∃ S : List AnyO.Sto, S = [(9, b2, 32, cR zR, cR r1), (10, b3, 55, cK zK, cK ⟨2, (t.size : Int), 0, 0, x, ⟨#[]⟩⟩)] := ⟨_, rfl⟩
      have hm9 : ((9, b2, 32, cR zR, cR r1) : AnyO.Sto) ∈ S := by rw [hS]; simp
      have hm10 : ((10, b3, 55, cK zK, cK ⟨2, (t.size : Int), 0, 0, x, ⟨#[]⟩⟩) : AnyO.Sto) ∈ S := by rw [hS]; simp
      have hst : ∀ x ∈ S, Row U x.2.1 x.2.2.2.1 x.2.2.1 := fun x hx => by rw [hS] at hx; simp only [List.mem_cons, List.not_mem_nil, or_false] at hx; rcases hx with rfl | rfl <;> first | exact HQ.out.2.1 | exact HQ.out.2.2.1
      have hbs : ∀ x ∈ S, w.heap.size ≤ x.2.1 := fun x hx => by rw [hS] at hx; simp only [List.mem_cons, List.not_mem_nil, or_false] at hx; rcases hx with rfl | rfl <;> (dsimp only; omega)
      have hne : ∀ i, i ≠ 9 ∧ i ≠ 10 → ∀ x ∈ S, x.1 ≠ i := fun i hi x hx => by rw [hS] at hx; simp only [List.mem_cons, List.not_mem_nil, or_false] at hx; rcases hx with rfl | rfl <;> (dsimp only; omega)
      have hd9 : ∀ y ∈ S, y ≠ (9, b2, 32, cR zR, cR r1) → y.2.1 ≠ b2 ∧ y.1 ≠ 9 := fun y hy hn => by rw [hS] at hy; simp only [List.mem_cons, List.not_mem_nil, or_false] at hy; rcases hy with rfl | rfl <;> first | exact absurd rfl hn | exact ⟨by dsimp only; omega, by dsimp only; omega⟩
      have hd10 : ∀ y ∈ S, y ≠ (10, b3, 55, cK zK, cK ⟨2, (t.size : Int), 0, 0, x, ⟨#[]⟩⟩) → y.2.1 ≠ b3 ∧ y.1 ≠ 10 := fun y hy hn => by rw [hS] at hy; simp only [List.mem_cons, List.not_mem_nil, or_false] at hy; rcases hy with rfl | rfl <;> first | exact absurd rfl hn | exact ⟨by dsimp only; omega, by dsimp only; omega⟩
      have hus : ∀ x ∈ S, x.2.1 < W3.heap.size := fun x hx => by rw [hS] at hx; simp only [List.mem_cons, List.not_mem_nil, or_false] at hx; rcases hx with rfl | rfl <;> (dsimp only; omega)
      have hr0 : ∀ x ∈ S, w.heap.size ≠ x.2.1 := fun x hx => by rw [hS] at hx; simp only [List.mem_cons, List.not_mem_nil, or_false] at hx; rcases hx with rfl | rfl <;> (dsimp only; omega)
      have Hm9 := Lib.hid hm9
      have Hm10 := Lib.hid hm10
      have Hd9 := Lib.hid hd9
      have Hd10 := Lib.hid hd10
      have Hne := Lib.hid hne
      have Hbs := Lib.hid hbs
      have Hst := Lib.hid hst
      have Hus := Lib.hid hus
      have Hr0 := Lib.hid hr0
      clear hS hm9 hm10 hd9 hd10 hne hbs hst hus hr0
      refine AnyO.wp_anyI (by kernel_rfl) (by kernel_rfl) (AnyO.InvS (AnyO.pvL [some (vR r1), some (.pointer (some ⟨w.heap.size, 3, none⟩)), some (.pointer (some ⟨w.heap.size, 3, none⟩)), some (vI x), some (.pointer (some ⟨w.heap.size, 3, none⟩)), some (.pointer (some ⟨w.heap.size, 35, none⟩)), some (.string t), some (.int .i64 (t.size : Int)), some (vK ⟨2, (t.size : Int), 0, 0, x, ⟨#[]⟩⟩), none, none, some (Value.bool true)]) U S) (AnyO.InvS.start Hst.out) ?_ ?_
      · intro i hi
        have hi2 : i = 0 ∨ i = 1 ∨ i = 2 ∨ i = 3 ∨ i = 4 ∨ i = 5 ∨ i = 6 ∨ i = 7 ∨ i = 8 ∨ i = 9 ∨ i = 10 ∨ i = 11 := by simp only [List.size_toArray, List.length_cons, List.length_nil] at hi; omega
        clear hi
        rcases hi2 with rfl | rfl | rfl | rfl | rfl | rfl | rfl | rfl | rfl | rfl | rfl | rfl
        · -- 0: Op.load 32 (Operand.tmp 1)
          refine AnyO.StepI.mk rfl [] (by kernel_rfl) ?_
          intro D vs u hI h0 hC hp ac hb K hK
          have s1 : ac.tmps[1]?.getD undef = .pointer (some ⟨w.heap.size, 0, none⟩) := by rw [hb]; kernel_rfl
          rw [if_pos (AnyO.wanted_none rfl)]
          clear hb hp hC
          have RR := AnyO.InvS.row hI HQ.out.1 Hr0.out
          obtain ⟨rr1, rr2⟩ := RR.okw (cR_length _)
          change rdA _ _ _ = vR r1 at rr2
          clear RR
          clear h0
          go_simp
          exact hK _ _ (AnyO.InvS.pure hI (Hne.out 0 (by decide)) rfl (Below.refl _ _))
        · -- 1: Op.fieldAddr 32 (Operand.tmp 1) 3
          refine AnyO.StepI.mk rfl [] (by kernel_rfl) ?_
          intro D vs u hI h0 hC hp ac hb K hK
          have s1 : ac.tmps[1]?.getD undef = .pointer (some ⟨w.heap.size, 0, none⟩) := by rw [hb]; kernel_rfl
          rw [if_pos (AnyO.wanted_none rfl)]
          clear hb hp hC
          clear h0
          go_simp
          exact hK _ _ (AnyO.InvS.pure hI (Hne.out 1 (by decide)) rfl (Below.refl _ _))
        · -- 2: Op.fieldAddr 28 (Operand.tmp 30) 0
          refine AnyO.StepI.mk rfl [1] (by kernel_rfl) ?_
          intro D vs u hI h0 hC hp ac hb K hK
          have s30 : ac.tmps[30]?.getD undef = .pointer (some ⟨w.heap.size, 3, none⟩) := by rw [hb]; exact (show _ = vs 1 by kernel_rfl).trans (show vs 1 = .pointer (some ⟨w.heap.size, 3, none⟩) from hI.1 1 (hp 1 (by decide)))
          rw [if_pos (AnyO.wanted_none rfl)]
          clear hb hp hC
          clear h0
          go_simp
          exact hK _ _ (AnyO.InvS.pure hI (Hne.out 2 (by decide)) rfl (Below.refl _ _))
        · -- 3: Op.load 22 (Operand.tmp 31)
          refine AnyO.StepI.mk rfl [2] (by kernel_rfl) ?_
          intro D vs u hI h0 hC hp ac hb K hK
          have s31 : ac.tmps[31]?.getD undef = .pointer (some ⟨w.heap.size, 3, none⟩) := by rw [hb]; exact (show _ = vs 2 by kernel_rfl).trans (show vs 2 = .pointer (some ⟨w.heap.size, 3, none⟩) from hI.1 2 (hp 2 (by decide)))
          rw [if_pos (AnyO.wanted_none rfl)]
          clear hb hp hC
          have RR := AnyO.InvS.row hI HQ.out.1 Hr0.out
          obtain ⟨_, _, _, ⟨rr1, rr2⟩, _⟩ := row_R RR
          rw [HXI.out.1] at rr2
          clear RR
          clear h0
          go_simp
          exact hK _ _ (AnyO.InvS.pure hI (Hne.out 3 (by decide)) rfl (Below.refl _ _))
        · -- 4: Op.fieldAddr 32 (Operand.tmp 1) 3
          refine AnyO.StepI.mk rfl [] (by kernel_rfl) ?_
          intro D vs u hI h0 hC hp ac hb K hK
          have s1 : ac.tmps[1]?.getD undef = .pointer (some ⟨w.heap.size, 0, none⟩) := by rw [hb]; kernel_rfl
          rw [if_pos (AnyO.wanted_none rfl)]
          clear hb hp hC
          clear h0
          go_simp
          exact hK _ _ (AnyO.InvS.pure hI (Hne.out 4 (by decide)) rfl (Below.refl _ _))
        · -- 5: Op.fieldAddr 28 (Operand.tmp 33) 1
          refine AnyO.StepI.mk rfl [4] (by kernel_rfl) ?_
          intro D vs u hI h0 hC hp ac hb K hK
          have s33 : ac.tmps[33]?.getD undef = .pointer (some ⟨w.heap.size, 3, none⟩) := by rw [hb]; exact (show _ = vs 4 by kernel_rfl).trans (show vs 4 = .pointer (some ⟨w.heap.size, 3, none⟩) from hI.1 4 (hp 4 (by decide)))
          rw [if_pos (AnyO.wanted_none rfl)]
          clear hb hp hC
          clear h0
          go_simp
          exact hK _ _ (AnyO.InvS.pure hI (Hne.out 5 (by decide)) rfl (Below.refl _ _))
        · -- 6: Op.load 9 (Operand.tmp 34)
          refine AnyO.StepI.mk rfl [5] (by kernel_rfl) ?_
          intro D vs u hI h0 hC hp ac hb K hK
          have s34 : ac.tmps[34]?.getD undef = .pointer (some ⟨w.heap.size, 35, none⟩) := by rw [hb]; exact (show _ = vs 5 by kernel_rfl).trans (show vs 5 = .pointer (some ⟨w.heap.size, 35, none⟩) from hI.1 5 (hp 5 (by decide)))
          rw [if_pos (AnyO.wanted_none rfl)]
          clear hb hp hC
          have RR := AnyO.InvS.row hI HQ.out.1 Hr0.out
          obtain ⟨_, _, _, _, _, rr1, _⟩ := row_R RR
          rw [HXI.out.2] at rr1
          clear RR
          clear h0
          go_simp
          exact hK _ _ (AnyO.InvS.pure hI (Hne.out 6 (by decide)) rfl (Below.refl _ _))
        · -- 7: Op.call { callee := Callee.builtin Builtin.len, args := #[Op
          refine AnyO.StepI.mk rfl [6] (by kernel_rfl) ?_
          intro D vs u hI h0 hC hp ac hb K hK
          have s35 : ac.tmps[35]?.getD undef = .string t := by rw [hb]; exact (show _ = vs 6 by kernel_rfl).trans (show vs 6 = .string t from hI.1 6 (hp 6 (by decide)))
          rw [if_pos (AnyO.wanted_none rfl)]
          clear hb hp hC
          clear h0
          go_simp
          exact hK _ _ (AnyO.InvS.pure hI (Hne.out 7 (by decide)) rfl (Below.refl _ _))
        · -- 8: Op.build 55 #[(0, Operand.const (Value.int IntKind.i64 2)), 
          refine AnyO.StepI.mk rfl [3, 7] (by kernel_rfl) ?_
          intro D vs u hI h0 hC hp ac hb K hK
          have s32 : ac.tmps[32]?.getD undef = vI x := by rw [hb]; exact (show _ = vs 3 by kernel_rfl).trans (show vs 3 = vI x from hI.1 3 (hp 3 (by decide)))
          have s36 : ac.tmps[36]?.getD undef = .int .i64 (t.size : Int) := by rw [hb]; exact (show _ = vs 7 by kernel_rfl).trans (show vs 7 = .int .i64 (t.size : Int) from hI.1 7 (hp 7 (by decide)))
          rw [if_pos (AnyO.wanted_none rfl)]
          clear hb hp hC
          clear h0
          go_simp
          exact hK _ _ (AnyO.InvS.pure hI (Hne.out 8 (by decide)) rfl (Below.refl _ _))
        · -- 9: Op.store 32 (Operand.tmp 2) (Operand.tmp 29)
          refine AnyO.StepI.mk rfl [0, 0] (by kernel_rfl) ?_
          intro D vs u hI h0 hC hp ac hb K hK
          have s2 : ac.tmps[2]?.getD undef = .pointer (some ⟨b2, 0, none⟩) := by rw [hb]; kernel_rfl
          have s29 : ac.tmps[29]?.getD undef = vR r1 := by rw [hb]; exact (show _ = vs 0 by kernel_rfl).trans (show vs 0 = vR r1 from hI.1 0 (hp 0 (by decide)))
          rw [if_pos (AnyO.wanted_none rfl)]
          clear hb hp hC
          have rr0 : Row u (b2) (cR zR) 32 := by have := hI.2.2.2 _ Hm9.out; simpa [h0] using this
          have rr := rr0.rok (cR_length zR)
          clear h0
          go_simp
          refine hK undef _ ?_
          refine AnyO.InvS.store hI Hm9.out rfl trivial ?_ ?_ ?_ ?_
          · exact rr0.setRow
          · exact (fun k hk => heap_setRow_other u _ k _ hk)
          · exact ⟨rfl, rfl, rfl, Nat.le_of_eq (by simp [World.setRow])⟩
          · exact Hd9.out
        · -- 10: Op.store 55 (Operand.tmp 3) (Operand.tmp 37)
          refine AnyO.StepI.mk rfl [8, 9, 0, 1, 2, 3, 4, 5, 6, 7, 8, 9] (by kernel_rfl) ?_
          intro D vs u hI h0 hC hp ac hb K hK
          have s3 : ac.tmps[3]?.getD undef = .pointer (some ⟨b3, 0, none⟩) := by rw [hb]; kernel_rfl
          have s37 : ac.tmps[37]?.getD undef = vK ⟨2, (t.size : Int), 0, 0, x, ⟨#[]⟩⟩ := by rw [hb]; exact (show _ = vs 8 by kernel_rfl).trans (show vs 8 = vK ⟨2, (t.size : Int), 0, 0, x, ⟨#[]⟩⟩ from hI.1 8 (hp 8 (by decide)))
          rw [if_pos (AnyO.wanted_none rfl)]
          clear hb hp hC
          have rr0 : Row u (b3) (cK zK) 55 := by have := hI.2.2.2 _ Hm10.out; simpa [h0] using this
          have rr := rr0.rok (cK_length zK)
          clear h0
          go_simp
          refine hK undef _ ?_
          refine AnyO.InvS.store hI Hm10.out rfl trivial ?_ ?_ ?_ ?_
          · exact rr0.setRow
          · exact (fun k hk => heap_setRow_other u _ k _ hk)
          · exact ⟨rfl, rfl, rfl, Nat.le_of_eq (by simp [World.setRow])⟩
          · exact Hd10.out
        · -- 11: Op.assign (Operand.const (Value.bool true))
          refine AnyO.StepI.mk rfl [10, 0, 1, 2, 3, 4, 5, 6, 7, 8, 9, 10] (by kernel_rfl) ?_
          intro D vs u hI h0 hC hp ac hb K hK
          rw [if_pos (AnyO.wanted_none rfl)]
          clear hb hp hC
          clear h0
          go_simp
          exact hK _ _ (AnyO.InvS.pure hI (Hne.out 11 (by decide)) rfl (Below.refl _ _))
      · intro D vs u hI hD
        have e0 : vs 0 = vR r1 := hI.1 0 (hD 0 (by decide))
        have e1 : vs 1 = .pointer (some ⟨w.heap.size, 3, none⟩) := hI.1 1 (hD 1 (by decide))
        have e2 : vs 2 = .pointer (some ⟨w.heap.size, 3, none⟩) := hI.1 2 (hD 2 (by decide))
        have e3 : vs 3 = vI x := hI.1 3 (hD 3 (by decide))
        have e4 : vs 4 = .pointer (some ⟨w.heap.size, 3, none⟩) := hI.1 4 (hD 4 (by decide))
        have e5 : vs 5 = .pointer (some ⟨w.heap.size, 35, none⟩) := hI.1 5 (hD 5 (by decide))
        have e6 : vs 6 = .string t := hI.1 6 (hD 6 (by decide))
        have e7 : vs 7 = .int .i64 (t.size : Int) := hI.1 7 (hD 7 (by decide))
        have e8 : vs 8 = vK ⟨2, (t.size : Int), 0, 0, x, ⟨#[]⟩⟩ := hI.1 8 (hD 8 (by decide))
        have e11 : vs 11 = Value.bool true := hI.1 11 (hD 11 (by decide))
        have q9 : Row u (b2) (cR r1) 32 := by have := hI.2.2.2 _ Hm9.out; simpa [hD 9 (by decide)] using this
        have q10 : Row u (b3) (cK ⟨2, (t.size : Int), 0, 0, x, ⟨#[]⟩⟩) 55 := by have := hI.2.2.2 _ Hm10.out; simpa [hD 10 (by decide)] using this
        have HI := Lib.hid hI
        clear hI hD
        rw [puts_range [some 29, some 30, some 31, some 32, some 33, some 34, some 35, some 36, some 37, none, none, some 4] (by kernel_rfl)]
        simp only [putL, Nat.reduceAdd, e0, e1, e2, e3, e4, e5, e6, e7, e8, e11]
        clear e0 e1 e2 e3 e4 e5 e6 e7 e8 e11
        go_simp
        go_wp2
        have hbw := AnyO.InvS.below HI.out Hbs.out (Nat.le_of_lt HQ.out.1.lt) HQ.out.2.2.2
        have hX := HX.out.1.keep hbw
        have ho2 : Own _ W3.heap.size 28 33 cA (.slice A2 n2 c2) rest := HF.out.1
        have ho3 := Own.same (w' := u) ho2 fun j e => (HI.out.2.2.1 j (Nat.lt_of_lt_of_le (ho2.lt j e).2 (HZ.out.2.2 0 (Nat.zero_le _)).size) (fun x hx e2 => by have h1 := Hus.out x hx; have h2 := (ho2.lt j e).1; omega)).trans (HZ.out.2.1 j (by have h2 := (ho2.lt j e).1; omega))
        have hra : RefAt F ch ⟨rest, 1, (x, t), s.outs, none⟩ r1 u := by
          subst hr1
          exact ⟨hX.ch, rfl, rfl, rfl, SlF.own ho3 (fun j hj => Nat.lt_of_lt_of_le (HX.out.2.1 j hj) HR.out.2.2.size), hX.os⟩
        clear hX hr1 ho2 ho3
        exact bodyPost_ret (v := .tuple #[vR r1, vK ⟨2, (t.size : Int), 0, 0, x, ⟨#[]⟩⟩, .bool true]) (results_cct (ad := ⟨b2, 0, none⟩) (ad2 := ⟨b3, 0, none⟩) rfl rfl (load_R q9) rfl (load_K q10) rfl) rfl ⟨r1, rfl, hra, hbw⟩

/-- The reference's Say. -/
theorem refSay23 (F : List Nat) (ch : Int) (s : St) (r : Rs) (w : World) (h : RefAt F ch s r w) (g : Good ch s) (hF : ∀ k ∈ F, k < w.heap.size) : Calls Tryd.prog 23 #[vR r] w (RSayP F ch (sayS ch s).1 (ofS (sayS ch s).2.1) (sayS ch s).2.2 w) := by
  by_cases h0 : s.state = 0
  · cases hw : s.wait with
    | nil =>
      have e : sayS ch s = (s, zC, false) := by unfold sayS; rw [if_pos h0, hw]
      rw [e]
      exact refSay23_none F ch s r w h (by omega) (fun _ => hw)
    | cons a rest =>
      have e : sayS ch s = (⟨rest, 1, a, s.outs, none⟩, offerC a, true) := by unfold sayS; rw [if_pos h0, hw]
      rw [e]
      obtain ⟨x, t⟩ := a
      exact refSay23_offer F ch s r w x t rest h hF h0 hw (by have := g.len; omega)
  · by_cases h2 : s.state = 2
    · obtain ⟨a, ha, ha0, ha1⟩ := g.mid h2
      have hsent : sentS s = a := by unfold sentS; rw [ha]; rfl
      have hc := g.cur h0
      by_cases hd : a = (s.cur.2.size : Int)
      · have e : sayS ch s = ({ s with state := 3, snd := some ((s.cur.2.size : Int), true) }, doneC s.cur.1, true) := by unfold sayS; rw [if_neg h0, if_pos h2, hsent, if_pos hd]
        rw [e]
        exact refSay23_done F ch s r w h h2 (by rw [ha, hd])
      · obtain ⟨an, rfl⟩ : ∃ an : Nat, a = (an : Int) := ⟨a.toNat, by omega⟩
        obtain ⟨nn, hnn⟩ : ∃ nn : Nat, min ((an : Int) + ch) (s.cur.2.size : Int) = (nn : Int) := ⟨(min ((an : Int) + ch) (s.cur.2.size : Int)).toNat, by have := g.c1; omega⟩
        have e : sayS ch s = ({ s with snd := some ((nn : Int), false) }, dataC s.cur.1 s.cur.2 (an : Int) (nn : Int), true) := by unfold sayS; rw [if_neg h0, if_pos h2, hsent, if_neg hd, hnn]
        rw [e]
        exact refSay23_data F ch s r w an nn h h2 ha (by omega) hnn g.c1 g.c2 hc.2.2.1
    · have e : sayS ch s = (s, zC, false) := by unfold sayS; rw [if_neg h0, if_neg h2]
      rw [e]
      exact refSay23_none F ch s r w h h2 (fun h => absurd h h0)
end Go.Proofs.YtlelecnafdddhaaDoor
