/- The reference's Drop. -/
import Derived.Test.YtlelecnafdddhaaDoorNil
namespace Go.Proofs.YtlelecnafdddhaaDoor
open Go.RowKit
theorem cR_set1 (r : Rs) (n : Int) : (cR r).set 1 (.int .i64 n) = cR { r with st := n } := rfl
theorem cR_set2 (r : Rs) (n : Int) : (cR r).set 2 (.int .i64 n) = cR { r with at_ := n } := rfl
theorem cR_putcur (r : Rs) (a : Art) : (cR r).take 3 ++ cA a ++ (cR r).drop 36 = cR { r with cur := a } := by
  unfold cR
  rw [show (36 : Nat) = 33 + 1 + 1 + 1 from rfl, List.drop_succ_cons, List.drop_succ_cons, List.drop_succ_cons, show (33 : Nat) = (cA r.cur).length by rw [cA_length], List.drop_left]
  simp
theorem row_cur {w : World} {b : Nat} {r : Rs} {ty : TypeId} (h : Row w b (cR r) ty) (a : Art) : Row (stD w b 3 (cA a)) b (cR { r with cur := a }) ty := by
  have := h.stD 3 (cA a) (by rw [cA_length, cR_length]; omega)
  rwa [cA_length, cR_putcur] at this
/-- The last stores of Drop and Hear: no state, nothing said, no article. -/
theorem idle_facts {b : Nat} {r : Rs} {ty : TypeId} {w5 : World} (h : Row w5 b (cR r) ty) (U1 U2 U3 : World) (h1 : U1 = w5.setCell ⟨b, 1, none⟩ (.int .i64 0)) (h2 : U2 = U1.setCell ⟨b, 2, none⟩ (.int .i64 0)) (h3 : U3 = stD U2 b 3 (cA zA)) :
    (w5.cell? ⟨b, 1, none⟩ = some (.int .i64 r.st) ∧ w5.frozen? ⟨b, 1, none⟩ = false) ∧ (U1.cell? ⟨b, 2, none⟩ = some (.int .i64 r.at_) ∧ U1.frozen? ⟨b, 2, none⟩ = false) ∧ stOk U2 b 3 33 = true ∧
    (okA U3 ⟨b, 0, none⟩ 38 = true ∧ rdA U3 ⟨b, 0, none⟩ 38 = vR { r with st := 0, at_ := 0, cur := zA }) ∧ Row U3 b (cR { r with st := 0, at_ := 0, cur := zA }) ty ∧ (∀ j, j ≠ b → U3.heap[j]? = w5.heap[j]?) ∧ (∀ B, B ≤ b → Below B w5 U3) := by
  have row1 : Row U1 b (cR { r with st := 0 }) ty := by rw [h1, ← cR_set1]; exact h.set 1 _
  have row2 : Row U2 b (cR { r with st := 0, at_ := 0 }) ty := by rw [h2]; exact row1.set 2 _
  have row3 : Row U3 b (cR { r with st := 0, at_ := 0, cur := zA }) ty := by rw [h3]; exact row_cur row2 zA
  have o1 : ∀ j, j ≠ b → U1.heap[j]? = w5.heap[j]? := fun j hj => by rw [h1]; exact heap_set_other w5 b 1 _ j hj
  have o2 : ∀ j, j ≠ b → U2.heap[j]? = U1.heap[j]? := fun j hj => by rw [h2]; exact heap_set_other U1 b 2 _ j hj
  have o3 : ∀ j, j ≠ b → U3.heap[j]? = U2.heap[j]? := fun j hj => by rw [h3]; exact heap_stD_other U2 b 3 _ j hj
  refine ⟨⟨h.cell 1, h.fz 1⟩, ⟨row1.cell 2, row1.fz 2⟩, Row.ok _ row2 3 33 (by rw [cR_length]; omega), row3.okw (cR_length _), row3, fun j hj => (o3 j hj).trans ((o2 j hj).trans (o1 j hj)), fun B hB => ?_⟩
  subst h3 h2 h1
  exact Below.stD (Below.setCell' (Below.setCell' (Below.refl B w5) hB 1 _) hB 2 _) hB 3 _
def RefP0 (F : List Nat) (ch : Int) (s' : St) (w : World) : Ending → World → Prop := fun e w' => ∃ r', e = .returned (vR r') ∧ RefAt F ch s' r' w' ∧ Below w.heap.size w w'
set_option maxRecDepth 100000 in
set_option maxHeartbeats 1600000 in
theorem refDrop46_idle (F : List Nat) (ch : Int) (s : St) (r : Rs) (w : World) (h : RefAt F ch s r w) (g : Good ch s) (h0 : s.state = 0) : Calls Tryd.prog 46 #[vR r] w (RefP0 F ch s w) := by
  have hst : r.st = 0 := h.st.trans h0
  have hcur : s.cur = zA := g.idle h0
  have hsn : s.snd = none := g.low (Or.inl h0)
  have HX := Lib.hid (And.intro h (And.intro h0 (And.intro hcur hsn)))
  clear h g h0 hcur hsn
  have HW2 : Below w.heap.size w ((w.alloc (.cells (aR r) 32)).alloc (.cells (aR zR) 32)) := Below.step (below_alloc w (.cells (aR r) 32)) (below_alloc (w.alloc (.cells (aR r) 32)) (.cells (aR zR) 32))
  have R1 : Row ((w.alloc (.cells (aR r) 32)).alloc (.cells (aR zR) 32)) w.heap.size (cR r) 32 := (Row.new w (cR r) 32).keep (below_alloc _ _)
  have R2 : Row ((w.alloc (.cells (aR r) 32)).alloc (.cells (aR zR) 32)) (w.heap.size + 1) (cR zR) 32 := by
    have h := Row.new (w.alloc (.cells (aR r) 32)) (cR zR) 32
    rwa [show (w.alloc (.cells (aR r) 32)).heap.size = w.heap.size + 1 by simp] at h
  obtain ⟨W2, hW⟩ : ∃ W2, (w.alloc (.cells (aR r) 32)).alloc (.cells (aR zR) 32) = W2 := ⟨_, rfl⟩
  rw [hW] at HW2 R1 R2
  have r1 := R1.cell 1
  rw [show (cR r)[1]? = some (.int .i64 r.st) from rfl, hst] at r1
  obtain ⟨⟨_, i2⟩, ⟨i3, i4⟩, i5, ⟨i6, i7⟩, z1, z2, z3⟩ := idle_facts R1 _ _ _ rfl rfl rfl
  have j1 := ((R2.same (z2 (w.heap.size + 1) (by omega))).rok (cR_length zR))
  have j2 := R2.same (z2 (w.heap.size + 1) (by omega))
  have HZ := Lib.hid (And.intro z1 (And.intro (z3 w.heap.size (Nat.le_refl _)) (And.intro HW2 j2)))
  clear z1 z2 z3 HW2 R1 R2 hst j2
  go_enter Tryd.func46, Tryd.ntmps46
  go_wp2
  have hf := Below.setRow' (HZ.out.2.2.1.trans HZ.out.2.1) (Nat.le_succ w.heap.size) (aR { r with st := 0, at_ := 0, cur := zA })
  have hX := HX.out.1.keep hf
  exact bodyPost_ret (v := vR { r with st := 0, at_ := 0, cur := zA }) (results_c1 (ad := ⟨w.heap.size + 1, 0, none⟩) rfl rfl (load_R HZ.out.2.2.2.setRow)) rfl ⟨_, rfl, ⟨hX.ch, HX.out.2.1.symm, HX.out.2.2.1.symm, by rw [HX.out.2.2.2]; rfl, hX.ws, hX.os⟩, hf⟩
set_option maxRecDepth 100000 in
set_option maxHeartbeats 1600000 in
theorem refDrop46_go (F : List Nat) (ch : Int) (s : St) (r : Rs) (w : World) (h : RefAt F ch s r w) (hF : ∀ k ∈ F, k < w.heap.size) (hm : s.wait.length ≤ 100000) (h0 : s.state ≠ 0) : Calls Tryd.prog 46 #[vR r] w (RefP0 F ch ⟨s.cur :: s.wait, 0, zA, s.outs, none⟩ w) := by
  have hst : (r.st != 0) = true := by rw [h.st]; simpa using h0
  have hcur := h.cur
  obtain ⟨rch, rst, rat, a, ⟨A, n, c⟩, ro⟩ := r
  have hwl : s.wait.length = n := h.ws.1
  have hsl : Sl w cA A s.wait := h.ws.2.2.1
  dsimp only at hst hcur
  have HX := Lib.hid (And.intro h (And.intro hF (And.intro hm (And.intro hcur (And.intro hwl hsl)))))
  clear h h0 hF hm hcur hwl hsl
  generalize hr : (⟨rch, rst, rat, a, (A, n, c), ro⟩ : Rs) = r at *
  have e1 : r.st = rst := by rw [← hr]
  have e2 : r.cur = a := by rw [← hr]
  have e3 : r.w = (A, n, c) := by rw [← hr]
  have HW2 : Below w.heap.size w ((w.alloc (.cells (aR r) 32)).alloc (.cells (aR zR) 32)) := Below.step (below_alloc w (.cells (aR r) 32)) (below_alloc (w.alloc (.cells (aR r) 32)) (.cells (aR zR) 32))
  have R1 : Row ((w.alloc (.cells (aR r) 32)).alloc (.cells (aR zR) 32)) w.heap.size (cR r) 32 := (Row.new w (cR r) 32).keep (below_alloc _ _)
  have R2 : Row ((w.alloc (.cells (aR r) 32)).alloc (.cells (aR zR) 32)) (w.heap.size + 1) (cR zR) 32 := by
    have h := Row.new (w.alloc (.cells (aR r) 32)) (cR zR) 32
    rwa [show (w.alloc (.cells (aR r) 32)).heap.size = w.heap.size + 1 by simp] at h
  obtain ⟨W2, hW⟩ : ∃ W2, (w.alloc (.cells (aR r) 32)).alloc (.cells (aR zR) 32) = W2 := ⟨_, rfl⟩
  rw [hW] at HW2 R1 R2
  have r1 := R1.cell 1
  rw [show (cR r)[1]? = some (.int .i64 r.st) from rfl, e1] at r1
  obtain ⟨_, _, _, _, ⟨r5, r5'⟩, _, r36, _, _, hlt⟩ := row_R R1
  rw [e2] at r5'
  rw [e3] at r36
  dsimp only at r36
  have HR := Lib.hid (And.intro R1 (And.intro R2 HW2))
  have HE := Lib.hid (And.intro e1 (And.intro e2 e3))
  clear R1 R2 HW2 e1 e2 e3 hr
  go_enter Tryd.func46, Tryd.ntmps46
  go_wp2_with (at_builtin; refine wpList_append_sl _ rfl (.tmp 8) (.tmp 10) 29 rfl W2.heap.size 28 33 48 cA Tryd.underlying29 row28 (by decide) cA_length cA_one (.slice (some ⟨W2.heap.size, 0, none⟩) 1 1) [a] rfl (Own.lit (w := W2) cA_length [a] (Nat.le_refl _) (by simp)) A n c s.wait HX.out.2.2.2.2.1 rfl (HX.out.2.2.2.2.2.keep (Below.step HR.out.2.2 (below_alloc W2 (.cells (aAs [a]) 28)))) (by have := HX.out.2.2.1; have := HX.out.2.2.2.2.1; simp; omega) (by have := HX.out.2.2.1; have := HX.out.2.2.2.2.1; simp; omega) (below_alloc W2 _).size ?_)
  intro v2 u2 ho hg
  have hb : Below W2.heap.size W2 u2 := Own.grew (B := W2.heap.size) (Own.lit (w := W2) cA_length [a] (Nat.le_refl _) (by simp)) hg (below_alloc W2 _) (Nat.le_refl _) (below_alloc W2 _).size
  obtain ⟨A2, n2, c2, rfl⟩ : ∃ A2 n2 c2, v2 = .slice A2 n2 c2 := by obtain ⟨A2, c2, e, _⟩ := ho.sl; exact ⟨A2, _, c2, e⟩
  have R1 := HR.out.1.keep hb
  have q1 := cell_below r36 hb
  have q2 := R1.fz 36
  have R3 := R1.set 36 (.slice A2 n2 c2)
  rw [cR_setw] at R3
  have r1' := R3.cell 1
  rw [show (cR { r with w := (A2, n2, c2) })[1]? = some (.int .i64 r.st) from rfl, HE.out.1] at r1'
  obtain ⟨⟨_, i2⟩, ⟨i3, i4⟩, i5, ⟨i6, i7⟩, z1, z2, z3⟩ := idle_facts R3 _ _ _ rfl rfl rfl
  have ho36 : ∀ k, k ≠ w.heap.size → (u2.setCell ⟨w.heap.size, 36, none⟩ (.slice A2 n2 c2)).heap[k]? = u2.heap[k]? := fun k hk => heap_set_other u2 w.heap.size 36 _ k hk
  have R4 := ((HR.out.2.1.keep hb).same (ho36 (w.heap.size + 1) (by omega))).same (z2 (w.heap.size + 1) (by omega))
  have j1 := R4.rok (cR_length zR)
  have hbz := ((HR.out.2.2.trans (hb.mono HR.out.2.2.size)).trans (Below.setCell' (Below.refl _ u2) (Nat.le_refl w.heap.size) 36 (.slice A2 n2 c2))).trans (z3 w.heap.size (Nat.le_refl _))
  have HZ := Lib.hid (And.intro R4 (And.intro hbz (And.intro ho (And.intro ho36 z2))))
  clear R1 R3 R4 z1 z2 z3 hbz ho hg ho36 hb
  go_wp2
  generalize hU : stD (((u2.setCell ⟨w.heap.size, 36, none⟩ (.slice A2 n2 c2)).setCell ⟨w.heap.size, 1, none⟩ (.int .i64 0)).setCell ⟨w.heap.size, 2, none⟩ (.int .i64 0)) w.heap.size 3 (cA zA) = U at *
  have hf := Below.setRow' HZ.out.2.1 (Nat.le_succ w.heap.size) (aR { r with w := (A2, n2, c2), st := 0, at_ := 0, cur := zA })
  have hX := HX.out.1.keep hf
  have ho2 := HZ.out.2.2.1
  have hl2 := HR.out.2.1.lt
  have ho3 := Own.same (w' := U.setRow (w.heap.size + 1) (aR { r with w := (A2, n2, c2), st := 0, at_ := 0, cur := zA })) ho2 fun j e => (heap_setRow_other U _ j _ (by have := (ho2.lt j e).1; omega)).trans ((HZ.out.2.2.2.2 j (by have := (ho2.lt j e).1; omega)).trans (HZ.out.2.2.2.1 j (by have := (ho2.lt j e).1; omega)))
  have hac := HX.out.2.2.2.1
  subst hac
  exact bodyPost_ret (v := vR { r with w := (A2, n2, c2), st := 0, at_ := 0, cur := zA }) (results_c1 (ad := ⟨w.heap.size + 1, 0, none⟩) rfl rfl (load_R HZ.out.1.setRow)) rfl ⟨_, rfl, ⟨hX.ch, rfl, rfl, rfl, SlF.own ho3 (fun j hj => Nat.lt_of_lt_of_le (HX.out.2.1 j hj) HR.out.2.2.size), hX.os⟩, hf⟩
/-- The reference's Drop. -/
theorem refDrop46 (F : List Nat) (ch : Int) (s : St) (r : Rs) (w : World) (h : RefAt F ch s r w) (g : Good ch s) (hF : ∀ k ∈ F, k < w.heap.size) : Calls Tryd.prog 46 #[vR r] w (RefP0 F ch (dropS s) w) := by
  unfold dropS
  by_cases h0 : s.state = 0
  · rw [if_pos h0]
    exact refDrop46_idle F ch s r w h g h0
  · rw [if_neg h0]
    exact refDrop46_go F ch s r w h hF (by have := g.len; omega) h0
end Go.Proofs.YtlelecnafdddhaaDoor
