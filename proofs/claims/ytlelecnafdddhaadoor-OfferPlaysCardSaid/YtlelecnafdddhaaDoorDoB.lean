/- do: Add, Hear. -/
import Derived.Test.YtlelecnafdddhaaDoorDoA
namespace Go.Proofs.YtlelecnafdddhaaDoor
open Go.RowKit
theorem InvR.size {w0 w : World} {b : Nat} {ch : Int} {s sr : St} {r : Rs} {L : List (Nat × List Value × TypeId)} (h : InvR w0 b ch s sr r L w) : w0.heap.size ≤ w.heap.size := h.bel.size
set_option maxRecDepth 100000 in
set_option maxHeartbeats 3200000 in
theorem do22_add (w0 : World) (b : Nat) (ch : Int) (s sr : St) (r : Rs) (x : Rop) (L : List (Nat × List Value × TypeId)) (w : World) (h : InvR w0 b ch s sr r L w) (g : Good ch s) (gr : Good ch sr) (hk : (x.kind.toNat : Int).tmod 5 = 0) : Calls Tryd.prog 22 #[.pointer (some ⟨b, 0, none⟩), vR r, vQ x] w (DoE w0 b ch (addS s x.a.1 (cutS x.a.2)).1 (addS sr x.a.1 (cutS x.a.2)).1 (s = sr) L) := by
  have hI := h.enterDo x
  have hlts := h.lts
  have hB := h.bel.size
  obtain ⟨W3, hW⟩ : ∃ W3, ((w.alloc (.cells (aR r) 32)).alloc (.cells (aQ x) 57)).alloc (.cells (aR zR) 32) = W3 := ⟨_, rfl⟩
  rw [hW] at hI
  have r4 := hI.row (g := w.heap.size) (cs := cR r) (ty := 32) (by unfold doL; simp)
  have r5 := hI.row (g := w.heap.size + 1) (cs := cQ x) (ty := 57) (by unfold doL; simp)
  have r6 := hI.row (g := w.heap.size + 1 + 1) (cs := cR zR) (ty := 32) (by unfold doL; simp)
  obtain ⟨k1, ⟨k2, k2'⟩, k3, ⟨k4, k4'⟩, k5⟩ := row_Q r5
  obtain ⟨m4, m4'⟩ := r4.okw (cR_length r)
  change rdA _ _ 38 = vR r at m4'
  have n6 := r6.lt
  clear r4 r5 r6
  obtain ⟨xi, hxi⟩ : ∃ xi, x.a.1 = xi := ⟨_, rfl⟩
  obtain ⟨xt, hxt⟩ : ∃ xt, x.a.2 = xt := ⟨_, rfl⟩
  have HXI := Lib.hid (And.intro hxi hxt)
  rw [hxi] at k2'
  rw [hxt] at k3
  rw [hxi, hxt]
  obtain ⟨tt, htt⟩ : ∃ tt, cutS xt = tt := ⟨_, rfl⟩
  have HT := Lib.hid htt
  rw [htt]
  obtain ⟨s1, ec1, hs1⟩ : ∃ s1 ec1, addS s xi tt = (s1, ec1) := ⟨_, _, rfl⟩
  obtain ⟨s2, ec2, hs2⟩ : ∃ s2 ec2, addS sr xi tt = (s2, ec2) := ⟨_, _, rfl⟩
  have HE1 := Lib.hid (fun e : s = sr => show ec1 = ec2 by rw [e, hs2] at hs1; exact congrArg Prod.snd hs1.symm)
  have HX := Lib.hid (And.intro hI (And.intro hlts (And.intro hB (And.intro g gr))))
  have HS := Lib.hid (And.intro hs1 hs2)
  rw [hs1, hs2]
  dsimp only
  clear h hI hlts hB g gr hs1 hs2 htt hxi hxt k4 k4' k5
  have T0 : True := trivial
  go_enter Tryd.func22, Tryd.ntmps22
  go_wp2
  obtain ⟨g4, hg4⟩ : ∃ g4, g4 = w.heap.size := ⟨_, rfl⟩
  obtain ⟨g5, hg5⟩ : ∃ g5, g5 = w.heap.size + 1 := ⟨_, rfl⟩
  obtain ⟨g6, hg6⟩ : ∃ g6, g6 = w.heap.size + 1 + 1 := ⟨_, rfl⟩
  obtain ⟨g8, hg8⟩ : ∃ g8, g8 = W3.heap.size := ⟨_, rfl⟩
  obtain ⟨Lz, hLz⟩ : ∃ Lz : List (Nat × List Value × TypeId), Lz = (g6, cR zR, 32) :: (g5, cQ x, 57) :: (g4, cR r, 32) :: L := ⟨_, rfl⟩
  have HI := Lib.hid (show InvR w0 b ch s sr r Lz W3 by rw [hLz, hg4, hg5, hg6]; exact HX.out.1)
  have HG8 := Lib.hid (show w0.heap.size ≤ g8 ∧ ∀ y ∈ Lz, y.1 ≠ g8 from ⟨by rw [hg8]; exact HI.out.size, fun y hy => by rw [hg8]; exact Nat.ne_of_lt (HI.out.lts y hy)⟩)
  have HM4 := Lib.hid (show (g4, cR r, 32) ∈ Lz from by rw [hLz]; with_reducible repeat (first | exact List.mem_cons_self | apply List.mem_cons_of_mem))
  have HM := Lib.hid (show (g5, cQ x, 57) ∈ Lz from by rw [hLz]; with_reducible repeat (first | exact List.mem_cons_self | apply List.mem_cons_of_mem))
  rw [← hg6, ← hg5, ← hg4]
  have HG8e := Lib.hid hg8
  have HN6 := Lib.hid (show g6 < g8 by rw [hg6, hg8]; exact n6)
  have HGE := Lib.hid (And.intro hg6 (And.intro hg5 hg4))
  clear m4 m4' k1 k2 k2' k3 hW hg8 n6 hg4 hg5 hg6 hk
  refine AnyO.wp_anyI (by kernel_rfl) (by kernel_rfl) (AnyO.InvG (σ := Unit) (fun σ => AnyO.pvL [some (.pointer (some ⟨g5, 1, none⟩)), some (.pointer (some ⟨g5, 1, none⟩)), some (vI xi), some (.pointer (some ⟨g5, 1, none⟩)), some (.pointer (some ⟨g5, 33, none⟩)), some (.string xt), some (.string tt), some (vA (xi, tt)), some (.pointer (some ⟨g8, 0, none⟩)), none]) (fun _ D u => InvR w0 b ch s sr r ((bif D 8 then [(g8, (bif D 9 then cA (xi, tt) else cA zA), 28)] else []) ++ Lz) u ∧ (D 8 = false → u.heap.size = g8))) (AnyO.InvG.start (g := ()) (⟨HI.out.below (below_drew _), fun _ => HG8e.out.symm⟩)) ?_ ?_
  · intro i hi
    have hi2 : i = 0 ∨ i = 1 ∨ i = 2 ∨ i = 3 ∨ i = 4 ∨ i = 5 ∨ i = 6 ∨ i = 7 ∨ i = 8 ∨ i = 9 := by first | (simp only [List.size_toArray, List.length_cons, List.length_nil] at hi; omega) | (simp only [List.size_toArray, List.append_eq, List.length_append, List.length_cons, List.length_nil] at hi; omega)
    clear hi
    rcases hi2 with rfl | rfl | rfl | rfl | rfl | rfl | rfl | rfl | rfl | rfl
    · -- 0: Op.fieldAddr 57 (Operand.tmp 5) 1
      refine AnyO.StepI.mk rfl [] (by kernel_rfl) ?_
      intro D vs u hI h0 hC hp ac hb K hK
      obtain ⟨σ, hP, hW⟩ := hI
      have s5 : ac.tmps[5]?.getD undef = .pointer (some ⟨g5, 0, none⟩) := by rw [hb]; kernel_rfl
      rw [if_pos (AnyO.wanted_none rfl)]
      clear hb hp
      clear hC
      clear h0
      have HP := Lib.hid hP
      have HWq := Lib.hid hW
      clear hP hW
      go_simp
      have hP := HP.out
      have hW := HWq.out
      clear HP HWq
      exact hK _ _ (AnyO.InvG.step (g := σ) hP rfl hW)
    · -- 1: Op.fieldAddr 28 (Operand.tmp 28) 0
      refine AnyO.StepI.mk rfl [0] (by kernel_rfl) ?_
      intro D vs u hI h0 hC hp ac hb K hK
      obtain ⟨σ, hP, hW⟩ := hI
      have s28 : ac.tmps[28]?.getD undef = .pointer (some ⟨g5, 1, none⟩) := by rw [hb]; exact (show _ = vs 0 by kernel_rfl).trans (show vs 0 = .pointer (some ⟨g5, 1, none⟩) from hP 0 (hp 0 (by decide)))
      rw [if_pos (AnyO.wanted_none rfl)]
      clear hb hp
      clear hC
      clear h0
      have HP := Lib.hid hP
      have HWq := Lib.hid hW
      clear hP hW
      go_simp
      have hP := HP.out
      have hW := HWq.out
      clear HP HWq
      exact hK _ _ (AnyO.InvG.step (g := σ) hP rfl hW)
    · -- 2: Op.load 22 (Operand.tmp 29)
      refine AnyO.StepI.mk rfl [1] (by kernel_rfl) ?_
      intro D vs u hI h0 hC hp ac hb K hK
      obtain ⟨σ, hP, hW⟩ := hI
      have s29 : ac.tmps[29]?.getD undef = .pointer (some ⟨g5, 1, none⟩) := by rw [hb]; exact (show _ = vs 1 by kernel_rfl).trans (show vs 1 = .pointer (some ⟨g5, 1, none⟩) from hP 1 (hp 1 (by decide)))
      rw [if_pos (AnyO.wanted_none rfl)]
      clear hb hp
      have RR := hW.1.row (g := g5) (cs := cQ x) (ty := 57) (List.mem_append_right _ HM.out)
      obtain ⟨_, ⟨rr1, rr2⟩, rr3, _, _⟩ := row_Q RR
      rw [HXI.out.1] at rr2
      rw [HXI.out.2] at rr3
      clear RR
      clear hC
      clear h0
      have HP := Lib.hid hP
      have HWq := Lib.hid hW
      clear hP hW
      go_simp
      have hP := HP.out
      have hW := HWq.out
      clear HP HWq
      exact hK _ _ (AnyO.InvG.step (g := σ) hP rfl hW)
    · -- 3: Op.fieldAddr 57 (Operand.tmp 5) 1
      refine AnyO.StepI.mk rfl [] (by kernel_rfl) ?_
      intro D vs u hI h0 hC hp ac hb K hK
      obtain ⟨σ, hP, hW⟩ := hI
      have s5 : ac.tmps[5]?.getD undef = .pointer (some ⟨g5, 0, none⟩) := by rw [hb]; kernel_rfl
      rw [if_pos (AnyO.wanted_none rfl)]
      clear hb hp
      clear hC
      clear h0
      have HP := Lib.hid hP
      have HWq := Lib.hid hW
      clear hP hW
      go_simp
      have hP := HP.out
      have hW := HWq.out
      clear HP HWq
      exact hK _ _ (AnyO.InvG.step (g := σ) hP rfl hW)
    · -- 4: Op.fieldAddr 28 (Operand.tmp 31) 1
      refine AnyO.StepI.mk rfl [3] (by kernel_rfl) ?_
      intro D vs u hI h0 hC hp ac hb K hK
      obtain ⟨σ, hP, hW⟩ := hI
      have s31 : ac.tmps[31]?.getD undef = .pointer (some ⟨g5, 1, none⟩) := by rw [hb]; exact (show _ = vs 3 by kernel_rfl).trans (show vs 3 = .pointer (some ⟨g5, 1, none⟩) from hP 3 (hp 3 (by decide)))
      rw [if_pos (AnyO.wanted_none rfl)]
      clear hb hp
      clear hC
      clear h0
      have HP := Lib.hid hP
      have HWq := Lib.hid hW
      clear hP hW
      go_simp
      have hP := HP.out
      have hW := HWq.out
      clear HP HWq
      exact hK _ _ (AnyO.InvG.step (g := σ) hP rfl hW)
    · -- 5: Op.load 9 (Operand.tmp 32)
      refine AnyO.StepI.mk rfl [4] (by kernel_rfl) ?_
      intro D vs u hI h0 hC hp ac hb K hK
      obtain ⟨σ, hP, hW⟩ := hI
      have s32 : ac.tmps[32]?.getD undef = .pointer (some ⟨g5, 33, none⟩) := by rw [hb]; exact (show _ = vs 4 by kernel_rfl).trans (show vs 4 = .pointer (some ⟨g5, 33, none⟩) from hP 4 (hp 4 (by decide)))
      rw [if_pos (AnyO.wanted_none rfl)]
      clear hb hp
      have RR := hW.1.row (g := g5) (cs := cQ x) (ty := 57) (List.mem_append_right _ HM.out)
      obtain ⟨_, ⟨rr1, rr2⟩, rr3, _, _⟩ := row_Q RR
      rw [HXI.out.1] at rr2
      rw [HXI.out.2] at rr3
      clear RR
      clear hC
      clear h0
      have HP := Lib.hid hP
      have HWq := Lib.hid hW
      clear hP hW
      go_simp
      have hP := HP.out
      have hW := HWq.out
      clear HP HWq
      exact hK _ _ (AnyO.InvG.step (g := σ) hP rfl hW)
    · -- 6: Op.call { callee := Callee.value (Operand.func 16), args := 
      refine AnyO.StepI.mk rfl [5] (by kernel_rfl) ?_
      intro D vs u hI h0 hC hp ac hb K hK
      obtain ⟨σ, hP, hW⟩ := hI
      have s33 : ac.tmps[33]?.getD undef = .string xt := by rw [hb]; exact (show _ = vs 5 by kernel_rfl).trans (show vs 5 = .string xt from hP 5 (hp 5 (by decide)))
      rw [if_pos (AnyO.wanted_none rfl)]
      clear hb hp
      clear hC
      clear h0
      have HP := Lib.hid hP
      have HWq := Lib.hid hW
      clear hP hW
      go_simp
      have hP := HP.out
      have hW := HWq.out
      clear HP HWq
      go_at_call 16
      refine (cut16 xt u).mono ?_
      rintro e w2 ⟨rfl, rfl⟩
      rw [HT.out]
      exact hK _ _ (AnyO.InvG.step (g := σ) hP rfl hW)
    · -- 7: Op.build 28 #[(0, Operand.tmp 30), (1, Operand.tmp 34)]
      refine AnyO.StepI.mk rfl [2, 6] (by kernel_rfl) ?_
      intro D vs u hI h0 hC hp ac hb K hK
      obtain ⟨σ, hP, hW⟩ := hI
      have s30 : ac.tmps[30]?.getD undef = vI xi := by rw [hb]; exact (show _ = vs 2 by kernel_rfl).trans (show vs 2 = vI xi from hP 2 (hp 2 (by decide)))
      have s34 : ac.tmps[34]?.getD undef = .string tt := by rw [hb]; exact (show _ = vs 6 by kernel_rfl).trans (show vs 6 = .string tt from hP 6 (hp 6 (by decide)))
      rw [if_pos (AnyO.wanted_none rfl)]
      clear hb hp
      clear hC
      clear h0
      have HP := Lib.hid hP
      have HWq := Lib.hid hW
      clear hP hW
      go_simp
      have hP := HP.out
      have hW := HWq.out
      clear HP HWq
      exact hK _ _ (AnyO.InvG.step (g := σ) hP rfl hW)
    · -- 8: Op.alloc 28
      refine AnyO.StepI.mk rfl [] (by kernel_rfl) ?_
      intro D vs u hI h0 hC hp ac hb K hK
      obtain ⟨σ, hP, hW⟩ := hI
      rw [if_pos (AnyO.wanted_none rfl)]
      clear hb hp
      have hf9 : D 9 = false := by
        rcases hd : D 9 with _ | _
        · rfl
        · have hz := hC 9 hd 8 (by rw [show AnyO.pre _ 9 = [8, 7, 6, 0, 1, 2, 3, 4, 5, 6, 7, 8] from by kernel_rfl]; decide)
          rw [h0] at hz
          cases hz
      have hu := hW.2 h0
      clear hC
      have HP := Lib.hid hP
      have HWq := Lib.hid hW
      clear hP hW
      go_simp
      have hP := HP.out
      have hW := HWq.out
      clear HP HWq
      rw [h0] at hW
      have hA := hW.1.alloc (cA zA) 28
      rw [hu] at hA
      refine hK _ _ (AnyO.InvG.step (g := σ) hP rfl ⟨?_, fun h => by cases h⟩)
      show InvR w0 b ch s sr r ([(g8, (bif D 9 then cA (xi, tt) else cA zA), 28)] ++ Lz) _
      rw [hf9]
      exact hA
    · -- 9: Op.store 28 (Operand.tmp 8) (Operand.tmp 35)
      refine AnyO.StepI.mk rfl [8, 7, 6, 0, 1, 2, 3, 4, 5, 6, 7, 8] (by kernel_rfl) ?_
      intro D vs u hI h0 hC hp ac hb K hK
      obtain ⟨σ, hP, hW⟩ := hI
      have s8 : ac.tmps[8]?.getD undef = .pointer (some ⟨g8, 0, none⟩) := by rw [hb]; exact (show _ = vs 8 by kernel_rfl).trans (show vs 8 = .pointer (some ⟨g8, 0, none⟩) from hP 8 (hp 8 (by decide)))
      have s35 : ac.tmps[35]?.getD undef = vA (xi, tt) := by rw [hb]; exact (show _ = vs 7 by kernel_rfl).trans (show vs 7 = vA (xi, tt) from hP 7 (hp 7 (by decide)))
      rw [if_pos (AnyO.wanted_none rfl)]
      have hp8 : D 8 = true := hp 8 (by decide)
      clear hb hp
      have h8 := hp8
      rw [h0, h8] at hW
      have RR := hW.1.row (g := g8) (cs := cA zA) (ty := 28) List.mem_cons_self
      have rr := RR.rok (cA_length zA)
      clear RR
      clear hC
      have HP := Lib.hid hP
      have HWq := Lib.hid hW
      clear hP hW
      go_simp
      have hP := HP.out
      have hW := HWq.out
      clear HP HWq
      refine hK undef _ (AnyO.InvG.step (g := σ) hP trivial ⟨?_, fun h => by cases h8.symm.trans h⟩)
      show InvR w0 b ch s sr r ((bif D 8 then [(g8, cA (xi, tt), 28)] else []) ++ Lz) _
      rw [h8]
      exact InvR.setRow (cs := cA zA) hW.1 HG8.out.1 HG8.out.2 (cA (xi, tt))
  · intro D vs u hI hD
    obtain ⟨σ, hP, hW⟩ := hI
    have e0 : vs 0 = .pointer (some ⟨g5, 1, none⟩) := hP 0 (hD 0 (by decide))
    have e1 : vs 1 = .pointer (some ⟨g5, 1, none⟩) := hP 1 (hD 1 (by decide))
    have e2 : vs 2 = vI xi := hP 2 (hD 2 (by decide))
    have e3 : vs 3 = .pointer (some ⟨g5, 1, none⟩) := hP 3 (hD 3 (by decide))
    have e4 : vs 4 = .pointer (some ⟨g5, 33, none⟩) := hP 4 (hD 4 (by decide))
    have e5 : vs 5 = .string xt := hP 5 (hD 5 (by decide))
    have e6 : vs 6 = .string tt := hP 6 (hD 6 (by decide))
    have e7 : vs 7 = vA (xi, tt) := hP 7 (hD 7 (by decide))
    have e8 : vs 8 = .pointer (some ⟨g8, 0, none⟩) := hP 8 (hD 8 (by decide))
    rw [hD 8 (by decide), hD 9 (by decide)] at hW
    change InvR w0 b ch s sr r ((g8, cA (xi, tt), 28) :: Lz) u ∧ _ at hW
    have HW := Lib.hid hW
    clear hW hP hD
    rw [puts_range [some 28, some 29, some 30, some 31, some 32, some 33, some 34, some 35, some 8, none] (by kernel_rfl)]
    simp only [putL, Nat.reduceAdd, e0, e1, e2, e3, e4, e5, e6, e7, e8]
    clear e0 e1 e2 e3 e4 e5 e6 e7 e8
    have R4 := HW.out.1.row (g := g4) (cs := cR r) (ty := 32) (List.mem_cons_of_mem _ HM4.out)
    obtain ⟨m4, m4'⟩ := R4.okw (cR_length r)
    change rdA _ _ 38 = vR r at m4'
    obtain ⟨m8, m8'⟩ := (HW.out.1.row (g := g8) (cs := cA (xi, tt)) (ty := 28) List.mem_cons_self).okw (cA_length _)
    change rdA _ _ 33 = vA (xi, tt) at m8'
    clear R4
    have T0 : True := trivial
    go_simp
    go_wp2_with (have hh := T0; clear hh T0; go_at_call 14; refine (HW.out.1.ref (val := fun q => .tuple #[vR q, .int .i64 ec2]) (sr' := s2) (fun F hF ha => by have hh := refAdd14 F ch sr r xi tt _ ha hF (Nat.le_trans HX.out.2.2.2.2.len (by decide)); rw [HS.out.2] at hh; exact hh)).mono ?_; rintro e w3 ⟨r2, rfl, hI3⟩; have Hn2 := Lib.hid (hI3.lts (g8, cA (xi, tt), 28) List.mem_cons_self); have H3 := Lib.hid (hI3.alloc (cR r2) 32); clear hI3)
    obtain ⟨U, hU⟩ : ∃ U, w3.alloc (.cells (aR r2) 32) = U := ⟨_, rfl⟩
    have HI1 : InvR w0 b ch s s2 r2 ((w3.heap.size, cR r2, 32) :: (g8, cA (xi, tt), 28) :: Lz) U := by rw [← hU]; exact H3.out
    rw [hU]
    have hn2 := Hn2.out
    have hn6 := HN6.out
    have hg6 := HGE.out.1
    obtain ⟨g9, hg9⟩ : ∃ g9, g9 = w3.heap.size := ⟨_, rfl⟩
    obtain ⟨Lq, hLq⟩ : ∃ Lq : List (Nat × List Value × TypeId), Lq = (g8, cA (xi, tt), 28) :: (g9, cR r2, 32) :: L := ⟨_, rfl⟩
    have HG := Lib.hid (show w0.heap.size ≤ g6 ∧ ∀ y ∈ Lq, y.1 ≠ g6 from ⟨by have := HX.out.2.2.1; omega, fun y hy => by
      rw [hLq] at hy
      simp only [List.mem_cons] at hy
      rcases hy with rfl | rfl | hy
      · show g8 ≠ g6; omega
      · show g9 ≠ g6; omega
      · have := HX.out.2.1 y hy; omega⟩)
    have HI2 := Lib.hid (show InvR w0 b ch s s2 r2 ((g6, cR zR, 32) :: Lq) U from HI1.sub fun y hy => by
      rw [hLq, hg9] at hy
      rw [hLz]
      simp only [List.mem_cons] at hy ⊢
      rcases hy with rfl | rfl | rfl | hy
      · simp
      · simp
      · simp
      · simp [hy])
    rw [← hg9]
    obtain ⟨q, hq⟩ : ∃ q, (ec1 == ec2) = q := ⟨_, rfl⟩
    have HE := Lib.hid (show s = sr → q = true from fun e => by rw [← hq, HE1.out e]; simp)
    have HQ := Lib.hid hq
    clear hg6 m4 m4' m8 m8' hU hg9 hn2 hn6 HI1 H3 hq Hn2 HW

    refine AnyO.wp_anyI (by kernel_rfl) (by kernel_rfl) (AnyO.InvG (σ := Unit) (fun σ => AnyO.pvL [some (vR r2), some (.pointer (some ⟨b, 0, none⟩)), some (.pointer (some ⟨g8, 0, none⟩)), some (vI xi), some (.pointer (some ⟨g8, 32, none⟩)), some (.string tt), some (.int .i64 ec1), some (.int .i64 ec2), some (.bool q), none, some (.bool q)]) (fun _ D u => InvR w0 b ch (bif D 6 then s1 else s) s2 r2 ((g6, (bif D 9 then cR r2 else cR zR), 32) :: Lq) u)) (AnyO.InvG.start (g := ()) (HI2.out.below (below_drew _))) ?_ ?_
    · intro i hi
      have hi2 : i = 0 ∨ i = 1 ∨ i = 2 ∨ i = 3 ∨ i = 4 ∨ i = 5 ∨ i = 6 ∨ i = 7 ∨ i = 8 ∨ i = 9 ∨ i = 10 := by first | (simp only [List.size_toArray, List.length_cons, List.length_nil] at hi; omega) | (simp only [List.size_toArray, List.append_eq, List.length_append, List.length_cons, List.length_nil] at hi; omega)
      clear hi
      rcases hi2 with rfl | rfl | rfl | rfl | rfl | rfl | rfl | rfl | rfl | rfl | rfl
      · -- 0: Op.load 32 (Operand.tmp 9)
        refine AnyO.StepI.mk rfl [] (by kernel_rfl) ?_
        intro D vs u hI h0 hC hp ac hb K hK
        obtain ⟨σ, hP, hW⟩ := hI
        have s9 : ac.tmps[9]?.getD undef = .pointer (some ⟨g9, 0, none⟩) := by rw [hb]; kernel_rfl
        rw [if_pos (AnyO.wanted_none rfl)]
        clear hb hp
        subst hLq
        have RR := hW.row (g := g9) (cs := cR r2) (ty := 32) (by with_reducible repeat (first | exact List.mem_cons_self | apply List.mem_cons_of_mem))
        obtain ⟨rr1, rr2⟩ := RR.okw (cR_length _)
        change rdA _ _ _ = vR r2 at rr2
        clear RR
        clear hC
        clear h0
        have HP := Lib.hid hP
        have HWq := Lib.hid hW
        clear hP hW
        go_simp
        have hP := HP.out
        have hW := HWq.out
        clear HP HWq
        exact hK _ _ (AnyO.InvG.step (g := σ) hP rfl hW)
      · -- 1: Op.move (Operand.tmp 0)
        refine AnyO.StepI.mk rfl [] (by kernel_rfl) ?_
        intro D vs u hI h0 hC hp ac hb K hK
        obtain ⟨σ, hP, hW⟩ := hI
        have s0 : ac.tmps[0]?.getD undef = .pointer (some ⟨b, 0, none⟩) := by rw [hb]; kernel_rfl
        rw [if_pos (AnyO.wanted_none rfl)]
        clear hb hp
        clear hC
        clear h0
        have HP := Lib.hid hP
        have HWq := Lib.hid hW
        clear hP hW
        go_simp
        have hP := HP.out
        have hW := HWq.out
        clear HP HWq
        exact hK _ _ (AnyO.InvG.step (g := σ) hP rfl hW)
      · -- 2: Op.fieldAddr 28 (Operand.tmp 8) 0
        refine AnyO.StepI.mk rfl [] (by kernel_rfl) ?_
        intro D vs u hI h0 hC hp ac hb K hK
        obtain ⟨σ, hP, hW⟩ := hI
        have s8 : ac.tmps[8]?.getD undef = .pointer (some ⟨g8, 0, none⟩) := by rw [hb]; kernel_rfl
        rw [if_pos (AnyO.wanted_none rfl)]
        clear hb hp
        clear hC
        clear h0
        have HP := Lib.hid hP
        have HWq := Lib.hid hW
        clear hP hW
        go_simp
        have hP := HP.out
        have hW := HWq.out
        clear HP HWq
        exact hK _ _ (AnyO.InvG.step (g := σ) hP rfl hW)
      · -- 3: Op.load 22 (Operand.tmp 44)
        refine AnyO.StepI.mk rfl [2] (by kernel_rfl) ?_
        intro D vs u hI h0 hC hp ac hb K hK
        obtain ⟨σ, hP, hW⟩ := hI
        have s44 : ac.tmps[44]?.getD undef = .pointer (some ⟨g8, 0, none⟩) := by rw [hb]; exact (show _ = vs 2 by kernel_rfl).trans (show vs 2 = .pointer (some ⟨g8, 0, none⟩) from hP 2 (hp 2 (by decide)))
        rw [if_pos (AnyO.wanted_none rfl)]
        clear hb hp
        subst hLq
        have RR := hW.row (g := g8) (cs := cA (xi, tt)) (ty := 28) (by with_reducible repeat (first | exact List.mem_cons_self | apply List.mem_cons_of_mem))
        obtain ⟨⟨rr1, rr2⟩, _⟩ := row_A RR
        clear RR
        clear hC
        clear h0
        have HP := Lib.hid hP
        have HWq := Lib.hid hW
        clear hP hW
        go_simp
        have hP := HP.out
        have hW := HWq.out
        clear HP HWq
        exact hK _ _ (AnyO.InvG.step (g := σ) hP rfl hW)
      · -- 4: Op.fieldAddr 28 (Operand.tmp 8) 1
        refine AnyO.StepI.mk rfl [] (by kernel_rfl) ?_
        intro D vs u hI h0 hC hp ac hb K hK
        obtain ⟨σ, hP, hW⟩ := hI
        have s8 : ac.tmps[8]?.getD undef = .pointer (some ⟨g8, 0, none⟩) := by rw [hb]; kernel_rfl
        rw [if_pos (AnyO.wanted_none rfl)]
        clear hb hp
        clear hC
        clear h0
        have HP := Lib.hid hP
        have HWq := Lib.hid hW
        clear hP hW
        go_simp
        have hP := HP.out
        have hW := HWq.out
        clear HP HWq
        exact hK _ _ (AnyO.InvG.step (g := σ) hP rfl hW)
      · -- 5: Op.load 9 (Operand.tmp 46)
        refine AnyO.StepI.mk rfl [4] (by kernel_rfl) ?_
        intro D vs u hI h0 hC hp ac hb K hK
        obtain ⟨σ, hP, hW⟩ := hI
        have s46 : ac.tmps[46]?.getD undef = .pointer (some ⟨g8, 32, none⟩) := by rw [hb]; exact (show _ = vs 4 by kernel_rfl).trans (show vs 4 = .pointer (some ⟨g8, 32, none⟩) from hP 4 (hp 4 (by decide)))
        rw [if_pos (AnyO.wanted_none rfl)]
        clear hb hp
        subst hLq
        have RR := hW.row (g := g8) (cs := cA (xi, tt)) (ty := 28) (by with_reducible repeat (first | exact List.mem_cons_self | apply List.mem_cons_of_mem))
        obtain ⟨_, rr1, _⟩ := row_A RR
        clear RR
        clear hC
        clear h0
        have HP := Lib.hid hP
        have HWq := Lib.hid hW
        clear hP hW
        go_simp
        have hP := HP.out
        have hW := HWq.out
        clear HP HWq
        exact hK _ _ (AnyO.InvG.step (g := σ) hP rfl hW)
      · -- 6: Op.call { callee := Callee.value (Operand.func 15), args := 
        refine AnyO.StepI.mk rfl [1, 3, 5] (by kernel_rfl) ?_
        intro D vs u hI h0 hC hp ac hb K hK
        obtain ⟨σ, hP, hW⟩ := hI
        have s43 : ac.tmps[43]?.getD undef = .pointer (some ⟨b, 0, none⟩) := by rw [hb]; exact (show _ = vs 1 by kernel_rfl).trans (show vs 1 = .pointer (some ⟨b, 0, none⟩) from hP 1 (hp 1 (by decide)))
        have s45 : ac.tmps[45]?.getD undef = vI xi := by rw [hb]; exact (show _ = vs 3 by kernel_rfl).trans (show vs 3 = vI xi from hP 3 (hp 3 (by decide)))
        have s47 : ac.tmps[47]?.getD undef = .string tt := by rw [hb]; exact (show _ = vs 5 by kernel_rfl).trans (show vs 5 = .string tt from hP 5 (hp 5 (by decide)))
        rw [if_pos (AnyO.wanted_none rfl)]
        clear hb hp
        clear hC
        have HP := Lib.hid hP
        have HWq := Lib.hid hW
        clear hP hW
        go_simp
        have hP := HP.out
        have hW := HWq.out
        clear HP HWq
        go_at_call 15
        rw [h0] at hW
        refine (InvR.call (s' := s1) hW (fun F hF => by have hh := add15 b ch s F xi tt _ hF (Nat.le_trans HX.out.2.2.2.1.len (by decide)); rw [HS.out.1] at hh; exact hh)).mono ?_
        rintro e w2 ⟨rfl, hI9⟩
        exact hK _ _ (AnyO.InvG.step (g := σ) hP rfl hI9)
      · -- 7: Op.move (Operand.tmp 10)
        refine AnyO.StepI.mk rfl [] (by kernel_rfl) ?_
        intro D vs u hI h0 hC hp ac hb K hK
        obtain ⟨σ, hP, hW⟩ := hI
        have s10 : ac.tmps[10]?.getD undef = .int .i64 ec2 := by rw [hb]; kernel_rfl
        rw [if_pos (AnyO.wanted_none rfl)]
        clear hb hp
        clear hC
        clear h0
        have HP := Lib.hid hP
        have HWq := Lib.hid hW
        clear hP hW
        go_simp
        have hP := HP.out
        have hW := HWq.out
        clear HP HWq
        exact hK _ _ (AnyO.InvG.step (g := σ) hP rfl hW)
      · -- 8: Op.binOp BinOp.eql 3 (Operand.tmp 48) (Operand.tmp 49) 3
        refine AnyO.StepI.mk rfl [6, 7] (by kernel_rfl) ?_
        intro D vs u hI h0 hC hp ac hb K hK
        obtain ⟨σ, hP, hW⟩ := hI
        have s48 : ac.tmps[48]?.getD undef = .int .i64 ec1 := by rw [hb]; exact (show _ = vs 6 by kernel_rfl).trans (show vs 6 = .int .i64 ec1 from hP 6 (hp 6 (by decide)))
        have s49 : ac.tmps[49]?.getD undef = .int .i64 ec2 := by rw [hb]; exact (show _ = vs 7 by kernel_rfl).trans (show vs 7 = .int .i64 ec2 from hP 7 (hp 7 (by decide)))
        rw [if_pos (AnyO.wanted_none rfl)]
        clear hb hp
        have e := HQ.out
        clear hC
        clear h0
        have HP := Lib.hid hP
        have HWq := Lib.hid hW
        clear hP hW
        go_simp
        have hP := HP.out
        have hW := HWq.out
        clear HP HWq
        exact hK _ _ (AnyO.InvG.step (g := σ) hP rfl hW)
      · -- 9: Op.store 32 (Operand.tmp 6) (Operand.tmp 42)
        refine AnyO.StepI.mk rfl [0, 6, 0] (by kernel_rfl) ?_
        intro D vs u hI h0 hC hp ac hb K hK
        obtain ⟨σ, hP, hW⟩ := hI
        have s6 : ac.tmps[6]?.getD undef = .pointer (some ⟨g6, 0, none⟩) := by rw [hb]; kernel_rfl
        have s42 : ac.tmps[42]?.getD undef = vR r2 := by rw [hb]; exact (show _ = vs 0 by kernel_rfl).trans (show vs 0 = vR r2 from hP 0 (hp 0 (by decide)))
        rw [if_pos (AnyO.wanted_none rfl)]
        have hp6 : D 6 = true := hp 6 (by decide)
        clear hb hp
        have h6 := hp6
        rw [h0, h6] at hW
        have rr := (hW.row (g := g6) (cs := cR zR) (ty := 32) List.mem_cons_self).rok (cR_length zR)
        clear hC
        have HP := Lib.hid hP
        have HWq := Lib.hid hW
        clear hP hW
        go_simp
        have hP := HP.out
        have hW := HWq.out
        clear HP HWq
        refine hK undef _ (AnyO.InvG.step (g := σ) hP trivial ?_)
        show InvR w0 b ch (bif D 6 then s1 else s) s2 r2 ((g6, cR r2, 32) :: Lq) _
        rw [h6]
        exact InvR.setRow (cs := cR zR) hW HG.out.1 HG.out.2 (cR r2)
      · -- 10: Op.assign (Operand.tmp 50)
        refine AnyO.StepI.mk rfl [8, 9, 0, 1, 2, 3, 4, 5, 6, 7, 8, 9] (by kernel_rfl) ?_
        intro D vs u hI h0 hC hp ac hb K hK
        obtain ⟨σ, hP, hW⟩ := hI
        have s50 : ac.tmps[50]?.getD undef = .bool q := by rw [hb]; exact (show _ = vs 8 by kernel_rfl).trans (show vs 8 = .bool q from hP 8 (hp 8 (by decide)))
        rw [if_pos (AnyO.wanted_none rfl)]
        clear hb hp
        clear hC
        clear h0
        have HP := Lib.hid hP
        have HWq := Lib.hid hW
        clear hP hW
        go_simp
        have hP := HP.out
        have hW := HWq.out
        clear HP HWq
        exact hK _ _ (AnyO.InvG.step (g := σ) hP rfl hW)
    · intro D vs u hI hD
      obtain ⟨σ, hP, hW⟩ := hI
      have e0 : vs 0 = vR r2 := hP 0 (hD 0 (by decide))
      have e1 : vs 1 = .pointer (some ⟨b, 0, none⟩) := hP 1 (hD 1 (by decide))
      have e2 : vs 2 = .pointer (some ⟨g8, 0, none⟩) := hP 2 (hD 2 (by decide))
      have e3 : vs 3 = vI xi := hP 3 (hD 3 (by decide))
      have e4 : vs 4 = .pointer (some ⟨g8, 32, none⟩) := hP 4 (hD 4 (by decide))
      have e5 : vs 5 = .string tt := hP 5 (hD 5 (by decide))
      have e6 : vs 6 = .int .i64 ec1 := hP 6 (hD 6 (by decide))
      have e7 : vs 7 = .int .i64 ec2 := hP 7 (hD 7 (by decide))
      have e8 : vs 8 = .bool q := hP 8 (hD 8 (by decide))
      have e10 : vs 10 = .bool q := hP 10 (hD 10 (by decide))
      rw [hD 6 (by decide), hD 9 (by decide)] at hW
      change InvR w0 b ch s1 s2 r2 ((g6, cR r2, 32) :: Lq) u at hW
      have HW := Lib.hid hW
      clear hW hP hD
      rw [puts_range [some 42, some 43, some 44, some 45, some 46, some 47, some 48, some 49, some 50, none, some 7] (by kernel_rfl)]
      simp only [putL, Nat.reduceAdd, e0, e1, e2, e3, e4, e5, e6, e7, e8, e10]
      clear e0 e1 e2 e3 e4 e5 e6 e7 e8 e10
      go_simp
      go_wp2
      exact bodyPost_ret (v := .tuple #[vR r2, .bool q]) (results_c2 (ad := ⟨g6, 0, none⟩) rfl rfl (load_R (HW.out.row List.mem_cons_self)) rfl) rfl ⟨r2, q, rfl, HE.out, HW.out.sub (by rw [hLq]; exact fun y hy => List.mem_cons_of_mem _ (List.mem_cons_of_mem _ (List.mem_cons_of_mem _ hy)))⟩

end Go.Proofs.YtlelecnafdddhaaDoor
