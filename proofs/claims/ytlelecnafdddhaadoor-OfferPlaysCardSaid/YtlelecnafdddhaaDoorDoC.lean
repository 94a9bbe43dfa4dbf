/- do: Hear. -/
import Derived.Test.YtlelecnafdddhaaDoorDoB
namespace Go.Proofs.YtlelecnafdddhaaDoor
open Go.RowKit
set_option maxRecDepth 100000 in
set_option maxHeartbeats 3200000 in
theorem do22_hear_bad (w0 : World) (b : Nat) (ch : Int) (s sr : St) (r : Rs) (x : Rop) (L : List (Nat × List Value × TypeId)) (w : World) (h : InvR w0 b ch s sr r L w) (g : Good ch s) (gr : Good ch sr) (hL : Laid w0) (hm : s.outs.length ≤ 100000) (hk : (x.kind.toNat : Int).tmod 5 = 2) (hchk : chk (toS x.c) ≠ 0) : Calls Tryd.prog 22 #[.pointer (some ⟨b, 0, none⟩), vR r, vQ x] w (DoE w0 b ch (hearS s (toS x.c)).1 (hearS sr (toS x.c)).1 (s = sr) L) := by
  have hI := h.enterDo x
  have hlts := h.lts
  have hB := h.bel.size
  obtain ⟨W3, hW⟩ : ∃ W3, ((w.alloc (.cells (aR r) 32)).alloc (.cells (aQ x) 57)).alloc (.cells (aR zR) 32) = W3 := ⟨_, rfl⟩
  rw [hW] at hI
  have r4 := hI.row (g := w.heap.size) (cs := cR r) (ty := 32) (by unfold doL; simp)
  have r5 := hI.row (g := w.heap.size + 1) (cs := cQ x) (ty := 57) (by unfold doL; simp)
  have r6 := hI.row (g := w.heap.size + 1 + 1) (cs := cR zR) (ty := 32) (by unfold doL; simp)
  obtain ⟨k1, ⟨k2, k2'⟩, k3, ⟨k4, k4'⟩, k5⟩ := row_Q r5
  obtain ⟨m4, m4'⟩ := r4.okw (cR_length r)
  change rdA _ _ 38 = vR r at m4'
  have n6 := r6.lt
  clear r4 r5 r6
  obtain ⟨c, hc⟩ : ∃ c, toS x.c = c := ⟨_, rfl⟩
  have HC := Lib.hid hc
  have HNM := Lib.hid (show c.name = ⟨#[]⟩ by rw [← hc]; rfl)
  rw [hc] at hchk ⊢
  obtain ⟨s1, ec1, hs1⟩ : ∃ s1 ec1, hearS s c = (s1, ec1) := ⟨_, _, rfl⟩
  obtain ⟨s2, ec2, hs2⟩ : ∃ s2 ec2, hearS sr c = (s2, ec2) := ⟨_, _, rfl⟩
  rw [hs1, hs2]
  dsimp only
  have b1 : hearS s c = (s, chk c) := by unfold hearS; rw [if_pos hchk]
  have b2 : hearS sr c = (sr, chk c) := by unfold hearS; rw [if_pos hchk]
  obtain ⟨f, hf⟩ : ∃ f, chk c = f := ⟨_, rfl⟩
  rw [b1, hf] at hs1
  rw [b2, hf] at hs2
  injection hs1 with e1 e2
  injection hs2 with e3 e4
  subst e1 e2 e3 e4
  rw [hf] at hchk b1
  have hf0 : (f != 0) = true := by simpa using hchk
  have HX := Lib.hid (And.intro hI (And.intro hlts (And.intro hB (And.intro g (And.intro gr (And.intro hL hm))))))
  have HF := Lib.hid (And.intro b1 hf)
  clear h hI hlts hB g gr hL hm hc b1 b2 hf hchk k1 k2 k2' k3
  have k1 : W3.cell? ⟨w.heap.size + 1, 0, none⟩ = some (.int .u8 (x.kind.toNat : Int)) := (HX.out.1.row (g := w.heap.size + 1) (cs := cQ x) (ty := 57) (by unfold doL; simp)).cell 0
  have T0 : True := trivial
  go_enter Tryd.func22, Tryd.ntmps22
  go_wp2_with (first
    | (have hh := T0; clear hh T0; go_at_call 30; refine (to30 x.c _).mono ?_; rintro e w1 ⟨rfl, hb1⟩; rw [HC.out]; have hI1 := HX.out.1.below hb1; have H1 := Lib.hid (hI1.alloc (cC c) 45); clear hI1 hb1; have T1 : True := trivial)
    | (have hh := T1; clear hh T1; go_at_call 19; refine (H1.out.call (s' := s) (fun F hF => by have hh := hear19 b ch s F c _ hF HX.out.2.2.2.1 (HX.out.2.2.2.2.2.1.keep H1.out.bel) HNM.out HX.out.2.2.2.2.2.2; rw [HF.out.1] at hh; exact hh)).mono ?_; rintro e w2 ⟨rfl, hI2⟩; obtain ⟨y16, y16'⟩ := (hI2.row (g := w1.heap.size) (cs := cC c) (ty := 45) (by unfold doL; simp)).okw (cC_length _); change rdA _ _ _ = vC c at y16'; have y16l := (hI2.row (g := w1.heap.size) (cs := cC c) (ty := 45) (by unfold doL; simp)).lt; have H2 := Lib.hid hI2; clear hI2; have T2 : True := trivial)
    | (have hh := T2; clear hh T2; go_at_call 41; refine (check41 c _ (HX.out.2.2.2.2.2.1.1.keep H2.out.bel) HNM.out).mono ?_; rintro e w3 ⟨rfl, hb3⟩; rw [HF.out.2]; have hI3 := H2.out.below hb3; clear y16 y16'; obtain ⟨y4, y4'⟩ := (hI3.row (g := w.heap.size) (cs := cR r) (ty := 32) (by unfold doL; simp)).okw (cR_length _); change rdA _ _ _ = vR r at y4'; have y4l := (hI3.row (g := w.heap.size) (cs := cR r) (ty := 32) (by unfold doL; simp)).lt; have y6 := (hI3.row (g := w.heap.size + 1 + 1) (cs := cR zR) (ty := 32) (by unfold doL; simp)).rok (cR_length zR); have H3 := Lib.hid hI3; clear hI3 hb3))
  obtain ⟨q1, q2⟩ := (H3.out.sub (L' := doL w.heap.size r x zR L) (fun y hy => List.mem_cons_of_mem _ hy)).leaveDo HX.out.2.2.1 HX.out.2.1 rfl
  exact bodyPost_ret (v := .tuple #[vR r, .bool true]) (results_c2 (ad := ⟨w.heap.size + 1 + 1, 0, none⟩) rfl rfl (load_R q1) rfl) rfl ⟨r, true, rfl, fun _ => rfl, q2⟩
set_option maxRecDepth 100000 in
set_option maxHeartbeats 3200000 in
theorem do22_hear_ok (w0 : World) (b : Nat) (ch : Int) (s sr : St) (r : Rs) (x : Rop) (L : List (Nat × List Value × TypeId)) (w : World) (h : InvR w0 b ch s sr r L w) (g : Good ch s) (gr : Good ch sr) (hL : Laid w0) (hm : s.outs.length ≤ 100000) (hmr : sr.outs.length ≤ 100000) (hk : (x.kind.toNat : Int).tmod 5 = 2) (hchk : chk (toS x.c) = 0) : Calls Tryd.prog 22 #[.pointer (some ⟨b, 0, none⟩), vR r, vQ x] w (DoE w0 b ch (hearS s (toS x.c)).1 (hearS sr (toS x.c)).1 (s = sr) L) := by
  have hI := h.enterDo x
  have hlts := h.lts
  have hB := h.bel.size
  obtain ⟨W3, hW⟩ : ∃ W3, ((w.alloc (.cells (aR r) 32)).alloc (.cells (aQ x) 57)).alloc (.cells (aR zR) 32) = W3 := ⟨_, rfl⟩
  rw [hW] at hI
  have r4 := hI.row (g := w.heap.size) (cs := cR r) (ty := 32) (by unfold doL; simp)
  have r5 := hI.row (g := w.heap.size + 1) (cs := cQ x) (ty := 57) (by unfold doL; simp)
  have r6 := hI.row (g := w.heap.size + 1 + 1) (cs := cR zR) (ty := 32) (by unfold doL; simp)
  obtain ⟨k1, ⟨k2, k2'⟩, k3, ⟨k4, k4'⟩, k5⟩ := row_Q r5
  obtain ⟨m4, m4'⟩ := r4.okw (cR_length r)
  change rdA _ _ 38 = vR r at m4'
  have n6 := r6.lt
  clear r4 r5 r6
  obtain ⟨c, hc⟩ : ∃ c, toS x.c = c := ⟨_, rfl⟩
  have HC := Lib.hid hc
  have HNM := Lib.hid (show c.name = ⟨#[]⟩ by rw [← hc]; rfl)
  rw [hc] at hchk ⊢
  obtain ⟨s1, ec1, hs1⟩ : ∃ s1 ec1, hearS s c = (s1, ec1) := ⟨_, _, rfl⟩
  obtain ⟨s2, ec2, hs2⟩ : ∃ s2 ec2, hearS sr c = (s2, ec2) := ⟨_, _, rfl⟩
  rw [hs1, hs2]
  dsimp only
  have HE1 := Lib.hid (fun e : s = sr => show ec1 = ec2 by rw [e, hs2] at hs1; exact congrArg Prod.snd hs1.symm)
  have HX := Lib.hid (And.intro hI (And.intro hlts (And.intro hB (And.intro g (And.intro gr (And.intro hL (And.intro hm hmr)))))))
  have HF := Lib.hid (And.intro hs1 (And.intro hchk hs2))
  clear h hI hlts hB g gr hL hm hmr hc hs1 hs2 hchk k1 k2 k2' k3
  have k1 : W3.cell? ⟨w.heap.size + 1, 0, none⟩ = some (.int .u8 (x.kind.toNat : Int)) := (HX.out.1.row (g := w.heap.size + 1) (cs := cQ x) (ty := 57) (by unfold doL; simp)).cell 0
  have T0 : True := trivial
  go_enter Tryd.func22, Tryd.ntmps22
  go_wp2_with (first
    | (have hh := T0; clear hh T0; go_at_call 30; refine (to30 x.c _).mono ?_; rintro e w1 ⟨rfl, hb1⟩; rw [HC.out]; have hI1 := HX.out.1.below hb1; have H1 := Lib.hid (hI1.alloc (cC c) 45); have Hn1 := Lib.hid (hI1.lts (w.heap.size + 1 + 1, cR zR, 32) (by unfold doL; simp)); clear hI1 hb1; have T1 : True := trivial)
    | (have hh := T1; clear hh T1; go_at_call 19; refine (H1.out.call (s' := s1) (fun F hF => by have hh := hear19 b ch s F c _ hF HX.out.2.2.2.1 (HX.out.2.2.2.2.2.1.keep H1.out.bel) HNM.out HX.out.2.2.2.2.2.2.1; rw [HF.out.1] at hh; exact hh)).mono ?_; rintro e w2 ⟨rfl, hI2⟩; obtain ⟨y16, y16'⟩ := (hI2.row (g := w1.heap.size) (cs := cC c) (ty := 45) (by unfold doL; simp)).okw (cC_length _); change rdA _ _ _ = vC c at y16'; have y16l := (hI2.row (g := w1.heap.size) (cs := cC c) (ty := 45) (by unfold doL; simp)).lt; have H2 := Lib.hid hI2; clear hI2; have T2 : True := trivial)
    | (have hh := T2; clear hh T2; go_at_call 41; refine (check41 c _ (HX.out.2.2.2.2.2.1.1.keep H2.out.bel) HNM.out).mono ?_; rintro e U ⟨rfl, hb3⟩; rw [HF.out.2.1]; have hI3 := H2.out.below hb3; clear y16 y16' y16l; have H3 := Lib.hid hI3; clear hI3 hb3))
  obtain ⟨g4, hg4⟩ : ∃ g4, g4 = w.heap.size := ⟨_, rfl⟩
  obtain ⟨g5, hg5⟩ : ∃ g5, g5 = w.heap.size + 1 := ⟨_, rfl⟩
  obtain ⟨g6, hg6⟩ : ∃ g6, g6 = w.heap.size + 1 + 1 := ⟨_, rfl⟩
  obtain ⟨g16, hg16⟩ : ∃ g16, g16 = w1.heap.size := ⟨_, rfl⟩
  obtain ⟨Lz, hLz⟩ : ∃ Lz : List (Nat × List Value × TypeId), Lz = (g6, cR zR, 32) :: (g16, cC c, 45) :: (g4, cR r, 32) :: L := ⟨_, rfl⟩
  have HI := Lib.hid (show InvR w0 b ch s1 sr r Lz U from H3.out.sub fun y hy => by
    rw [hLz, hg4, hg6, hg16] at hy
    unfold doL
    simp only [List.mem_cons] at hy ⊢
    rcases hy with rfl | rfl | rfl | hy
    · simp
    · simp
    · simp
    · simp [hy])
  have HM16 := Lib.hid (show (g16, cC c, 45) ∈ Lz from by rw [hLz]; with_reducible repeat (first | exact List.mem_cons_self | apply List.mem_cons_of_mem))
  have HM4 := Lib.hid (show (g4, cR r, 32) ∈ Lz from by rw [hLz]; with_reducible repeat (first | exact List.mem_cons_self | apply List.mem_cons_of_mem))
  have HG6 := Lib.hid (show w0.heap.size ≤ g6 ∧ ∀ y ∈ (g16, cC c, 45) :: (g4, cR r, 32) :: L, y.1 ≠ g6 from ⟨by have := HX.out.2.2.1; omega, fun y hy => by
    simp only [List.mem_cons] at hy
    have := Hn1.out
    rcases hy with rfl | rfl | hy
    · show g16 ≠ g6; omega
    · show g4 ≠ g6; omega
    · have := HX.out.2.1 y hy; omega⟩)
  rw [← hg16, ← hg6, ← hg5, ← hg4]
  obtain ⟨q, hq⟩ : ∃ q, (ec1 == ec2) = q := ⟨_, rfl⟩
  have HE := Lib.hid (show s = sr → q = true from fun e => by rw [← hq, HE1.out e]; simp)
  have HQ := Lib.hid hq
  clear hg16 hg4 hg5 hg6 hq H3 H2 H1 m4 m4' k1 hW hk n6
  refine AnyO.wp_anyI (by kernel_rfl) (by kernel_rfl) (AnyO.InvG (σ := Rs × Nat) (fun σ => AnyO.pvL [some (vR r), some (vC c), some (vK (ofS c)), some (.tuple #[vR σ.1, .int .i64 ec2]), some (.tuple #[vR σ.1, .int .i64 ec2]), some (vR σ.1), some (.int .i64 ec2), some (.pointer (some ⟨σ.2, 0, none⟩)), none, some (.int .i64 ec2)]) (fun (σ : Rs × Nat) D u => InvR w0 b ch s1 (bif D 3 then s2 else sr) (bif D 3 then σ.1 else r) ((bif D 7 then [(σ.2, (bif D 8 then cR σ.1 else cR zR), 32)] else []) ++ Lz) u ∧ (D 7 = true → w0.heap.size ≤ σ.2 ∧ ∀ y ∈ Lz, y.1 ≠ σ.2))) (AnyO.InvG.start (g := (zR, 0)) (⟨by show InvR w0 b ch s1 sr r Lz U.drew; exact HI.out.below (below_drew _), fun h => by cases h⟩)) ?_ ?_
  · intro i hi
    have hi2 : i = 0 ∨ i = 1 ∨ i = 2 ∨ i = 3 ∨ i = 4 ∨ i = 5 ∨ i = 6 ∨ i = 7 ∨ i = 8 ∨ i = 9 := by first | (simp only [List.size_toArray, List.length_cons, List.length_nil] at hi; omega) | (simp only [List.size_toArray, List.append_eq, List.length_append, List.length_cons, List.length_nil] at hi; omega)
    clear hi
    rcases hi2 with rfl | rfl | rfl | rfl | rfl | rfl | rfl | rfl | rfl | rfl
    · -- 0: Op.load 32 (Operand.tmp 4)
      refine AnyO.StepI.mk rfl [] (by kernel_rfl) ?_
      intro D vs u hI h0 hC hp ac hb K hK
      obtain ⟨σ, hP, hW⟩ := hI
      have s4 : ac.tmps[4]?.getD undef = .pointer (some ⟨g4, 0, none⟩) := by rw [hb]; kernel_rfl
      rw [if_pos (AnyO.wanted_none rfl)]
      clear hb hp
      have RR := hW.1.row (g := g4) (cs := cR r) (ty := 32) (List.mem_append_right _ HM4.out)
      obtain ⟨rr1, rr2⟩ := RR.okw (cR_length _)
      change rdA _ _ _ = vR r at rr2
      clear RR
      clear hC
      clear h0
      have HP := Lib.hid hP
      have HWq := Lib.hid hW
      clear hP hW
      go_simp
      have hP := HP.out
      have hW := HWq.out
      clear HP HWq
      exact hK _ _ (AnyO.InvG.step (g := σ) hP rfl hW)
    · -- 1: Op.load 45 (Operand.tmp 16)
      refine AnyO.StepI.mk rfl [] (by kernel_rfl) ?_
      intro D vs u hI h0 hC hp ac hb K hK
      obtain ⟨σ, hP, hW⟩ := hI
      have s16 : ac.tmps[16]?.getD undef = .pointer (some ⟨g16, 0, none⟩) := by rw [hb]; kernel_rfl
      rw [if_pos (AnyO.wanted_none rfl)]
      clear hb hp
      have RR := hW.1.row (g := g16) (cs := cC c) (ty := 45) (List.mem_append_right _ HM16.out)
      obtain ⟨rr1, rr2⟩ := RR.okw (cC_length _)
      change rdA _ _ _ = vC c at rr2
      clear RR
      clear hC
      clear h0
      have HP := Lib.hid hP
      have HWq := Lib.hid hW
      clear hP hW
      go_simp
      have hP := HP.out
      have hW := HWq.out
      clear HP HWq
      exact hK _ _ (AnyO.InvG.step (g := σ) hP rfl hW)
    · -- 2: Op.call { callee := Callee.value (Operand.func 44), args := 
      refine AnyO.StepI.mk rfl [1] (by kernel_rfl) ?_
      intro D vs u hI h0 hC hp ac hb K hK
      obtain ⟨σ, hP, hW⟩ := hI
      have s111 : ac.tmps[111]?.getD undef = vC c := by rw [hb]; exact (show _ = vs 1 by kernel_rfl).trans (show vs 1 = vC c from hP 1 (hp 1 (by decide)))
      rw [if_pos (AnyO.wanted_none rfl)]
      clear hb hp
      clear hC
      clear h0
      have HP := Lib.hid hP
      have HWq := Lib.hid hW
      clear hP hW
      go_simp
      have hP := HP.out
      have hW := HWq.out
      clear HP HWq
      go_at_call 44
      refine (of44 c u).mono ?_
      rintro e w2 ⟨rfl, hb⟩
      exact hK _ _ (AnyO.InvG.step (g := σ) hP rfl ⟨hW.1.below hb, hW.2⟩)
    · -- 3: Op.call { callee := Callee.value (Operand.func 45), args := 
      refine AnyO.StepI.mk rfl [0, 2, 2] (by kernel_rfl) ?_
      intro D vs u hI h0 hC hp ac hb K hK
      obtain ⟨σ, hP, hW⟩ := hI
      have s110 : ac.tmps[110]?.getD undef = vR r := by rw [hb]; exact (show _ = vs 0 by kernel_rfl).trans (show vs 0 = vR r from hP 0 (hp 0 (by decide)))
      have s112 : ac.tmps[112]?.getD undef = vK (ofS c) := by rw [hb]; exact (show _ = vs 2 by kernel_rfl).trans (show vs 2 = vK (ofS c) from hP 2 (hp 2 (by decide)))
      rw [if_pos (AnyO.wanted_none rfl)]
      clear hb hp
      have hf4 : D 4 = false := by
        rcases hd : D 4 with _ | _
        · rfl
        · have hz := hC 4 hd 3 (by rw [show AnyO.pre _ 4 = [3] from by kernel_rfl]; decide)
          rw [h0] at hz
          cases hz
      have hf5 : D 5 = false := by
        rcases hd : D 5 with _ | _
        · rfl
        · have hz := hC 5 hd 4 (by rw [show AnyO.pre _ 5 = [4] from by kernel_rfl]; decide)
          rw [hf4] at hz
          cases hz
      have hf6 : D 6 = false := by
        rcases hd : D 6 with _ | _
        · rfl
        · have hz := hC 6 hd 4 (by rw [show AnyO.pre _ 6 = [4] from by kernel_rfl]; decide)
          rw [hf4] at hz
          cases hz
      have hf8 : D 8 = false := by
        rcases hd : D 8 with _ | _
        · rfl
        · have hz := hC 8 hd 5 (by rw [show AnyO.pre _ 8 = [7, 5, 3, 0, 1, 2, 3, 4, 5, 7] from by kernel_rfl]; decide)
          rw [hf5] at hz
          cases hz
      have hf9 : D 9 = false := by
        rcases hd : D 9 with _ | _
        · rfl
        · have hz := hC 9 hd 6 (by rw [show AnyO.pre _ 9 = [6, 8, 0, 1, 2, 3, 4, 5, 6, 7, 8] from by kernel_rfl]; decide)
          rw [hf6] at hz
          cases hz
      clear hC
      have HP := Lib.hid hP
      have HWq := Lib.hid hW
      clear hP hW
      go_simp
      have hP := HP.out
      have hW := HWq.out
      clear HP HWq
      go_at_call 45
      rw [h0, hf8] at hW
      refine (InvR.ref (val := fun q => .tuple #[vR q, .int .i64 ec2]) (sr' := s2) hW.1 (fun F hF ha => by have hh := refHear45 F ch sr r c _ ha HX.out.2.2.2.2.1 hF HF.out.2.1 HX.out.2.2.2.2.2.2.2; rw [HF.out.2.2] at hh; exact hh)).mono ?_
      rintro e w2 ⟨r9, rfl, hI9⟩
      refine hK _ _ (AnyO.InvG.ghost (g := σ) (r9, σ.2) hP ?_ rfl ?_)
      · intro j hj hq
        rcases j with _ | _ | _ | _ | _ | _ | _ | _ | _ | _ | j
        · exact hq
        · exact hq
        · exact hq
        · exact absurd (show D 3 = true from hj) (by rw [h0]; decide)
        · exact absurd (show D 4 = true from hj) (by rw [hf4]; decide)
        · exact absurd (show D 5 = true from hj) (by rw [hf5]; decide)
        · exact absurd (show D 6 = true from hj) (by rw [hf6]; decide)
        · exact hq
        · exact absurd (show D 8 = true from hj) (by rw [hf8]; decide)
        · exact absurd (show D 9 = true from hj) (by rw [hf9]; decide)
        · exact hq
      · show InvR w0 b ch s1 s2 r9 ((bif D 7 then [(σ.2, (bif D 8 then cR r9 else cR zR), 32)] else []) ++ Lz) w2 ∧ (D 7 = true → w0.heap.size ≤ σ.2 ∧ ∀ y ∈ Lz, y.1 ≠ σ.2)
        rw [hf8]
        exact ⟨hI9, hW.2⟩
    · -- 4: Op.move (Operand.tmp 113)
      refine AnyO.StepI.mk rfl [3] (by kernel_rfl) ?_
      intro D vs u hI h0 hC hp ac hb K hK
      obtain ⟨σ, hP, hW⟩ := hI
      have s113 : ac.tmps[113]?.getD undef = .tuple #[vR σ.1, .int .i64 ec2] := by rw [hb]; exact (show _ = vs 3 by kernel_rfl).trans (show vs 3 = .tuple #[vR σ.1, .int .i64 ec2] from hP 3 (hp 3 (by decide)))
      rw [if_pos (AnyO.wanted_none rfl)]
      clear hb hp
      clear hC
      clear h0
      have HP := Lib.hid hP
      have HWq := Lib.hid hW
      clear hP hW
      go_simp
      have hP := HP.out
      have hW := HWq.out
      clear HP HWq
      exact hK _ _ (AnyO.InvG.step (g := σ) hP rfl hW)
    · -- 5: Op.extract (Operand.tmp 109) 0
      refine AnyO.StepI.mk rfl [4] (by kernel_rfl) ?_
      intro D vs u hI h0 hC hp ac hb K hK
      obtain ⟨σ, hP, hW⟩ := hI
      have s109 : ac.tmps[109]?.getD undef = .tuple #[vR σ.1, .int .i64 ec2] := by rw [hb]; exact (show _ = vs 4 by kernel_rfl).trans (show vs 4 = .tuple #[vR σ.1, .int .i64 ec2] from hP 4 (hp 4 (by decide)))
      rw [if_pos (AnyO.wanted_none rfl)]
      clear hb hp
      clear hC
      clear h0
      have HP := Lib.hid hP
      have HWq := Lib.hid hW
      clear hP hW
      go_simp
      have hP := HP.out
      have hW := HWq.out
      clear HP HWq
      exact hK _ _ (AnyO.InvG.step (g := σ) hP rfl hW)
    · -- 6: Op.extract (Operand.tmp 109) 1
      refine AnyO.StepI.mk rfl [4] (by kernel_rfl) ?_
      intro D vs u hI h0 hC hp ac hb K hK
      obtain ⟨σ, hP, hW⟩ := hI
      have s109 : ac.tmps[109]?.getD undef = .tuple #[vR σ.1, .int .i64 ec2] := by rw [hb]; exact (show _ = vs 4 by kernel_rfl).trans (show vs 4 = .tuple #[vR σ.1, .int .i64 ec2] from hP 4 (hp 4 (by decide)))
      rw [if_pos (AnyO.wanted_none rfl)]
      clear hb hp
      clear hC
      clear h0
      have HP := Lib.hid hP
      have HWq := Lib.hid hW
      clear hP hW
      go_simp
      have hP := HP.out
      have hW := HWq.out
      clear HP HWq
      exact hK _ _ (AnyO.InvG.step (g := σ) hP rfl hW)
    · -- 7: Op.alloc 32
      refine AnyO.StepI.mk rfl [] (by kernel_rfl) ?_
      intro D vs u hI h0 hC hp ac hb K hK
      obtain ⟨σ, hP, hW⟩ := hI
      rw [if_pos (AnyO.wanted_none rfl)]
      clear hb hp
      have hf8 : D 8 = false := by
        rcases hd : D 8 with _ | _
        · rfl
        · have hz := hC 8 hd 7 (by rw [show AnyO.pre _ 8 = [7, 5, 3, 0, 1, 2, 3, 4, 5, 7] from by kernel_rfl]; decide)
          rw [h0] at hz
          cases hz
      have hf9 : D 9 = false := by
        rcases hd : D 9 with _ | _
        · rfl
        · have hz := hC 9 hd 8 (by rw [show AnyO.pre _ 9 = [6, 8, 0, 1, 2, 3, 4, 5, 6, 7, 8] from by kernel_rfl]; decide)
          rw [hf8] at hz
          cases hz
      clear hC
      have HP := Lib.hid hP
      have HWq := Lib.hid hW
      clear hP hW
      go_simp
      have hP := HP.out
      have hW := HWq.out
      clear HP HWq
      rw [h0, hf8] at hW
      have hA := hW.1.alloc (cR zR) 32
      refine hK _ _ (AnyO.InvG.ghost (g := σ) (σ.1, u.heap.size) hP ?_ rfl ?_)
      · intro j hj hq
        rcases j with _ | _ | _ | _ | _ | _ | _ | _ | _ | _ | j
        · exact hq
        · exact hq
        · exact hq
        · exact hq
        · exact hq
        · exact hq
        · exact hq
        · exact absurd (show D 7 = true from hj) (by rw [h0]; decide)
        · exact absurd (show D 8 = true from hj) (by rw [hf8]; decide)
        · exact absurd (show D 9 = true from hj) (by rw [hf9]; decide)
        · exact hq
      · show InvR w0 b ch s1 (bif D 3 then s2 else sr) (bif D 3 then σ.1 else r) ([(u.heap.size, (bif D 8 then cR σ.1 else cR zR), 32)] ++ Lz) _ ∧ (true = true → w0.heap.size ≤ u.heap.size ∧ ∀ y ∈ Lz, y.1 ≠ u.heap.size)
        rw [hf8]
        exact ⟨hA, fun _ => ⟨hW.1.size, fun y hy => Nat.ne_of_lt (hW.1.lts y hy)⟩⟩
    · -- 8: Op.store 32 (Operand.tmp 19) (Operand.tmp 114)
      refine AnyO.StepI.mk rfl [7, 5, 3, 0, 1, 2, 3, 4, 5, 7] (by kernel_rfl) ?_
      intro D vs u hI h0 hC hp ac hb K hK
      obtain ⟨σ, hP, hW⟩ := hI
      have s19 : ac.tmps[19]?.getD undef = .pointer (some ⟨σ.2, 0, none⟩) := by rw [hb]; exact (show _ = vs 7 by kernel_rfl).trans (show vs 7 = .pointer (some ⟨σ.2, 0, none⟩) from hP 7 (hp 7 (by decide)))
      have s114 : ac.tmps[114]?.getD undef = vR σ.1 := by rw [hb]; exact (show _ = vs 5 by kernel_rfl).trans (show vs 5 = vR σ.1 from hP 5 (hp 5 (by decide)))
      rw [if_pos (AnyO.wanted_none rfl)]
      have hp3 : D 3 = true := hp 3 (by decide)
      have hp7 : D 7 = true := hp 7 (by decide)
      clear hb hp
      have h3 := hp3
      have h7 := hp7
      rw [h0, h3, h7] at hW
      have RR := hW.1.row (g := σ.2) (cs := cR zR) (ty := 32) List.mem_cons_self
      have rr := RR.rok (cR_length zR)
      clear RR
      clear hC
      have HP := Lib.hid hP
      have HWq := Lib.hid hW
      clear hP hW
      go_simp
      have hP := HP.out
      have hW := HWq.out
      clear HP HWq
      refine hK undef _ (AnyO.InvG.step (g := σ) hP trivial ?_)
      show InvR w0 b ch s1 (bif D 3 then s2 else sr) (bif D 3 then σ.1 else r) ((bif D 7 then [(σ.2, cR σ.1, 32)] else []) ++ Lz) _ ∧ (D 7 = true → w0.heap.size ≤ σ.2 ∧ ∀ y ∈ Lz, y.1 ≠ σ.2)
      rw [h3, h7]
      exact ⟨InvR.setRow (cs := cR zR) hW.1 (hW.2 rfl).1 (hW.2 rfl).2 (cR σ.1), hW.2⟩
    · -- 9: Op.assign (Operand.tmp 115)
      refine AnyO.StepI.mk rfl [6, 8, 0, 1, 2, 3, 4, 5, 6, 7, 8] (by kernel_rfl) ?_
      intro D vs u hI h0 hC hp ac hb K hK
      obtain ⟨σ, hP, hW⟩ := hI
      have s115 : ac.tmps[115]?.getD undef = .int .i64 ec2 := by rw [hb]; exact (show _ = vs 6 by kernel_rfl).trans (show vs 6 = .int .i64 ec2 from hP 6 (hp 6 (by decide)))
      rw [if_pos (AnyO.wanted_none rfl)]
      clear hb hp
      clear hC
      clear h0
      have HP := Lib.hid hP
      have HWq := Lib.hid hW
      clear hP hW
      go_simp
      have hP := HP.out
      have hW := HWq.out
      clear HP HWq
      exact hK _ _ (AnyO.InvG.step (g := σ) hP rfl hW)
  · intro D vs u hI hD
    obtain ⟨σ, hP, hW⟩ := hI
    have e0 : vs 0 = vR r := hP 0 (hD 0 (by decide))
    have e1 : vs 1 = vC c := hP 1 (hD 1 (by decide))
    have e2 : vs 2 = vK (ofS c) := hP 2 (hD 2 (by decide))
    have e3 : vs 3 = .tuple #[vR σ.1, .int .i64 ec2] := hP 3 (hD 3 (by decide))
    have e4 : vs 4 = .tuple #[vR σ.1, .int .i64 ec2] := hP 4 (hD 4 (by decide))
    have e5 : vs 5 = vR σ.1 := hP 5 (hD 5 (by decide))
    have e6 : vs 6 = .int .i64 ec2 := hP 6 (hD 6 (by decide))
    have e7 : vs 7 = .pointer (some ⟨σ.2, 0, none⟩) := hP 7 (hD 7 (by decide))
    have e9 : vs 9 = .int .i64 ec2 := hP 9 (hD 9 (by decide))
    rw [hD 3 (by decide), hD 7 (by decide), hD 8 (by decide)] at hW
    change InvR w0 b ch s1 s2 σ.1 ((σ.2, cR σ.1, 32) :: Lz) u ∧ _ at hW
    have HW := Lib.hid hW
    clear hW hP hD
    rw [puts_range [some 110, some 111, some 112, some 113, some 109, some 114, some 115, some 19, none, some 20] (by kernel_rfl)]
    simp only [putL, Nat.reduceAdd, e0, e1, e2, e3, e4, e5, e6, e7, e9]
    clear e0 e1 e2 e3 e4 e5 e6 e7 e9
    obtain ⟨r9, g19⟩ := σ
    dsimp only at HW ⊢
    have HN := Lib.hid (HW.out.2 rfl)
    have HI2 := Lib.hid (show InvR w0 b ch s1 s2 r9 ((g6, cR zR, 32) :: (g19, cR r9, 32) :: L) u from HW.out.1.sub fun y hy => by
      rw [hLz]
      simp only [List.mem_cons] at hy ⊢
      rcases hy with rfl | rfl | hy
      · simp
      · simp
      · simp [hy])
    obtain ⟨m19, m19'⟩ := (HI2.out.row (g := g19) (cs := cR r9) (ty := 32) (by with_reducible repeat (first | exact List.mem_cons_self | apply List.mem_cons_of_mem))).okw (cR_length _)
    change rdA _ _ _ = vR r9 at m19'
    have m6 := (HI2.out.row (g := g6) (cs := cR zR) (ty := 32) List.mem_cons_self).rok (cR_length zR)
    have e := HQ.out
    go_simp
    go_wp2
    have HZ := InvR.setRow (cs := cR zR) HI2.out HG6.out.1 (fun y hy => by
      rcases List.mem_cons.1 hy with rfl | hy
      · exact fun e => HN.out.2 (g6, cR zR, 32) (by rw [hLz]; exact List.mem_cons_self) e.symm
      · exact HG6.out.2 y (List.mem_cons_of_mem _ (List.mem_cons_of_mem _ hy))) (cR r9)
    exact bodyPost_ret (v := .tuple #[vR r9, .bool q]) (results_c2 (ad := ⟨g6, 0, none⟩) rfl rfl (load_R (HZ.row List.mem_cons_self)) rfl) rfl ⟨r9, q, rfl, HE.out, HZ.sub fun y hy => List.mem_cons_of_mem _ (List.mem_cons_of_mem _ hy)⟩

end Go.Proofs.YtlelecnafdddhaaDoor
