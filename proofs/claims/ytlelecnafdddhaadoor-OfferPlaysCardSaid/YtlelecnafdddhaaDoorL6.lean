/- bulletinlaw33.OfferPlays. -/
import Derived.Test.YtlelecnafdddhaaDoorDoE
namespace Go.Proofs.YtlelecnafdddhaaDoor
open Go.RowKit
theorem InvR.views {w0 w : World} {b : Nat} {ch : Int} {s : St} {r : Rs} {L : List (Nat × List Value × TypeId)} (h : InvR w0 b ch s s r L w) (g : Good ch s) : Calls Tryd.prog 24 #[.pointer (some ⟨b, 0, none⟩), vR r] w fun e w' => e = .returned (.bool true) ∧ InvR w0 b ch s s r L w' := by
  obtain ⟨F, h1, _, _, h4⟩ := h.rep
  refine (views24 b ch s F r w h1 (h4.sub fun k hk => List.mem_append_left _ hk) (fun e => by rw [g.idle e]; rfl) (Nat.le_trans g.len (by decide))).mono ?_
  rintro e w' ⟨rfl, hb⟩
  exact ⟨rfl, h.below hb⟩
set_option maxRecDepth 100000 in
set_option maxHeartbeats 3200000 in
theorem law6 (c : UInt8) (A : Option Addr) (n cp : Nat) (xs : List Rop) (w : World) (hL : Laid w) (hn : xs.length = n) (hs : Sl w cQ A xs) : Calls Tryd.prog 6 #[.int .u8 (c.toNat : Int), .slice A n cp] w fun e w' => e = .returned (.bool true) ∧ Below w.heap.size w w' := by
  have HX := Lib.hid hL
  have HXS := Lib.hid hs
  have HN := Lib.hid hn
  have l1 := chunkN_lo c
  have l2 := chunkN_hi c
  obtain ⟨ch, hch⟩ : ∃ ch, chunkN c = ch := ⟨_, rfl⟩
  rw [hch] at l1 l2
  have HCH := Lib.hid hch
  have H64 := Lib.hid (And.intro l1 l2)
  clear hL hs hn l1 l2 hch
  have T0 : True := trivial
  go_enter Tryd.func6, Tryd.ntmps6
  go_wp2_with (first
    | (have hh := T0; clear hh T0; go_at_call 13; refine (known13 w HX.out.1 HX.out.2).mono ?_; rintro e w1 ⟨rfl, hb⟩; have H1 := Lib.hid hb; clear hb; have T1 : True := trivial)
    | (have hh := T1; clear hh T1; go_at_call 17; refine (begin17 c _).mono ?_; rintro e w2 ⟨b, r, rfl, hlb, hr, hra, hbl⟩; rw [HCH.out] at hr hra; have hI := InvR.start (L := []) H1.out (fun x hx => by cases hx) hlb hr hra hbl; have HB62 := Lib.hid hI.size; have H2 := Lib.hid (hI.alloc (cR r) 32); clear hI hr hra hbl hlb))
  have H2' := Lib.hid (show InvR w b ch St.zero St.zero r [(w2.heap.size, cR r, 32)] (w2.alloc (.cells (aR r) 32)) from H2.out)
  obtain ⟨g6, hg6⟩ : ∃ g6, g6 = w2.heap.size := ⟨_, rfl⟩
  obtain ⟨U0, hU0⟩ : ∃ U0, w2.alloc (.cells (aR r) 32) = U0 := ⟨_, rfl⟩
  rw [hU0, ← hg6] at H2'
  rw [← hg6] at HB62
  rw [hU0, ← hg6]
  clear H2 hU0 hg6
  go_loopw [7] (fun i wr => ∃ (k : Nat) (s : St) (r : Rs), k ≤ 60 ∧ i = .int .i64 (k : Int) ∧ Good ch s ∧ s.outs.length ≤ k ∧ InvR w b ch s s r [(g6, cR r, 32)] wr) (fun i _ => 60 - (intOf i).toNat)
  case atStart => exact ⟨0, St.zero, r, by omega, rfl, Good.zero H64.out.1 (by have := H64.out.2; omega), Nat.le_refl _, H2'.out⟩
  case round =>
    obtain ⟨k, s, r, hk, rfl, hgd, hou, hI⟩ := hrel
    by_cases hkn : k < n
    case neg =>
      have hlk : ¬ (k : Int) < (n : Int) := by omega
      have HI := Lib.hid hI
      clear hI hgd hou
      go_wp2
      go_ret
      exact ⟨rfl, HI.out.bel⟩
    by_cases hk60 : k < 60
    case neg =>
      have hlk : (k : Int) < (n : Int) := by omega
      have h60 : ¬ (k : Int) < 60 := by omega
      have HI := Lib.hid hI
      clear hI hgd hou
      go_wp2
      go_ret
      exact ⟨rfl, HI.out.bel⟩
    have hlk : (k : Int) < (n : Int) := by omega
    have h60 : (k : Int) < 60 := by omega
    have hlx : k < xs.length := by rw [HN.out]; exact hkn
    obtain ⟨ad, rfl, hz⟩ := opAt HXS.out hlx
    clear hz
    obtain ⟨x, hx⟩ : ∃ x, xs[k]'hlx = x := ⟨_, rfl⟩
    have HLX := Lib.hid hlx
    have HXK := Lib.hid hx
    have HLK := Lib.hid hlk
    obtain ⟨s1, hs1⟩ : ∃ s1, opS ch s x = s1 := ⟨_, rfl⟩
    have HGD := Lib.hid (And.intro hgd (And.intro hou (And.intro hs1 hk60)))
    obtain ⟨Lz, hLz⟩ : ∃ Lz : List (Nat × List Value × TypeId), Lz = [(g6, cR r, 32)] := ⟨_, rfl⟩
    have HM := Lib.hid (show (g6, cR r, 32) ∈ Lz from by rw [hLz]; exact List.mem_cons_self)
    have HI := Lib.hid (show InvR w b ch s s r Lz wr by rw [hLz]; exact hI)
    have HLZ := Lib.hid hLz
    clear hI hgd hou hx hs1 hkn hk60 hLz hk
    go_wp2
    refine AnyO.wp_anyI (by kernel_rfl) (by kernel_rfl) (AnyO.InvG (σ := Rs × Nat) (fun σ => AnyO.pvL [some (.pointer (some ⟨b, 0, none⟩)), some (vR r), some (.slice (some ad) n cp), some (.int .i64 (k : Int)), some (.pointer (some (ad.add (k * 71)))), some (vQ x), some (.tuple #[vR σ.1, .bool true]), some (.tuple #[vR σ.1, .bool true]), some (vR σ.1), some (.bool true), some (.pointer (some ⟨σ.2, 0, none⟩)), none, some (.bool true)]) (fun (σ : Rs × Nat) D u => InvR w b ch (bif D 6 then s1 else s) (bif D 6 then s1 else s) (bif D 6 then σ.1 else r) ((bif D 10 then [(σ.2, (bif D 11 then cR σ.1 else cR zR), 32)] else []) ++ Lz) u ∧ (D 10 = true → w.heap.size ≤ σ.2 ∧ ∀ y ∈ Lz, y.1 ≠ σ.2))) (AnyO.InvG.start (g := (r, 0)) (⟨by show InvR w b ch s s r Lz _; exact HI.out.below (below_drew _), fun h => by cases h⟩)) ?_ ?_
    · intro i hi
      have hi2 : i = 0 ∨ i = 1 ∨ i = 2 ∨ i = 3 ∨ i = 4 ∨ i = 5 ∨ i = 6 ∨ i = 7 ∨ i = 8 ∨ i = 9 ∨ i = 10 ∨ i = 11 ∨ i = 12 := by first | (simp only [List.size_toArray, List.length_cons, List.length_nil] at hi; omega) | (simp only [List.size_toArray, List.append_eq, List.length_append, List.length_cons, List.length_nil] at hi; omega)
      clear hi
      rcases hi2 with rfl | rfl | rfl | rfl | rfl | rfl | rfl | rfl | rfl | rfl | rfl | rfl | rfl
      · -- 0: Op.move (Operand.tmp 5)
        refine AnyO.StepI.mk rfl [] (by kernel_rfl) ?_
        intro D vs u hI h0 hC hp ac hb K hK
        obtain ⟨σ, hP, hW⟩ := hI
        have s5 : ac.tmps[5]?.getD undef = .pointer (some ⟨b, 0, none⟩) := by rw [hb]; kernel_rfl
        rw [if_pos (AnyO.wanted_none rfl)]
        clear hb hp
        clear hC
        clear h0
        have HP := Lib.hid hP
        have HWq := Lib.hid hW
        clear hP hW
        go_simp
        have hP := HP.out
        have hW := HWq.out
        clear HP HWq
        exact hK _ _ (AnyO.InvG.step (g := σ) hP rfl hW)
      · -- 1: Op.load 32 (Operand.tmp 6)
        refine AnyO.StepI.mk rfl [] (by kernel_rfl) ?_
        intro D vs u hI h0 hC hp ac hb K hK
        obtain ⟨σ, hP, hW⟩ := hI
        have s6 : ac.tmps[6]?.getD undef = .pointer (some ⟨g6, 0, none⟩) := by rw [hb]; kernel_rfl
        rw [if_pos (AnyO.wanted_none rfl)]
        clear hb hp
        have RR := hW.1.row (g := g6) (cs := cR r) (ty := 32) (List.mem_append_right _ HM.out)
        obtain ⟨rr1, rr2⟩ := RR.okw (cR_length _)
        change rdA _ _ _ = vR r at rr2
        clear RR
        clear hC
        clear h0
        have HP := Lib.hid hP
        have HWq := Lib.hid hW
        clear hP hW
        go_simp
        have hP := HP.out
        have hW := HWq.out
        clear HP HWq
        exact hK _ _ (AnyO.InvG.step (g := σ) hP rfl hW)
      · -- 2: Op.move (Operand.tmp 1)
        refine AnyO.StepI.mk rfl [] (by kernel_rfl) ?_
        intro D vs u hI h0 hC hp ac hb K hK
        obtain ⟨σ, hP, hW⟩ := hI
        have s1 : ac.tmps[1]?.getD undef = .slice (some ad) n cp := by rw [hb]; kernel_rfl
        rw [if_pos (AnyO.wanted_none rfl)]
        clear hb hp
        clear hC
        clear h0
        have HP := Lib.hid hP
        have HWq := Lib.hid hW
        clear hP hW
        go_simp
        have hP := HP.out
        have hW := HWq.out
        clear HP HWq
        exact hK _ _ (AnyO.InvG.step (g := σ) hP rfl hW)
      · -- 3: Op.move (Operand.tmp 7)
        refine AnyO.StepI.mk rfl [] (by kernel_rfl) ?_
        intro D vs u hI h0 hC hp ac hb K hK
        obtain ⟨σ, hP, hW⟩ := hI
        have s7 : ac.tmps[7]?.getD undef = .int .i64 (k : Int) := by rw [hb]; kernel_rfl
        rw [if_pos (AnyO.wanted_none rfl)]
        clear hb hp
        clear hC
        clear h0
        have HP := Lib.hid hP
        have HWq := Lib.hid hW
        clear hP hW
        go_simp
        have hP := HP.out
        have hW := HWq.out
        clear HP HWq
        exact hK _ _ (AnyO.InvG.step (g := σ) hP rfl hW)
      · -- 4: Op.indexAddr 51 (Operand.tmp 32) (Operand.tmp 33)
        refine AnyO.StepI.mk rfl [2, 3] (by kernel_rfl) ?_
        intro D vs u hI h0 hC hp ac hb K hK
        obtain ⟨σ, hP, hW⟩ := hI
        have s32 : ac.tmps[32]?.getD undef = .slice (some ad) n cp := by rw [hb]; exact (show _ = vs 2 by kernel_rfl).trans (show vs 2 = .slice (some ad) n cp from hP 2 (hp 2 (by decide)))
        have s33 : ac.tmps[33]?.getD undef = .int .i64 (k : Int) := by rw [hb]; exact (show _ = vs 3 by kernel_rfl).trans (show vs 3 = .int .i64 (k : Int) from hP 3 (hp 3 (by decide)))
        rw [if_pos (AnyO.wanted_none rfl)]
        clear hb hp
        have hlk := HLK.out
        clear hC
        clear h0
        have HP := Lib.hid hP
        have HWq := Lib.hid hW
        clear hP hW
        go_simp
        have hP := HP.out
        have hW := HWq.out
        clear HP HWq
        exact hK _ _ (AnyO.InvG.step (g := σ) hP rfl hW)
      · -- 5: Op.load 57 (Operand.tmp 34)
        refine AnyO.StepI.mk rfl [4] (by kernel_rfl) ?_
        intro D vs u hI h0 hC hp ac hb K hK
        obtain ⟨σ, hP, hW⟩ := hI
        have s34 : ac.tmps[34]?.getD undef = .pointer (some (ad.add (k * 71))) := by rw [hb]; exact (show _ = vs 4 by kernel_rfl).trans (show vs 4 = .pointer (some (ad.add (k * 71))) from hP 4 (hp 4 (by decide)))
        rw [if_pos (AnyO.wanted_none rfl)]
        clear hb hp
        obtain ⟨ad2, e2, rr1, rr2, _⟩ := opAt (HXS.out.keep hW.1.bel) HLX.out
        cases e2
        rw [HXK.out] at rr2
        clear hC
        clear h0
        have HP := Lib.hid hP
        have HWq := Lib.hid hW
        clear hP hW
        go_simp
        have hP := HP.out
        have hW := HWq.out
        clear HP HWq
        exact hK _ _ (AnyO.InvG.step (g := σ) hP rfl hW)
      · -- 6: Op.call { callee := Callee.value (Operand.func 22), args := 
        refine AnyO.StepI.mk rfl [0, 1, 5] (by kernel_rfl) ?_
        intro D vs u hI h0 hC hp ac hb K hK
        obtain ⟨σ, hP, hW⟩ := hI
        have s30 : ac.tmps[30]?.getD undef = .pointer (some ⟨b, 0, none⟩) := by rw [hb]; exact (show _ = vs 0 by kernel_rfl).trans (show vs 0 = .pointer (some ⟨b, 0, none⟩) from hP 0 (hp 0 (by decide)))
        have s31 : ac.tmps[31]?.getD undef = vR r := by rw [hb]; exact (show _ = vs 1 by kernel_rfl).trans (show vs 1 = vR r from hP 1 (hp 1 (by decide)))
        have s35 : ac.tmps[35]?.getD undef = vQ x := by rw [hb]; exact (show _ = vs 5 by kernel_rfl).trans (show vs 5 = vQ x from hP 5 (hp 5 (by decide)))
        rw [if_pos (AnyO.wanted_none rfl)]
        clear hb hp
        have hf7 : D 7 = false := by
          rcases hd : D 7 with _ | _
          · rfl
          · have hz := hC 7 hd 6 (by rw [show AnyO.pre _ 7 = [6] from by kernel_rfl]; decide)
            rw [h0] at hz
            cases hz
        have hf8 : D 8 = false := by
          rcases hd : D 8 with _ | _
          · rfl
          · have hz := hC 8 hd 7 (by rw [show AnyO.pre _ 8 = [7] from by kernel_rfl]; decide)
            rw [hf7] at hz
            cases hz
        have hf9 : D 9 = false := by
          rcases hd : D 9 with _ | _
          · rfl
          · have hz := hC 9 hd 7 (by rw [show AnyO.pre _ 9 = [7] from by kernel_rfl]; decide)
            rw [hf7] at hz
            cases hz
        have hf11 : D 11 = false := by
          rcases hd : D 11 with _ | _
          · rfl
          · have hz := hC 11 hd 8 (by rw [show AnyO.pre _ 11 = [10, 8, 6, 0, 1, 2, 3, 4, 5, 6, 7, 8, 10] from by kernel_rfl]; decide)
            rw [hf8] at hz
            cases hz
        have hf12 : D 12 = false := by
          rcases hd : D 12 with _ | _
          · rfl
          · have hz := hC 12 hd 9 (by rw [show AnyO.pre _ 12 = [9, 11, 0, 1, 2, 3, 4, 5, 6, 7, 8, 9, 10, 11] from by kernel_rfl]; decide)
            rw [hf9] at hz
            cases hz
        clear hC
        have HP := Lib.hid hP
        have HWq := Lib.hid hW
        clear hP hW
        go_simp
        have hP := HP.out
        have hW := HWq.out
        clear HP HWq
        go_at_call 22
        rw [h0, hf11] at hW
        have hd := do22 w b ch s r x _ _ hW.1 HGD.out.1 HX.out (by have := HGD.out.2.1; have := HGD.out.2.2.2; omega)
        rw [HGD.out.2.2.1] at hd
        refine hd.mono ?_
        rintro e w2 ⟨r9, rfl, hI9⟩
        refine hK _ _ (AnyO.InvG.ghost (g := σ) (r9, σ.2) hP ?_ rfl ?_)
        · intro j hj hq
          rcases j with _ | _ | _ | _ | _ | _ | _ | _ | _ | _ | _ | _ | _ | j
          · exact hq
          · exact hq
          · exact hq
          · exact hq
          · exact hq
          · exact hq
          · exact absurd (show D 6 = true from hj) (by rw [h0]; decide)
          · exact absurd (show D 7 = true from hj) (by rw [hf7]; decide)
          · exact absurd (show D 8 = true from hj) (by rw [hf8]; decide)
          · exact absurd (show D 9 = true from hj) (by rw [hf9]; decide)
          · exact hq
          · exact absurd (show D 11 = true from hj) (by rw [hf11]; decide)
          · exact absurd (show D 12 = true from hj) (by rw [hf12]; decide)
          · exact hq
        · show InvR w b ch s1 s1 r9 ((bif D 10 then [(σ.2, (bif D 11 then cR r9 else cR zR), 32)] else []) ++ Lz) w2 ∧ (D 10 = true → w.heap.size ≤ σ.2 ∧ ∀ y ∈ Lz, y.1 ≠ σ.2)
          rw [hf11]
          exact ⟨hI9, hW.2⟩
      · -- 7: Op.move (Operand.tmp 36)
        refine AnyO.StepI.mk rfl [6] (by kernel_rfl) ?_
        intro D vs u hI h0 hC hp ac hb K hK
        obtain ⟨σ, hP, hW⟩ := hI
        have s36 : ac.tmps[36]?.getD undef = .tuple #[vR σ.1, .bool true] := by rw [hb]; exact (show _ = vs 6 by kernel_rfl).trans (show vs 6 = .tuple #[vR σ.1, .bool true] from hP 6 (hp 6 (by decide)))
        rw [if_pos (AnyO.wanted_none rfl)]
        clear hb hp
        clear hC
        clear h0
        have HP := Lib.hid hP
        have HWq := Lib.hid hW
        clear hP hW
        go_simp
        have hP := HP.out
        have hW := HWq.out
        clear HP HWq
        exact hK _ _ (AnyO.InvG.step (g := σ) hP rfl hW)
      · -- 8: Op.extract (Operand.tmp 29) 0
        refine AnyO.StepI.mk rfl [7] (by kernel_rfl) ?_
        intro D vs u hI h0 hC hp ac hb K hK
        obtain ⟨σ, hP, hW⟩ := hI
        have s29 : ac.tmps[29]?.getD undef = .tuple #[vR σ.1, .bool true] := by rw [hb]; exact (show _ = vs 7 by kernel_rfl).trans (show vs 7 = .tuple #[vR σ.1, .bool true] from hP 7 (hp 7 (by decide)))
        rw [if_pos (AnyO.wanted_none rfl)]
        clear hb hp
        clear hC
        clear h0
        have HP := Lib.hid hP
        have HWq := Lib.hid hW
        clear hP hW
        go_simp
        have hP := HP.out
        have hW := HWq.out
        clear HP HWq
        exact hK _ _ (AnyO.InvG.step (g := σ) hP rfl hW)
      · -- 9: Op.extract (Operand.tmp 29) 1
        refine AnyO.StepI.mk rfl [7] (by kernel_rfl) ?_
        intro D vs u hI h0 hC hp ac hb K hK
        obtain ⟨σ, hP, hW⟩ := hI
        have s29 : ac.tmps[29]?.getD undef = .tuple #[vR σ.1, .bool true] := by rw [hb]; exact (show _ = vs 7 by kernel_rfl).trans (show vs 7 = .tuple #[vR σ.1, .bool true] from hP 7 (hp 7 (by decide)))
        rw [if_pos (AnyO.wanted_none rfl)]
        clear hb hp
        clear hC
        clear h0
        have HP := Lib.hid hP
        have HWq := Lib.hid hW
        clear hP hW
        go_simp
        have hP := HP.out
        have hW := HWq.out
        clear HP HWq
        exact hK _ _ (AnyO.InvG.step (g := σ) hP rfl hW)
      · -- 10: Op.alloc 32
        refine AnyO.StepI.mk rfl [] (by kernel_rfl) ?_
        intro D vs u hI h0 hC hp ac hb K hK
        obtain ⟨σ, hP, hW⟩ := hI
        rw [if_pos (AnyO.wanted_none rfl)]
        clear hb hp
        have hf11 : D 11 = false := by
          rcases hd : D 11 with _ | _
          · rfl
          · have hz := hC 11 hd 10 (by rw [show AnyO.pre _ 11 = [10, 8, 6, 0, 1, 2, 3, 4, 5, 6, 7, 8, 10] from by kernel_rfl]; decide)
            rw [h0] at hz
            cases hz
        have hf12 : D 12 = false := by
          rcases hd : D 12 with _ | _
          · rfl
          · have hz := hC 12 hd 11 (by rw [show AnyO.pre _ 12 = [9, 11, 0, 1, 2, 3, 4, 5, 6, 7, 8, 9, 10, 11] from by kernel_rfl]; decide)
            rw [hf11] at hz
            cases hz
        clear hC
        have HP := Lib.hid hP
        have HWq := Lib.hid hW
        clear hP hW
        go_simp
        have hP := HP.out
        have hW := HWq.out
        clear HP HWq
        rw [h0, hf11] at hW
        have hA := hW.1.alloc (cR zR) 32
        refine hK _ _ (AnyO.InvG.ghost (g := σ) (σ.1, u.heap.size) hP ?_ rfl ?_)
        · intro j hj hq
          rcases j with _ | _ | _ | _ | _ | _ | _ | _ | _ | _ | _ | _ | _ | j
          · exact hq
          · exact hq
          · exact hq
          · exact hq
          · exact hq
          · exact hq
          · exact hq
          · exact hq
          · exact hq
          · exact hq
          · exact absurd (show D 10 = true from hj) (by rw [h0]; decide)
          · exact absurd (show D 11 = true from hj) (by rw [hf11]; decide)
          · exact absurd (show D 12 = true from hj) (by rw [hf12]; decide)
          · exact hq
        · show InvR w b ch (bif D 6 then s1 else s) (bif D 6 then s1 else s) (bif D 6 then σ.1 else r) ([(u.heap.size, (bif D 11 then cR σ.1 else cR zR), 32)] ++ Lz) _ ∧ (true = true → w.heap.size ≤ u.heap.size ∧ ∀ y ∈ Lz, y.1 ≠ u.heap.size)
          rw [hf11]
          exact ⟨hA, fun _ => ⟨hW.1.size, fun y hy => Nat.ne_of_lt (hW.1.lts y hy)⟩⟩
      · -- 11: Op.store 32 (Operand.tmp 8) (Operand.tmp 37)
        refine AnyO.StepI.mk rfl [10, 8, 6, 0, 1, 2, 3, 4, 5, 6, 7, 8, 10] (by kernel_rfl) ?_
        intro D vs u hI h0 hC hp ac hb K hK
        obtain ⟨σ, hP, hW⟩ := hI
        have s8 : ac.tmps[8]?.getD undef = .pointer (some ⟨σ.2, 0, none⟩) := by rw [hb]; exact (show _ = vs 10 by kernel_rfl).trans (show vs 10 = .pointer (some ⟨σ.2, 0, none⟩) from hP 10 (hp 10 (by decide)))
        have s37 : ac.tmps[37]?.getD undef = vR σ.1 := by rw [hb]; exact (show _ = vs 8 by kernel_rfl).trans (show vs 8 = vR σ.1 from hP 8 (hp 8 (by decide)))
        rw [if_pos (AnyO.wanted_none rfl)]
        have hp6 : D 6 = true := hp 6 (by decide)
        have hp10 : D 10 = true := hp 10 (by decide)
        clear hb hp
        have h6 := hp6
        have h10 := hp10
        rw [h0, h6, h10] at hW
        have RR := hW.1.row (g := σ.2) (cs := cR zR) (ty := 32) List.mem_cons_self
        have rr := RR.rok (cR_length zR)
        clear RR
        clear hC
        have HP := Lib.hid hP
        have HWq := Lib.hid hW
        clear hP hW
        go_simp
        have hP := HP.out
        have hW := HWq.out
        clear HP HWq
        refine hK undef _ (AnyO.InvG.step (g := σ) hP trivial ?_)
        show InvR w b ch (bif D 6 then s1 else s) (bif D 6 then s1 else s) (bif D 6 then σ.1 else r) ((bif D 10 then [(σ.2, cR σ.1, 32)] else []) ++ Lz) _ ∧ (D 10 = true → w.heap.size ≤ σ.2 ∧ ∀ y ∈ Lz, y.1 ≠ σ.2)
        rw [h6, h10]
        exact ⟨InvR.setRow (cs := cR zR) hW.1 (hW.2 rfl).1 (hW.2 rfl).2 (cR σ.1), hW.2⟩
      · -- 12: Op.assign (Operand.tmp 38)
        refine AnyO.StepI.mk rfl [9, 11, 0, 1, 2, 3, 4, 5, 6, 7, 8, 9, 10, 11] (by kernel_rfl) ?_
        intro D vs u hI h0 hC hp ac hb K hK
        obtain ⟨σ, hP, hW⟩ := hI
        have s38 : ac.tmps[38]?.getD undef = .bool true := by rw [hb]; exact (show _ = vs 9 by kernel_rfl).trans (show vs 9 = .bool true from hP 9 (hp 9 (by decide)))
        rw [if_pos (AnyO.wanted_none rfl)]
        clear hb hp
        clear hC
        clear h0
        have HP := Lib.hid hP
        have HWq := Lib.hid hW
        clear hP hW
        go_simp
        have hP := HP.out
        have hW := HWq.out
        clear HP HWq
        exact hK _ _ (AnyO.InvG.step (g := σ) hP rfl hW)
    · intro D vs u hI hD
      obtain ⟨σ, hP, hW⟩ := hI
      have e0 : vs 0 = .pointer (some ⟨b, 0, none⟩) := hP 0 (hD 0 (by decide))
      have e1 : vs 1 = vR r := hP 1 (hD 1 (by decide))
      have e2 : vs 2 = .slice (some ad) n cp := hP 2 (hD 2 (by decide))
      have e3 : vs 3 = .int .i64 (k : Int) := hP 3 (hD 3 (by decide))
      have e4 : vs 4 = .pointer (some (ad.add (k * 71))) := hP 4 (hD 4 (by decide))
      have e5 : vs 5 = vQ x := hP 5 (hD 5 (by decide))
      have e6 : vs 6 = .tuple #[vR σ.1, .bool true] := hP 6 (hD 6 (by decide))
      have e7 : vs 7 = .tuple #[vR σ.1, .bool true] := hP 7 (hD 7 (by decide))
      have e8 : vs 8 = vR σ.1 := hP 8 (hD 8 (by decide))
      have e9 : vs 9 = .bool true := hP 9 (hD 9 (by decide))
      have e10 : vs 10 = .pointer (some ⟨σ.2, 0, none⟩) := hP 10 (hD 10 (by decide))
      have e12 : vs 12 = .bool true := hP 12 (hD 12 (by decide))
      rw [hD 6 (by decide), hD 10 (by decide), hD 11 (by decide)] at hW
      change InvR w b ch s1 s1 σ.1 ((σ.2, cR σ.1, 32) :: Lz) u ∧ _ at hW
      have HW := Lib.hid hW
      clear hW hP hD
      rw [puts_range [some 30, some 31, some 32, some 33, some 34, some 35, some 36, some 29, some 37, some 38, some 8, none, some 9] (by kernel_rfl)]
      simp only [putL, Nat.reduceAdd, e0, e1, e2, e3, e4, e5, e6, e7, e8, e9, e10, e12]
      clear e0 e1 e2 e3 e4 e5 e6 e7 e8 e9 e10 e12
      obtain ⟨r9, g8⟩ := σ
      dsimp only at HW ⊢
      have HI1 := Lib.hid (show InvR w b ch s1 s1 r9 ((g6, cR r, 32) :: [(g8, cR r9, 32)]) u from HW.out.1.sub fun y hy => by
        rw [HLZ.out]
        simp only [List.mem_cons, List.not_mem_nil, or_false] at hy ⊢
        rcases hy with rfl | rfl
        · simp
        · simp)
      have HNE := Lib.hid (show g8 ≠ g6 from fun e => (HW.out.2 rfl).2 (g6, cR r, 32) HM.out e.symm)
      have HGO := Lib.hid (show Good ch s1 by rw [← HGD.out.2.2.1]; exact HGD.out.1.op x)
      obtain ⟨m8, m8'⟩ := (HI1.out.row (g := g8) (cs := cR r9) (ty := 32) (by simp)).okw (cR_length _)
      change rdA _ _ _ = vR r9 at m8'
      have T0 : True := trivial
      go_simp
      go_wp2_with (have hh := T0; clear hh T0; go_at_call 24; refine (HI1.out.views HGO.out).mono ?_; rintro e U ⟨rfl, hI3⟩; clear m8 m8'; obtain ⟨m8, m8'⟩ := (hI3.row (g := g8) (cs := cR r9) (ty := 32) (by simp)).okw (cR_length _); change rdA _ _ _ = vR r9 at m8'; have m6 := (hI3.row (g := g6) (cs := cR r) (ty := 32) (by simp)).rok (cR_length r); have H3 := Lib.hid hI3; clear hI3)
      have HZ := Lib.hid (InvR.setRow (cs := cR r) H3.out HB62.out (fun y hy => by rw [List.mem_singleton.1 hy]; exact HNE.out) (cR r9))
      clear m8 m8' m6
      go_roundw
      case rel => exact ⟨k + 1, s1, r9, by have := HGD.out.2.2.2; omega, by go_num, HGO.out, by rw [← HGD.out.2.2.1]; have := opS_outs ch s x; have := HGD.out.2.1; omega, HZ.out.sub fun y hy => by rw [List.mem_singleton.1 hy]; exact List.mem_cons_self⟩
      case measure => simp [intOf] <;> omega

theorem law6o (c : UInt8) (A : Option Addr) (cp : Nat) (xs : List Rop) (w : World) (hs : Sl w cQ A xs) (_hc : xs.length ≤ cp) (hL : Laid w) : Calls Tryd.prog 6 #[.int .u8 (c.toNat : Int), .slice A xs.length cp] w fun e w' => e = .returned (.bool true) ∧ Below w.heap.size w w' := law6 c A xs.length cp xs w hL rfl hs
end Go.Proofs.YtlelecnafdddhaaDoor
