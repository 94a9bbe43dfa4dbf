/- bulletinlaw33.OfferOutcomes. -/
import Derived.Test.YtlelecnafdddhaaDoorTrk
namespace Go.Proofs.YtlelecnafdddhaaDoor
open Go.RowKit
set_option maxRecDepth 100000 in
set_option maxHeartbeats 6400000 in
theorem law7 (c : UInt8) (A : Option Addr) (n cp : Nat) (xs : List Rop) (w : World) (hL : Laid w) (hn : xs.length = n) (hs : Sl w cQ A xs) : Calls Tryd.prog 7 #[.int .u8 (c.toNat : Int), .slice A n cp] w fun e w' => e = .returned (.bool true) ∧ Below w.heap.size w w' := by
  have HX := Lib.hid hL
  have HXS := Lib.hid hs
  have HN := Lib.hid hn
  have l1 := chunkN_lo c
  have l2 := chunkN_hi c
  obtain ⟨ch, hch⟩ : ∃ ch, chunkN c = ch := ⟨_, rfl⟩
  rw [hch] at l1 l2
  have HCH := Lib.hid hch
  have H64 := Lib.hid (And.intro l1 l2)
  clear hL hs hn l1 l2 hch
  have T0 : True := trivial
  go_enter Tryd.func7, Tryd.ntmps7
  go_wp2_with (first
    | (have hh := T0; clear hh T0; go_at_call 13; refine (known13 w HX.out.1 HX.out.2).mono ?_; rintro e w1 ⟨rfl, hb⟩; have H1 := Lib.hid hb; clear hb; have T1 : True := trivial)
    | (have hh := T1; clear hh T1; go_at_call 17; refine (begin17 c _).mono ?_; rintro e w2 ⟨b, r, rfl, hlb, hr, hra, hbl⟩; rw [HCH.out] at hr hra; have hI := InvR.start (L := []) H1.out (fun x hx => by cases hx) hlb hr hra hbl; have HB62 := Lib.hid hI.size; have H2 := Lib.hid (hI.alloc (cR r) 32); clear hI hr hra hbl hlb))
  have H2' := Lib.hid (show InvO w b ch St.zero St.zero r [(w2.heap.size, cR r, 32)] (.slice none 0 0) [] (w2.alloc (.cells (aR r) 32)) from InvO.start H2.out)
  obtain ⟨g6, hg6⟩ : ∃ g6, g6 = w2.heap.size := ⟨_, rfl⟩
  obtain ⟨U0, hU0⟩ : ∃ U0, w2.alloc (.cells (aR r) 32) = U0 := ⟨_, rfl⟩
  rw [hU0, ← hg6] at H2'
  rw [← hg6] at HB62
  rw [hU0, ← hg6]
  clear H2 hU0 hg6
  go_loopw [7, 9] (fun v i wr => ∃ (k : Nat) (s sr : St) (r : Rs) (A7 : Option Addr) (m c7 : Nat) (ids : List Id), k ≤ 60 ∧ i = .int .i64 (k : Int) ∧ v = .slice A7 m c7 ∧ ids.length = m ∧ m ≤ k ∧ trackS s = ids ∧ Good ch s ∧ Good ch sr ∧ s.outs.length ≤ k ∧ sr.outs.length ≤ k ∧ InvO w b ch s sr r [(g6, cR r, 32)] (.slice A7 m c7) ids wr) (fun _ i _ => 60 - (intOf i).toNat)
  case atStart => exact ⟨0, St.zero, St.zero, r, none, 0, 0, [], by omega, rfl, rfl, rfl, Nat.le_refl _, rfl, Good.zero H64.out.1 (by have := H64.out.2; omega), Good.zero H64.out.1 (by have := H64.out.2; omega), Nat.le_refl _, Nat.le_refl _, H2'.out⟩
  case round =>
    obtain ⟨k, s, sr, r, A7, m, c7, ids, hk, rfl, rfl, hm, hmk, htr, hgd, hgr, hou, hour, hI⟩ := hrel
    by_cases hend : k < n ∧ k < 60
    case pos =>
      have hlk : (k : Int) < (n : Int) := by omega
      have h60 : (k : Int) < 60 := by omega
      have hlx : k < xs.length := by rw [HN.out]; exact hend.1
      obtain ⟨ad, rfl, hz⟩ := opAt HXS.out hlx
      clear hz
      obtain ⟨x, hx⟩ : ∃ x, xs[k]'hlx = x := ⟨_, rfl⟩
      have HLX := Lib.hid hlx
      have HXK := Lib.hid hx
      have HLK := Lib.hid hlk
      have HGD := Lib.hid (And.intro hgd (And.intro hgr (And.intro hou (And.intro hour (And.intro hmk (And.intro hend.2 (And.intro hm htr)))))))
      have HI0 := Lib.hid (hI.alloc (cQ x) 57)
      have HIb := Lib.hid hI
      have HB69 := Lib.hid (show g6 < wr.heap.size from hI.base.lts (g6, cR r, 32) List.mem_cons_self)
      obtain ⟨ad2, e2, rr1, rr2, rr3⟩ := opAt (HXS.out.keep hI.base.bel) HLX.out
      cases e2
      rw [HXK.out] at rr2
      clear rr3
      clear hI hgd hgr hou hour hx hend hmk hk hm htr
      by_cases hk0 : x.kind.toNat % 5 = 0
      case neg =>
        have e1 : ((x.kind.toNat : Int).tmod 5 == 0) = false := by
          obtain ⟨q, hq⟩ : ∃ q, x.kind.toNat % 5 = q := ⟨_, rfl⟩
          rw [kind_tmod _ q hq]
          have : ¬ ((q : Int) = 0) := by omega
          simpa using this
        have e1' : ((x.kind.toNat : Int) % 5 == 0) = false := by
          have : ¬ ((x.kind.toNat : Int) % 5 = 0) := by omega
          simpa using this
        by_cases hk4 : x.kind.toNat % 5 = 4
        case pos =>
          have e2 : (x.kind.toNat : Int).tmod 5 = 4 := kind_tmod _ 4 hk4
          have e2' : (x.kind.toNat : Int) % 5 = 4 := by omega
          clear hk0 hk4
          go_wp2
          go_roundw
          case rel => exact ⟨k + 1, s, sr, r, A7, m, c7, ids, by have := HGD.out; omega, by go_num, rfl, HGD.out.2.2.2.2.2.2.1, by have := HGD.out; omega, HGD.out.2.2.2.2.2.2.2, HGD.out.1, HGD.out.2.1, by have := HGD.out; omega, by have := HGD.out; omega, HIb.out.below (below_alloc _ _)⟩
          case measure => simp [intOf] <;> omega
        case neg =>
          have e2 : ((x.kind.toNat : Int).tmod 5 == 4) = false := by
            obtain ⟨q, hq⟩ : ∃ q, x.kind.toNat % 5 = q := ⟨_, rfl⟩
            rw [kind_tmod _ q hq]
            have : ¬ ((q : Int) = 4) := by omega
            simpa using this
          have e2' : ((x.kind.toNat : Int) % 5 == 4) = false := by
            have : ¬ ((x.kind.toNat : Int) % 5 = 4) := by omega
            simpa using this
          obtain ⟨s1, hs1⟩ : ∃ s1, opS ch s x = s1 := ⟨_, rfl⟩
          obtain ⟨s2, hs2⟩ : ∃ s2, opS ch sr x = s2 := ⟨_, rfl⟩
          have HS := Lib.hid (And.intro hs1 (And.intro hs2 (And.intro hk0 hk4)))
          clear hs1 hs2 hk0 hk4
          obtain ⟨m6, m6'⟩ := (HIb.out.base.row (g := g6) (cs := cR r) (ty := 32) List.mem_cons_self).okw (cR_length r)
          change rdA _ _ _ = vR r at m6'
          have m6l := HB69.out
          have T0 : True := trivial
          go_wp2_with (have hh := T0; clear hh T0; go_at_call 22; refine (InvO.two HI0.out x HGD.out.1 HGD.out.2.1 HX.out (by have := HGD.out; omega) (by have := HGD.out; omega) HS.out.2.2.1 HS.out.2.2.2).mono ?_; rintro e w3 ⟨r9, ok, rfl, hI9⟩; rw [HS.out.1, HS.out.2.1] at hI9; have m7 := (hI9.base.row (g := g6) (cs := cR r) (ty := 32) (List.mem_cons_of_mem _ List.mem_cons_self)).rok (cR_length r); have H9 := Lib.hid hI9; clear hI9 m6 m6')
          have HZ := Lib.hid (InvO.setRow (L := []) (cs := cR r) (H9.out.sub (fun y hy => by rw [List.mem_singleton.1 hy]; exact List.mem_cons_of_mem _ List.mem_cons_self)) HB62.out (fun y hy => by cases hy) (cR r9))
          go_roundw
          case rel => exact ⟨k + 1, s1, s2, r9, A7, m, c7, ids, by have := HGD.out; omega, by go_num, rfl, HGD.out.2.2.2.2.2.2.1, by have := HGD.out; omega, by rw [← HS.out.1, track_op ch s x HS.out.2.2.1 HS.out.2.2.2]; exact HGD.out.2.2.2.2.2.2.2, by rw [← HS.out.1]; exact HGD.out.1.op x, by rw [← HS.out.2.1]; exact HGD.out.2.1.op x, by rw [← HS.out.1]; have := opS_outs ch s x; have := HGD.out; omega, by rw [← HS.out.2.1]; have := opS_outs ch sr x; have := HGD.out; omega, HZ.out⟩
          case measure => simp [intOf] <;> omega
      case pos =>
        have e1 : (x.kind.toNat : Int).tmod 5 = 0 := kind_tmod _ 0 hk0
        have e1' : (x.kind.toNat : Int) % 5 = 0 := by omega
        have hm60 : (m : Int) ≤ 60 := by have := HGD.out; omega
        obtain ⟨cc, hcc⟩ := u8_of m
        have ok10 : stOk (wr.alloc (.cells (aQ x) 57)) wr.heap.size 1 32 = true := (Row.new wr (cQ x) 57).ok _ 1 32 (by rw [cQ_length]; decide)
        obtain ⟨y, hy⟩ : ∃ y : Rop, y = { x with a := (idC cc, x.a.2) } := ⟨_, rfl⟩
        have HY := Lib.hid hy
        obtain ⟨U, hU⟩ : ∃ U, stD (wr.alloc (.cells (aQ x) 57)) wr.heap.size 1 (cI (idC cc)) = U := ⟨_, rfl⟩
        have hrow : Row U wr.heap.size (cQ y) 57 := by
          rw [← hU, hy, ← store_id x (idC cc) rfl]
          have h1 := (Row.new wr (cQ x) 57).stD 1 (cI (idC cc)) (by rw [cQ_length, cI_length]; decide)
          rw [cI_length] at h1
          exact h1
        have hI1 : InvO w b ch s sr r [(wr.heap.size, cQ y, 57), (g6, cR r, 32)] (.slice A7 m c7) ids U := by
          refine InvO.turn (cs := cQ x) HI0.out HIb.out.size (fun z hz => ?_) (fun q hq => ?_) hrow ?_ ?_
          · rw [List.mem_singleton.1 hz]
            have := HB69.out
            show g6 ≠ wr.heap.size
            omega
          · rw [← hU]; exact heap_stD_other _ _ 1 _ q hq
          · rw [← hU]; exact setCells_size _ _ _ _
          · rw [← hU]; exact setCells_os _ _ _ _
        obtain ⟨g10, hg10⟩ : ∃ g10, g10 = wr.heap.size := ⟨_, rfl⟩
        have HI := Lib.hid (show InvO w b ch s sr r [(g10, cQ y, 57), (g6, cR r, 32)] (.slice A7 m c7) ids U by rw [hg10]; exact hI1)
        clear hI1 hrow hk0 hy
        go_wp2
        rw [← hg10]
        obtain ⟨tt, htt⟩ : ∃ tt, cutS x.a.2 = tt := ⟨_, rfl⟩
        obtain ⟨yi, hyi⟩ : ∃ yi, yi = idC cc := ⟨_, rfl⟩
        obtain ⟨s1, ec, hs1⟩ : ∃ s1 ec, addS s yi tt = (s1, ec) := ⟨_, _, rfl⟩
        obtain ⟨q, hq⟩ : ∃ q, (ec == 0) = q := ⟨_, rfl⟩
        obtain ⟨xt, hxt⟩ : ∃ xt, x.a.2 = xt := ⟨_, rfl⟩
        rw [hxt] at htt
        have HT := Lib.hid htt
        have HA1 := Lib.hid (show y.a.1 = yi ∧ y.a.2 = xt from ⟨by rw [HY.out, hyi], by rw [HY.out]; exact hxt⟩)
        have HS := Lib.hid hs1
        have HQ := Lib.hid hq
        clear hU hg10 e1 e1' ok10 hcc rr1 rr2 HI0 htt hs1 hq hxt hyi HY

        refine AnyO.wp_anyI (by kernel_rfl) (by kernel_rfl) (AnyO.InvG (σ := Unit) (fun σ => AnyO.pvL [some (.pointer (some ⟨b, 0, none⟩)), some (.pointer (some ⟨g10, 1, none⟩)), some (.pointer (some ⟨g10, 1, none⟩)), some (vI yi), some (.pointer (some ⟨g10, 1, none⟩)), some (.pointer (some ⟨g10, 33, none⟩)), some (.string xt), some (.string tt), some (.int .i64 ec), some (.bool q)]) (fun _ D u => InvO w b ch (bif D 8 then s1 else s) sr r [(g10, cQ y, 57), (g6, cR r, 32)] (.slice A7 m c7) ids u)) (AnyO.InvG.start (g := ()) (HI.out.below (below_drew _))) ?_ ?_
        · intro i hi
          have hi2 : i = 0 ∨ i = 1 ∨ i = 2 ∨ i = 3 ∨ i = 4 ∨ i = 5 ∨ i = 6 ∨ i = 7 ∨ i = 8 ∨ i = 9 := by first | (simp only [List.size_toArray, List.length_cons, List.length_nil] at hi; omega) | (simp only [List.size_toArray, List.append_eq, List.length_append, List.length_cons, List.length_nil] at hi; omega)
          clear hi
          rcases hi2 with rfl | rfl | rfl | rfl | rfl | rfl | rfl | rfl | rfl | rfl
          · -- 0: Op.move (Operand.tmp 5)
            refine AnyO.StepI.mk rfl [] (by kernel_rfl) ?_
            intro D vs u hI h0 hC hp ac hb K hK
            obtain ⟨σ, hP, hW⟩ := hI
            have s5 : ac.tmps[5]?.getD undef = .pointer (some ⟨b, 0, none⟩) := by rw [hb]; kernel_rfl
            rw [if_pos (AnyO.wanted_none rfl)]
            clear hb hp
            clear hC
            clear h0
            have HP := Lib.hid hP
            have HWq := Lib.hid hW
            clear hP hW
            go_simp
            have hP := HP.out
            have hW := HWq.out
            clear HP HWq
            exact hK _ _ (AnyO.InvG.step (g := σ) hP rfl hW)
          · -- 1: Op.fieldAddr 57 (Operand.tmp 10) 1
            refine AnyO.StepI.mk rfl [] (by kernel_rfl) ?_
            intro D vs u hI h0 hC hp ac hb K hK
            obtain ⟨σ, hP, hW⟩ := hI
            have s10 : ac.tmps[10]?.getD undef = .pointer (some ⟨g10, 0, none⟩) := by rw [hb]; kernel_rfl
            rw [if_pos (AnyO.wanted_none rfl)]
            clear hb hp
            clear hC
            clear h0
            have HP := Lib.hid hP
            have HWq := Lib.hid hW
            clear hP hW
            go_simp
            have hP := HP.out
            have hW := HWq.out
            clear HP HWq
            exact hK _ _ (AnyO.InvG.step (g := σ) hP rfl hW)
          · -- 2: Op.fieldAddr 28 (Operand.tmp 51) 0
            refine AnyO.StepI.mk rfl [1] (by kernel_rfl) ?_
            intro D vs u hI h0 hC hp ac hb K hK
            obtain ⟨σ, hP, hW⟩ := hI
            have s51 : ac.tmps[51]?.getD undef = .pointer (some ⟨g10, 1, none⟩) := by rw [hb]; exact (show _ = vs 1 by kernel_rfl).trans (show vs 1 = .pointer (some ⟨g10, 1, none⟩) from hP 1 (hp 1 (by decide)))
            rw [if_pos (AnyO.wanted_none rfl)]
            clear hb hp
            clear hC
            clear h0
            have HP := Lib.hid hP
            have HWq := Lib.hid hW
            clear hP hW
            go_simp
            have hP := HP.out
            have hW := HWq.out
            clear HP HWq
            exact hK _ _ (AnyO.InvG.step (g := σ) hP rfl hW)
          · -- 3: Op.load 22 (Operand.tmp 52)
            refine AnyO.StepI.mk rfl [2] (by kernel_rfl) ?_
            intro D vs u hI h0 hC hp ac hb K hK
            obtain ⟨σ, hP, hW⟩ := hI
            have s52 : ac.tmps[52]?.getD undef = .pointer (some ⟨g10, 1, none⟩) := by rw [hb]; exact (show _ = vs 2 by kernel_rfl).trans (show vs 2 = .pointer (some ⟨g10, 1, none⟩) from hP 2 (hp 2 (by decide)))
            rw [if_pos (AnyO.wanted_none rfl)]
            clear hb hp
            have RR := hW.base.row (g := g10) (cs := cQ y) (ty := 57) List.mem_cons_self
            obtain ⟨_, ⟨rr1, rr2⟩, rr3, _, _⟩ := row_Q RR
            rw [HA1.out.1] at rr2
            rw [HA1.out.2] at rr3
            clear RR
            clear hC
            clear h0
            have HP := Lib.hid hP
            have HWq := Lib.hid hW
            clear hP hW
            go_simp
            have hP := HP.out
            have hW := HWq.out
            clear HP HWq
            exact hK _ _ (AnyO.InvG.step (g := σ) hP rfl hW)
          · -- 4: Op.fieldAddr 57 (Operand.tmp 10) 1
            refine AnyO.StepI.mk rfl [] (by kernel_rfl) ?_
            intro D vs u hI h0 hC hp ac hb K hK
            obtain ⟨σ, hP, hW⟩ := hI
            have s10 : ac.tmps[10]?.getD undef = .pointer (some ⟨g10, 0, none⟩) := by rw [hb]; kernel_rfl
            rw [if_pos (AnyO.wanted_none rfl)]
            clear hb hp
            clear hC
            clear h0
            have HP := Lib.hid hP
            have HWq := Lib.hid hW
            clear hP hW
            go_simp
            have hP := HP.out
            have hW := HWq.out
            clear HP HWq
            exact hK _ _ (AnyO.InvG.step (g := σ) hP rfl hW)
          · -- 5: Op.fieldAddr 28 (Operand.tmp 54) 1
            refine AnyO.StepI.mk rfl [4] (by kernel_rfl) ?_
            intro D vs u hI h0 hC hp ac hb K hK
            obtain ⟨σ, hP, hW⟩ := hI
            have s54 : ac.tmps[54]?.getD undef = .pointer (some ⟨g10, 1, none⟩) := by rw [hb]; exact (show _ = vs 4 by kernel_rfl).trans (show vs 4 = .pointer (some ⟨g10, 1, none⟩) from hP 4 (hp 4 (by decide)))
            rw [if_pos (AnyO.wanted_none rfl)]
            clear hb hp
            clear hC
            clear h0
            have HP := Lib.hid hP
            have HWq := Lib.hid hW
            clear hP hW
            go_simp
            have hP := HP.out
            have hW := HWq.out
            clear HP HWq
            exact hK _ _ (AnyO.InvG.step (g := σ) hP rfl hW)
          · -- 6: Op.load 9 (Operand.tmp 55)
            refine AnyO.StepI.mk rfl [5] (by kernel_rfl) ?_
            intro D vs u hI h0 hC hp ac hb K hK
            obtain ⟨σ, hP, hW⟩ := hI
            have s55 : ac.tmps[55]?.getD undef = .pointer (some ⟨g10, 33, none⟩) := by rw [hb]; exact (show _ = vs 5 by kernel_rfl).trans (show vs 5 = .pointer (some ⟨g10, 33, none⟩) from hP 5 (hp 5 (by decide)))
            rw [if_pos (AnyO.wanted_none rfl)]
            clear hb hp
            have RR := hW.base.row (g := g10) (cs := cQ y) (ty := 57) List.mem_cons_self
            obtain ⟨_, ⟨rr1, rr2⟩, rr3, _, _⟩ := row_Q RR
            rw [HA1.out.1] at rr2
            rw [HA1.out.2] at rr3
            clear RR
            clear hC
            clear h0
            have HP := Lib.hid hP
            have HWq := Lib.hid hW
            clear hP hW
            go_simp
            have hP := HP.out
            have hW := HWq.out
            clear HP HWq
            exact hK _ _ (AnyO.InvG.step (g := σ) hP rfl hW)
          · -- 7: Op.call { callee := Callee.value (Operand.func 16), args := 
            refine AnyO.StepI.mk rfl [6] (by kernel_rfl) ?_
            intro D vs u hI h0 hC hp ac hb K hK
            obtain ⟨σ, hP, hW⟩ := hI
            have s56 : ac.tmps[56]?.getD undef = .string xt := by rw [hb]; exact (show _ = vs 6 by kernel_rfl).trans (show vs 6 = .string xt from hP 6 (hp 6 (by decide)))
            rw [if_pos (AnyO.wanted_none rfl)]
            clear hb hp
            clear hC
            clear h0
            have HP := Lib.hid hP
            have HWq := Lib.hid hW
            clear hP hW
            go_simp
            have hP := HP.out
            have hW := HWq.out
            clear HP HWq
            go_at_call 16
            refine (cut16 xt u).mono ?_
            rintro e w2 ⟨rfl, rfl⟩
            rw [HT.out]
            exact hK _ _ (AnyO.InvG.step (g := σ) hP rfl hW)
          · -- 8: Op.call { callee := Callee.value (Operand.func 15), args := 
            refine AnyO.StepI.mk rfl [0, 3, 7, 7] (by kernel_rfl) ?_
            intro D vs u hI h0 hC hp ac hb K hK
            obtain ⟨σ, hP, hW⟩ := hI
            have s50 : ac.tmps[50]?.getD undef = .pointer (some ⟨b, 0, none⟩) := by rw [hb]; exact (show _ = vs 0 by kernel_rfl).trans (show vs 0 = .pointer (some ⟨b, 0, none⟩) from hP 0 (hp 0 (by decide)))
            have s53 : ac.tmps[53]?.getD undef = vI yi := by rw [hb]; exact (show _ = vs 3 by kernel_rfl).trans (show vs 3 = vI yi from hP 3 (hp 3 (by decide)))
            have s57 : ac.tmps[57]?.getD undef = .string tt := by rw [hb]; exact (show _ = vs 7 by kernel_rfl).trans (show vs 7 = .string tt from hP 7 (hp 7 (by decide)))
            rw [if_pos (AnyO.wanted_none rfl)]
            clear hb hp
            clear hC
            have HP := Lib.hid hP
            have HWq := Lib.hid hW
            clear hP hW
            go_simp
            have hP := HP.out
            have hW := HWq.out
            clear HP HWq
            go_at_call 15
            rw [h0] at hW
            have hd := InvO.add (s := s) hW yi tt HGD.out.1
            rw [HS.out] at hd
            refine hd.mono ?_
            rintro e w2 ⟨rfl, hI9⟩
            exact hK _ _ (AnyO.InvG.step (g := σ) hP rfl hI9)
          · -- 9: Op.binOp BinOp.eql 24 (Operand.tmp 58) (Operand.const (Value
            refine AnyO.StepI.mk rfl [8] (by kernel_rfl) ?_
            intro D vs u hI h0 hC hp ac hb K hK
            obtain ⟨σ, hP, hW⟩ := hI
            have s58 : ac.tmps[58]?.getD undef = .int .i64 ec := by rw [hb]; exact (show _ = vs 8 by kernel_rfl).trans (show vs 8 = .int .i64 ec from hP 8 (hp 8 (by decide)))
            rw [if_pos (AnyO.wanted_none rfl)]
            clear hb hp
            have e := HQ.out
            clear hC
            clear h0
            have HP := Lib.hid hP
            have HWq := Lib.hid hW
            clear hP hW
            go_simp
            have hP := HP.out
            have hW := HWq.out
            clear HP HWq
            exact hK _ _ (AnyO.InvG.step (g := σ) hP rfl hW)
        · intro D vs u hI hD
          obtain ⟨σ, hP, hW⟩ := hI
          have e0 : vs 0 = .pointer (some ⟨b, 0, none⟩) := hP 0 (hD 0 (by decide))
          have e1 : vs 1 = .pointer (some ⟨g10, 1, none⟩) := hP 1 (hD 1 (by decide))
          have e2 : vs 2 = .pointer (some ⟨g10, 1, none⟩) := hP 2 (hD 2 (by decide))
          have e3 : vs 3 = vI yi := hP 3 (hD 3 (by decide))
          have e4 : vs 4 = .pointer (some ⟨g10, 1, none⟩) := hP 4 (hD 4 (by decide))
          have e5 : vs 5 = .pointer (some ⟨g10, 33, none⟩) := hP 5 (hD 5 (by decide))
          have e6 : vs 6 = .string xt := hP 6 (hD 6 (by decide))
          have e7 : vs 7 = .string tt := hP 7 (hD 7 (by decide))
          have e8 : vs 8 = .int .i64 ec := hP 8 (hD 8 (by decide))
          have e9 : vs 9 = .bool q := hP 9 (hD 9 (by decide))
          rw [hD 8 (by decide)] at hW
          change InvO w b ch s1 sr r [(g10, cQ y, 57), (g6, cR r, 32)] (.slice A7 m c7) ids u at hW
          have HW := Lib.hid hW
          clear hW hP hD
          rw [puts_range [some 50, some 51, some 52, some 53, some 54, some 55, some 56, some 57, some 58, some 59] (by kernel_rfl)]
          simp only [putL, Nat.reduceAdd, e0, e1, e2, e3, e4, e5, e6, e7, e8, e9]
          clear e0 e1 e2 e3 e4 e5 e6 e7 e8 e9
          have HGA := Lib.hid (show Good ch s1 ∧ s1.outs = s.outs by
            have h1 := HGD.out.1.add yi tt
            have h2 := addS_outs s yi tt
            rw [HS.out] at h1 h2
            exact ⟨h1, h2⟩)
          have htk := track_add HS.out
          go_simp
          rcases q with _ | _
          · have hne : ¬ ec = 0 := by simpa using HQ.out
            rw [if_neg hne] at htk
            have HTK := Lib.hid htk
            clear htk hne
            go_wp2
            go_roundw
            case rel => exact ⟨k + 1, s1, sr, r, A7, m, c7, ids, by have := HGD.out; omega, by go_num, rfl, HGD.out.2.2.2.2.2.2.1, by have := HGD.out; omega, HTK.out.trans HGD.out.2.2.2.2.2.2.2, HGA.out.1, HGD.out.2.1, by rw [HGA.out.2]; have := HGD.out; omega, by have := HGD.out; omega, HW.out.sub fun z hz => by rw [List.mem_singleton.1 hz]; exact List.mem_cons_of_mem _ List.mem_cons_self⟩
            case measure => simp [intOf] <;> omega
          · have he0 : ec = 0 := by simpa using HQ.out
            rw [if_pos he0] at htk
            have HTK := Lib.hid htk
            clear htk he0
            have RR := HW.out.base.row (g := g10) (cs := cQ y) (ty := 57) List.mem_cons_self
            obtain ⟨_, ⟨rr1, rr2⟩, _, _, _⟩ := row_Q RR
            rw [HA1.out.1] at rr2
            clear RR
            have HB := Lib.hid (below_alloc u (.cells (aIs [yi]) 40))
            go_wp2_with (at_builtin; refine wpList_append_slat _ rfl (.tmp 60) (.tmp 64) 64 rfl w.heap.size 40 32 32 cI Tryd.underlying64 row40 (by decide) cI_length cI_one (.slice A7 m c7) ids rfl (HW.out.own.keep HB.out) (some ⟨u.heap.size, 0, none⟩) 1 1 [yi] rfl rfl (fun _ => ⟨_, rfl, at_new u ([yi].flatMap cI) 40 _ (by simp)⟩) (by have := HGD.out; omega) (by have := HGD.out; omega) (Nat.le_trans HW.out.size HB.out.size) ?_)
            intro v2 w2 ho2 hg2 hat2
            have hO := (HW.out.below HB.out).grow ho2 hg2 (hat2.imp id (fun e => by rw [e]; simp))
            obtain ⟨A8, c8, rfl, _, _⟩ := hO.own.sl
            have HO := Lib.hid hO
            have hl1 : (ids ++ [yi]).length = m + 1 := by rw [List.length_append, HGD.out.2.2.2.2.2.2.1]; rfl
            rw [hl1] at HO ⊢
            have HL1 := Lib.hid hl1
            clear ho2 hg2 hat2 hO hl1 rr1 rr2
            go_wp2
            go_roundw
            case rel => exact ⟨k + 1, s1, sr, r, A8, m + 1, c8, ids ++ [yi], by have := HGD.out; omega, by go_num, rfl, HL1.out, by have := HGD.out; omega, by rw [HTK.out, HGD.out.2.2.2.2.2.2.2], HGA.out.1, HGD.out.2.1, by rw [HGA.out.2]; have := HGD.out; omega, by have := HGD.out; omega, HO.out.sub fun z hz => by rw [List.mem_singleton.1 hz]; exact List.mem_cons_of_mem _ List.mem_cons_self⟩
            case measure => simp [intOf] <;> omega

    case neg =>
      have HO1 := Lib.hid hI
      have HGD := Lib.hid (And.intro hgd (And.intro (Nat.le_trans hmk hk) (And.intro hm (And.intro htr (Nat.le_trans hou hk)))))
      have HG2 := Lib.hid (show Good ch { s with outs := [] } from ⟨hgd.c1, hgd.c2, hgd.st, hgd.low, hgd.idle, hgd.mid, hgd.last, hgd.cur, hgd.wait, hgd.len, hgd.len2⟩)
      clear hI hgd hgr hou hour hm htr
      by_cases hkn : k < n
      case' pos =>
        have hlk : (k : Int) < (n : Int) := by omega
        have h60 : ¬ (k : Int) < 60 := by omega
      case' neg =>
        have hlk : ¬ (k : Int) < (n : Int) := by omega
      all_goals
        clear hend hkn hmk
        have T0 : True := trivial
        go_wp2_with (have hh := T0; clear hh T0; go_at_call 25; refine HO1.out.outs.mono ?_; rintro e U ⟨A2, n2, c2, rfl, hn2, hs2, hI2⟩; have H2 := Lib.hid (And.intro hn2 (And.intro hs2 hI2)); clear hn2 hs2 hI2)
        have hn60 : n2 ≤ 60 := by rw [← H2.out.1]; exact HGD.out.2.2.2.2
        clear hlk hk
        try clear h60
        go_loopw [8, 12] (fun v i wl => ∃ (j : Nat) (A8 : Option Addr) (c8 : Nat), j ≤ n2 ∧ i = .int .i64 (j : Int) ∧ v = .slice A8 j c8 ∧ Own wl U.heap.size 40 32 cI (.slice A8 j c8) ((s.outs.take j).map (·.1)) ∧ Below U.heap.size U wl) (fun _ i _ => n2 - (intOf i).toNat)
        case atStart => exact ⟨0, none, 0, Nat.zero_le _, rfl, rfl, Own.nil _ _ _ _ _, Below.refl _ _⟩
        case round =>
          obtain ⟨j, A8, c8, hj, rfl, rfl, ho, hb⟩ := hrel
          by_cases hlt : j < n2
          · have hlj : (j : Int) < (n2 : Int) := by omega
            have hj60 : j ≤ 60 := by omega
            have hl1 : j < s.outs.length := by rw [H2.out.1]; exact hlt
            obtain ⟨ad1, rfl, ⟨ok1, rd1⟩, z1, z2, z3, z4⟩ := outAt (H2.out.2.1.keep hb) hl1
            clear z1 z2 z3 z4
            have HT := Lib.hid (show (s.outs.take (j + 1)).map (·.1) = (s.outs.take j).map (·.1) ++ [(s.outs[j]'hl1).1] by rw [List.take_succ_eq_append_getElem hl1, List.map_append]; rfl)
            generalize (s.outs[j]'hl1).1 = y at rd1 HT
            have HO := Lib.hid (And.intro ho hb)
            have HLE := Lib.hid (show ((s.outs.take j).map (·.1)).length = j by rw [List.length_map, List.length_take]; omega)
            clear ho hb
            go_wp2_with (at_builtin; refine wpList_append_sl _ rfl (.tmp 85) (.tmp 91) 64 rfl U.heap.size 40 32 32 cI Tryd.underlying64 row40 (by decide) cI_length cI_one (.slice A8 j c8) ((s.outs.take j).map (·.1)) rfl (HO.out.1.keep (below_alloc wr (.cells (aIs [y]) 40))) (some ⟨wr.heap.size, 0, none⟩) 1 1 [y] rfl rfl (fun _ => ⟨_, rfl, at_new wr ([y].flatMap cI) 40 _ (by simp)⟩) (by rw [HLE.out]; omega) (by rw [HLE.out]; omega) (Nat.le_trans HO.out.2.size (below_alloc wr (.cells (aIs [y]) 40)).size) ?_)
            intro v2 w5 ho2 hg
            have hB1 := below_alloc wr (.cells (aIs [y]) 40)
            have hWb := Below.step HO.out.2 hB1
            have hb2 := Own.grew (HO.out.1.keep hB1) hg hWb (Nat.le_refl _) hWb.size
            have ho3 : Own w5 U.heap.size 40 32 cI v2 ((s.outs.take (j + 1)).map (·.1)) := by rw [HT.out]; simpa [List.map_take] using ho2
            obtain ⟨A9, c9, rfl, _, _⟩ := ho3.sl
            have hle : ((s.outs.take (j + 1)).map (·.1)).length = j + 1 := by rw [List.length_map, List.length_take]; omega
            rw [hle] at ho3 ⊢
            have HO3 := Lib.hid (And.intro ho3 hb2)
            clear ho2 hg hB1 hWb hb2 ho3 hle ok1 rd1
            go_wp2
            go_roundw
            case rel => exact ⟨j + 1, A9, c9, hlt, by go_num, rfl, HO3.out.1, HO3.out.2⟩
            case measure => simp [intOf] <;> omega
          · have hjn : j = n2 := by omega
            subst hjn
            have hall : s.outs.take j = s.outs := List.take_of_length_le (by rw [H2.out.1]; exact Nat.le_refl _)
            rw [hall] at ho
            obtain ⟨cur, hcur⟩ : ∃ cur, s.cur.1 = cur := ⟨_, rfl⟩
            obtain ⟨st, hst⟩ : ∃ st, s.state = st := ⟨_, rfl⟩
            have HST := Lib.hid (And.intro hcur hst)
            have HO := Lib.hid (And.intro ho hb)
            have HLE := Lib.hid (show (s.outs.map (·.1)).length = j by rw [List.length_map]; exact H2.out.1)
            clear ho hb hall hlt hj hcur hst
            have T1 : True := trivial
            by_cases hst0 : st = 0
            · have htest : (!decide (st = 0)) = false := by simp [hst0]
              obtain ⟨E1, hE1⟩ : ∃ E1, E1 = s.outs.map (·.1) ++ curL s := ⟨_, rfl⟩
              have hEq : s.outs.map (·.1) = E1 := by rw [hE1]; unfold curL; rw [if_pos (by rw [HST.out.2]; exact hst0), List.append_nil]
              have HEQ := Lib.hid hEq
              have hE1l : j = E1.length := by rw [← hEq]; exact HLE.out.symm
              obtain ⟨n9, hn9⟩ : ∃ n9, n9 = j := ⟨_, rfl⟩
              rw [← hn9] at hE1l
              clear hEq
              have HE1 := Lib.hid (show E1.length = n9 from by rw [← hE1l])
              clear hE1l
              have HM := Lib.hid (show s.wait.length + n9 = m ∧ E1 ++ s.wait.map (·.1) = ids from by
                have h1 : E1 ++ s.wait.map (·.1) = ids := by rw [← HGD.out.2.2.2.1, hE1]; unfold trackS; rw [List.append_assoc]
                refine ⟨?_, h1⟩
                rw [← HGD.out.2.2.1, ← h1, List.length_append, List.length_map, HE1.out, Nat.add_comm])
              clear hE1
              have HN9 := Lib.hid hn9
              clear hn9 hst0
              go_wp2_with (first
                | (have hh := T1; clear hh T1; go_at_call 21; refine ((H2.out.2.2.below HO.out.2).cu HG2.out).mono ?_; rintro e w4 ⟨rfl, hb4⟩; dsimp only; rw [HST.out.1, HST.out.2, htest]; have H4 := Lib.hid (Below.step hb4 (below_alloc w4 (.cells (aI cur) 40))); clear hb4; have HE := Lib.hid (show Own (w4.alloc (.cells (aI cur) 40)) U.heap.size 40 32 cI (.slice A8 j c8) E1 ∧ Below U.heap.size U (w4.alloc (.cells (aI cur) 40)) from ⟨by rw [← HEQ.out]; exact HO.out.1.keep H4.out, Below.step HO.out.2 H4.out⟩); have T2 : True := trivial)
                | (have hh := T2; clear hh T2; go_at_call 26; refine ((H2.out.2.2.below HE.out.2).wa (Nat.le_trans HGD.out.1.len (by decide))).mono ?_; rintro e w6 ⟨Aw, nw, cw, rfl, hnw, hsw, hbw⟩; have H6 := Lib.hid (And.intro hnw (And.intro hsw hbw)); clear hnw hsw hbw)
                | (at_builtin; refine wpList_append_sl _ rfl (.tmp 103) (.tmp 105) 64 rfl U.heap.size 40 32 32 cI Tryd.underlying64 row40 (by decide) cI_length cI_one (.slice A8 j c8) E1 rfl (HE.out.1.keep H6.out.2.2) Aw nw cw (s.wait.map (·.1)) (by rw [List.length_map]; exact H6.out.1) rfl H6.out.2.1 (by have := HGD.out.2.1; have := HM.out.1; have := H6.out.1; rw [HE1.out]; omega) (by have := HGD.out.2.1; have := HM.out.1; have := H6.out.1; rw [HE1.out]; omega) (Nat.le_trans HE.out.2.size H6.out.2.2.size) ?_))
              intro v10 w7 ho10 hg10
              have hb7 := Own.grew (HE.out.1.keep H6.out.2.2) hg10 (Below.step HE.out.2 H6.out.2.2) (Nat.le_refl _) (Nat.le_trans HE.out.2.size H6.out.2.2.size)
              have ho11 : Own w7 U.heap.size 40 32 cI v10 ids := by rw [← HM.out.2]; simpa using ho10
              obtain ⟨A10, c10, rfl, _, _⟩ := ho11.sl
              rw [HGD.out.2.2.1] at ho11 ⊢
              have H7 := Lib.hid (And.intro ho11 hb7)
              clear ho10 hg10 hb7 ho11
              have T3 : True := trivial
              go_wp2_with (have hh := T3; clear hh T3; go_at_call 25; refine (H2.out.2.2.outs2 H7.out.2 H7.out.1).mono ?_; rintro e w8 ⟨A11, n11, c11, rfl, hn11, hb8, ho8, ho9⟩; obtain rfl : n11 = 0 := hn11.symm; have H8 := Lib.hid (And.intro hb8 (And.intro ho8 ho9)); clear hn11 hb8 ho8 ho9)
              have hm60 : m ≤ 60 := HGD.out.2.1
              go_loopw [15] (fun i wl => ∃ (j : Nat), j ≤ m ∧ i = .int .i64 (j : Int) ∧ Below w8.heap.size w8 wl) (fun i _ => m - (intOf i).toNat)
              case atStart => exact ⟨0, Nat.zero_le _, rfl, Below.refl _ _⟩
              case round =>
                obtain ⟨i, hi, rfl, hb⟩ := hrel
                by_cases hlt2 : i < m
                · have hli : (i : Int) < (m : Int) := by omega
                  have hil : i < ids.length := by rw [HGD.out.2.2.1]; exact hlt2
                  obtain ⟨Aa, ca, ea, _, sa⟩ := H8.out.2.1.sl
                  obtain ⟨Ab, cb, eb, _, sb⟩ := H8.out.2.2.sl
                  injection ea with ea1 ea2 ea3
                  injection eb with eb1 eb2 eb3
                  subst ea1 eb1
                  obtain ⟨ada, rfl, oka, rda⟩ := Sl.idE (sa.keep hb) hil
                  obtain ⟨adb, rfl, okb, rdb⟩ := Sl.idE (sb.keep hb) hil
                  generalize (ids[i]'hil) = y at rda rdb
                  have HB2 := Lib.hid hb
                  clear hb sa sb ea2 ea3 eb2 eb3
                  go_wp2
                  go_quiet (fail)
                  go_wp2
                  go_roundw
                  case rel => exact ⟨i + 1, hlt2, by go_num, Below.step HB2.out (below_drewN _ _)⟩
                  case measure => simp [intOf] <;> omega
                · have him : i = m := by omega
                  subst him
                  have HB2 := Lib.hid hb
                  clear hb
                  go_wp2
                  go_ret
                  exact ⟨rfl, Below.step H8.out.1 HB2.out⟩
            · have htest : (!decide (st = 0)) = true := by simp [hst0]
              go_wp2_with (first
                | (have hh := T1; clear hh T1; go_at_call 21; refine ((H2.out.2.2.below HO.out.2).cu HG2.out).mono ?_; rintro e w4 ⟨rfl, hb4⟩; dsimp only; rw [HST.out.1, HST.out.2, htest]; have H4 := Lib.hid (Below.step hb4 (below_alloc w4 (.cells (aI cur) 40))); clear hb4)
                | (at_builtin; have HB5 := Lib.hid (Below.step H4.out (below_alloc (w4.alloc (.cells (aI cur) 40)) (.cells (aIs [cur]) 40))); refine wpList_append_sl _ rfl (.tmp 99) (.tmp 101) 64 rfl U.heap.size 40 32 32 cI Tryd.underlying64 row40 (by decide) cI_length cI_one (.slice A8 j c8) (s.outs.map (·.1)) rfl (HO.out.1.keep HB5.out) (some ⟨w4.heap.size + 1, 0, none⟩) 1 1 [cur] rfl rfl (fun _ => ⟨_, rfl, at_new (w4.alloc (.cells (aI cur) 40)) ([cur].flatMap cI) 40 _ (by simp)⟩) (by rw [HLE.out]; omega) (by rw [HLE.out]; omega) (Nat.le_trans HO.out.2.size HB5.out.size) ?_))
              intro v5 w5 ho5 hg5
              have hb5 := Own.grew (HO.out.1.keep HB5.out) hg5 (Below.step HO.out.2 HB5.out) (Nat.le_refl _) (Nat.le_trans HO.out.2.size HB5.out.size)
              obtain ⟨E1, hE1⟩ : ∃ E1, E1 = s.outs.map (·.1) ++ curL s := ⟨_, rfl⟩
              have hEq : s.outs.map (·.1) ++ [cur] = E1 := by rw [hE1]; unfold curL; rw [if_neg (by rw [HST.out.2]; exact hst0), HST.out.1]
              rw [hEq] at ho5
              obtain ⟨A9, c9, rfl, _, _⟩ := ho5.sl
              obtain ⟨n9, hE1l⟩ : ∃ n9, n9 = E1.length := ⟨_, rfl⟩
              rw [← hE1l] at ho5 ⊢
              have HE := Lib.hid (And.intro ho5 hb5)
              clear hEq ho5 hg5 hb5 hst0
              have HE1 := Lib.hid (show E1.length = n9 from by rw [← hE1l])
              clear hE1l
              have HM := Lib.hid (show s.wait.length + n9 = m ∧ E1 ++ s.wait.map (·.1) = ids from by
                have h1 : E1 ++ s.wait.map (·.1) = ids := by rw [← HGD.out.2.2.2.1, hE1]; unfold trackS; rw [List.append_assoc]
                refine ⟨?_, h1⟩
                rw [← HGD.out.2.2.1, ← h1, List.length_append, List.length_map, HE1.out, Nat.add_comm])
              clear hE1
              have T2 : True := trivial
              go_wp2_with (first
                | (have hh := T2; clear hh T2; go_at_call 26; refine ((H2.out.2.2.below HE.out.2).wa (Nat.le_trans HGD.out.1.len (by decide))).mono ?_; rintro e w6 ⟨Aw, nw, cw, rfl, hnw, hsw, hbw⟩; have H6 := Lib.hid (And.intro hnw (And.intro hsw hbw)); clear hnw hsw hbw)
                | (at_builtin; refine wpList_append_sl _ rfl (.tmp 103) (.tmp 105) 64 rfl U.heap.size 40 32 32 cI Tryd.underlying64 row40 (by decide) cI_length cI_one (.slice A9 n9 c9) E1 rfl (HE.out.1.keep H6.out.2.2) Aw nw cw (s.wait.map (·.1)) (by rw [List.length_map]; exact H6.out.1) rfl H6.out.2.1 (by have := HGD.out.2.1; have := HM.out.1; have := H6.out.1; rw [HE1.out]; omega) (by have := HGD.out.2.1; have := HM.out.1; have := H6.out.1; rw [HE1.out]; omega) (Nat.le_trans HE.out.2.size H6.out.2.2.size) ?_))
              intro v10 w7 ho10 hg10
              have hb7 := Own.grew (HE.out.1.keep H6.out.2.2) hg10 (Below.step HE.out.2 H6.out.2.2) (Nat.le_refl _) (Nat.le_trans HE.out.2.size H6.out.2.2.size)
              have ho11 : Own w7 U.heap.size 40 32 cI v10 ids := by rw [← HM.out.2]; simpa using ho10
              obtain ⟨A10, c10, rfl, _, _⟩ := ho11.sl
              rw [HGD.out.2.2.1] at ho11 ⊢
              have H7 := Lib.hid (And.intro ho11 hb7)
              clear ho10 hg10 hb7 ho11
              have T3 : True := trivial
              go_wp2_with (have hh := T3; clear hh T3; go_at_call 25; refine (H2.out.2.2.outs2 H7.out.2 H7.out.1).mono ?_; rintro e w8 ⟨A11, n11, c11, rfl, hn11, hb8, ho8, ho9⟩; obtain rfl : n11 = 0 := hn11.symm; have H8 := Lib.hid (And.intro hb8 (And.intro ho8 ho9)); clear hn11 hb8 ho8 ho9)
              have hm60 : m ≤ 60 := HGD.out.2.1
              go_loopw [15] (fun i wl => ∃ (j : Nat), j ≤ m ∧ i = .int .i64 (j : Int) ∧ Below w8.heap.size w8 wl) (fun i _ => m - (intOf i).toNat)
              case atStart => exact ⟨0, Nat.zero_le _, rfl, Below.refl _ _⟩
              case round =>
                obtain ⟨i, hi, rfl, hb⟩ := hrel
                by_cases hlt2 : i < m
                · have hli : (i : Int) < (m : Int) := by omega
                  have hil : i < ids.length := by rw [HGD.out.2.2.1]; exact hlt2
                  obtain ⟨Aa, ca, ea, _, sa⟩ := H8.out.2.1.sl
                  obtain ⟨Ab, cb, eb, _, sb⟩ := H8.out.2.2.sl
                  injection ea with ea1 ea2 ea3
                  injection eb with eb1 eb2 eb3
                  subst ea1 eb1
                  obtain ⟨ada, rfl, oka, rda⟩ := Sl.idE (sa.keep hb) hil
                  obtain ⟨adb, rfl, okb, rdb⟩ := Sl.idE (sb.keep hb) hil
                  generalize (ids[i]'hil) = y at rda rdb
                  have HB2 := Lib.hid hb
                  clear hb sa sb ea2 ea3 eb2 eb3
                  go_wp2
                  go_quiet (fail)
                  go_wp2
                  go_roundw
                  case rel => exact ⟨i + 1, hlt2, by go_num, Below.step HB2.out (below_drewN _ _)⟩
                  case measure => simp [intOf] <;> omega
                · have him : i = m := by omega
                  subst him
                  have HB2 := Lib.hid hb
                  clear hb
                  go_wp2
                  go_ret
                  exact ⟨rfl, Below.step H8.out.1 HB2.out⟩
theorem law7o (c : UInt8) (A : Option Addr) (cp : Nat) (xs : List Rop) (w : World) (hs : Sl w cQ A xs) (_hc : xs.length ≤ cp) (hL : Laid w) : Calls Tryd.prog 7 #[.int .u8 (c.toNat : Int), .slice A xs.length cp] w fun e w' => e = .returned (.bool true) ∧ Below w.heap.size w w' := law7 c A xs.length cp xs w hL rfl hs
end Go.Proofs.YtlelecnafdddhaaDoor
