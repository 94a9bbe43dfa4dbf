/- bulletinlaw33.OfferAlone. -/
import Derived.Test.YtlelecnafdddhaaDoorDoX
namespace Go.Proofs.YtlelecnafdddhaaDoor
open Go.RowKit
/-- What the sender says in each state: the article under way alone is spoken of, and nothing while an answer is awaited. -/
def AloneS (st : Int) (x : Id) (b : Bool) (c : Cm) : Prop :=
  (st = 0 ∧ b = false) ∨ (st = 0 ∧ b = true ∧ c.verb = 2) ∨ (st = 1 ∧ b = false) ∨ (st = 3 ∧ b = false) ∨ (st = 2 ∧ b = true ∧ c.id = x ∧ (c.verb == 2) = false)
theorem say_alone {ch : Int} {s : St} (g : Good ch s) : AloneS s.state s.cur.1 (sayS ch s).2.2 (sayS ch s).2.1 := by
  unfold AloneS
  rcases g.st with h | h | h | h
  · unfold sayS
    rw [if_pos h]
    cases hw : s.wait with
    | nil => exact Or.inl ⟨h, rfl⟩
    | cons a r => exact Or.inr (Or.inl ⟨h, rfl, rfl⟩)
  · unfold sayS
    rw [if_neg (by omega), if_neg (by omega)]
    exact Or.inr (Or.inr (Or.inl ⟨h, rfl⟩))
  · unfold sayS
    rw [if_neg (by omega), if_pos h]
    split
    · exact Or.inr (Or.inr (Or.inr (Or.inr ⟨h, rfl, rfl, rfl⟩)))
    · exact Or.inr (Or.inr (Or.inr (Or.inr ⟨h, rfl, rfl, rfl⟩)))
  · unfold sayS
    rw [if_neg (by omega), if_neg (by omega)]
    exact Or.inr (Or.inr (Or.inr (Or.inl ⟨h, rfl⟩)))
section
variable {w0 w : World} {b : Nat} {ch : Int} {s sr : St} {r : Rs} {L : List (Nat × List Value × TypeId)}
theorem InvR.st (h : InvR w0 b ch s sr r L w) : Calls Tryd.prog 20 #[.pointer (some ⟨b, 0, none⟩)] w fun e w' => e = .returned (.int .i64 s.state) ∧ w' = w := by
  obtain ⟨F, h1, _⟩ := h.rep
  exact state20 b ch s F w h1
theorem InvR.cu (h : InvR w0 b ch s sr r L w) (g : Good ch s) : Calls Tryd.prog 21 #[.pointer (some ⟨b, 0, none⟩)] w fun e w' => e = .returned (.tuple #[vI s.cur.1, .bool (!decide (s.state = 0))]) ∧ InvR w0 b ch s sr r L w' := by
  obtain ⟨F, h1, _⟩ := h.rep
  refine (current21 b ch s F w h1 (fun e => by rw [g.idle e]; rfl)).mono ?_
  rintro e w' ⟨rfl, hb⟩
  exact ⟨rfl, h.below hb⟩
theorem InvR.rsay {s2 : St} {c1 : Cm} {b1 : Bool} (h : InvR w0 b ch s sr r L w) (g : Good ch sr) (hs : sayS ch sr = (s2, c1, b1)) : Calls Tryd.prog 23 #[vR r] w fun e w' => ∃ r', e = .returned (.tuple #[vR r', vK (ofS c1), .bool b1]) ∧ InvR w0 b ch s s2 r' L w' :=
  h.ref (val := fun q => .tuple #[vR q, vK (ofS c1), .bool b1]) (fun F hF ha => by
    have hh := refSay23 F ch sr r w ha g hF
    rw [hs] at hh
    exact hh)
end
set_option maxRecDepth 100000 in
set_option maxHeartbeats 3200000 in
theorem law5 (c : UInt8) (A : Option Addr) (n cp : Nat) (xs : List Rop) (w : World) (hL : Laid w) (hn : xs.length = n) (hs : Sl w cQ A xs) : Calls Tryd.prog 5 #[.int .u8 (c.toNat : Int), .slice A n cp] w fun e w' => e = .returned (.bool true) ∧ Below w.heap.size w w' := by
  have HX := Lib.hid hL
  have HXS := Lib.hid hs
  have HN := Lib.hid hn
  have l1 := chunkN_lo c
  have l2 := chunkN_hi c
  obtain ⟨ch, hch⟩ : ∃ ch, chunkN c = ch := ⟨_, rfl⟩
  rw [hch] at l1 l2
  have HCH := Lib.hid hch
  have H64 := Lib.hid (And.intro l1 l2)
  clear hL hs hn l1 l2 hch
  have T0 : True := trivial
  go_enter Tryd.func5, Tryd.ntmps5
  go_wp2_with (first
    | (have hh := T0; clear hh T0; go_at_call 13; refine (known13 w HX.out.1 HX.out.2).mono ?_; rintro e w1 ⟨rfl, hb⟩; have H1 := Lib.hid hb; clear hb; have T1 : True := trivial)
    | (have hh := T1; clear hh T1; go_at_call 17; refine (begin17 c _).mono ?_; rintro e w2 ⟨b, r, rfl, hlb, hr, hra, hbl⟩; rw [HCH.out] at hr hra; have hI := InvR.start (L := []) H1.out (fun x hx => by cases hx) hlb hr hra hbl; have HB62 := Lib.hid hI.size; have H2 := Lib.hid (hI.alloc (cR r) 32); clear hI hr hra hbl hlb))
  have H2' := Lib.hid (show InvR w b ch St.zero St.zero r [(w2.heap.size, cR r, 32)] (w2.alloc (.cells (aR r) 32)) from H2.out)
  obtain ⟨g6, hg6⟩ : ∃ g6, g6 = w2.heap.size := ⟨_, rfl⟩
  obtain ⟨U0, hU0⟩ : ∃ U0, w2.alloc (.cells (aR r) 32) = U0 := ⟨_, rfl⟩
  rw [hU0, ← hg6] at H2'
  rw [← hg6] at HB62
  rw [hU0, ← hg6]
  clear H2 hU0 hg6
  go_loopw [7] (fun i wr => ∃ (k : Nat) (s : St) (r : Rs), k ≤ 60 ∧ i = .int .i64 (k : Int) ∧ Good ch s ∧ s.outs.length ≤ k ∧ InvR w b ch s s r [(g6, cR r, 32)] wr) (fun i _ => 60 - (intOf i).toNat)
  case atStart => exact ⟨0, St.zero, r, by omega, rfl, Good.zero H64.out.1 (by have := H64.out.2; omega), Nat.le_refl _, H2'.out⟩
  case round =>
    obtain ⟨k, s, r, hk, rfl, hgd, hou, hI⟩ := hrel
    by_cases hkn : k < n
    case neg =>
      have hlk : ¬ (k : Int) < (n : Int) := by omega
      have HI := Lib.hid hI
      clear hI hgd hou
      go_wp2
      go_ret
      exact ⟨rfl, HI.out.bel⟩
    by_cases hk60 : k < 60
    case neg =>
      have hlk : (k : Int) < (n : Int) := by omega
      have h60 : ¬ (k : Int) < 60 := by omega
      have HI := Lib.hid hI
      clear hI hgd hou
      go_wp2
      go_ret
      exact ⟨rfl, HI.out.bel⟩
    have hlk : (k : Int) < (n : Int) := by omega
    have h60 : (k : Int) < 60 := by omega
    have hlx : k < xs.length := by rw [HN.out]; exact hkn
    obtain ⟨ad, rfl, hz⟩ := opAt HXS.out hlx
    clear hz
    obtain ⟨x, hx⟩ : ∃ x, xs[k]'hlx = x := ⟨_, rfl⟩
    have HLX := Lib.hid hlx
    have HXK := Lib.hid hx
    have HLK := Lib.hid hlk
    obtain ⟨s1, hs1⟩ : ∃ s1, opS ch s x = s1 := ⟨_, rfl⟩
    have HGD := Lib.hid (And.intro hgd (And.intro hou (And.intro hs1 hk60)))
    obtain ⟨st, hst⟩ : ∃ st, s.state = st := ⟨_, rfl⟩
    obtain ⟨xi, hxi⟩ : ∃ xi, s.cur.1 = xi := ⟨_, rfl⟩
    have HST := Lib.hid (And.intro hst hxi)
    have HI0 := Lib.hid hI
    clear hI hgd hou hx hs1 hkn hk60 hk hst hxi
    by_cases hkind : x.kind.toNat % 5 = 1
    · have hk5 : (x.kind.toNat : Int).tmod 5 = 1 := kind_tmod _ 1 hkind
      obtain ⟨s2, c1, b1, hsay⟩ : ∃ s2 c1 b1, sayS ch s = (s2, c1, b1) := ⟨_, _, _, rfl⟩
      have hal := say_alone HGD.out.1
      rw [HST.out.1, HST.out.2, hsay] at hal
      dsimp only at hal
      have HSY := Lib.hid (show opS ch s x = s2 by unfold opS; rw [if_neg (by omega), if_pos hkind, hsay])
      have HSA := Lib.hid hsay
      clear hsay hkind
      unfold AloneS at hal
      rcases hal with ⟨rfl, rfl⟩ | ⟨rfl, rfl, hv⟩ | ⟨rfl, rfl⟩ | ⟨rfl, rfl⟩ | ⟨rfl, rfl, hid, hv⟩
      all_goals
        have T2 : True := trivial
        go_wp2_with (first
          | (have hh := T2; clear hh T2; go_at_call 20; refine HI0.out.st.mono ?_; rintro e w3 ⟨rfl, rfl⟩; rw [HST.out.1]; have T3 : True := trivial)
          | (have hh := T3; clear hh T3; go_at_call 21; refine (HI0.out.cu HGD.out.1).mono ?_; rintro e w4 ⟨rfl, hI4⟩; rw [HST.out.1, HST.out.2]; obtain ⟨ad2, e2, rr1, rr2, rr3⟩ := opAt (HXS.out.keep hI4.bel) HLX.out; cases e2; rw [HXK.out] at rr2 rr3; have rr4 := cell_below rr3 (below_alloc w4 (.cells (aI xi) 40)); have H4 := Lib.hid (hI4.alloc (cI xi) 40); clear hI4 rr1 rr2 rr3; have T4 : True := trivial)
          | (have hh := T4; clear hh T4; go_at_call 18; refine (H4.out.call (fun F hF => say18 b ch s F _ hF HGD.out.1)).mono ?_; rintro e w5 ⟨rfl, hI5⟩; rw [HSA.out] at hI5 ⊢; dsimp only at hI5 ⊢; obtain ⟨x1, x2⟩ := (hI5.row (g := w4.heap.size) (cs := cI xi) (ty := 40) List.mem_cons_self).idI; have x3 := (hI5.row (g := w4.heap.size) (cs := cI xi) (ty := 40) List.mem_cons_self).lt; have R6 := hI5.row (g := g6) (cs := cR r) (ty := 32) (by with_reducible repeat (first | exact List.mem_cons_self | apply List.mem_cons_of_mem)); obtain ⟨m6, m6'⟩ := R6.okw (cR_length r); change rdA _ _ _ = vR r at m6'; have m6l := R6.lt; have hI6 := hI5.alloc (cC c1) 45; have H5 := Lib.hid hI6; clear hI5 hI6 R6; have T5 : True := trivial)
          | (have hh := T5; clear hh T5; go_at_call 23; refine (H5.out.rsay HGD.out.1 HSA.out).mono ?_; rintro e w6 ⟨r9, rfl, hI7⟩; have m7 := (hI7.row (g := g6) (cs := cR r) (ty := 32) (by with_reducible repeat (first | exact List.mem_cons_self | apply List.mem_cons_of_mem))).rok (cR_length r); have H6 := Lib.hid hI7; clear hI7 m6 m6'))
      all_goals
        have HZ := Lib.hid (InvR.setRow (L := []) (cs := cR r) (H6.out.sub (fun y hy => by rw [List.mem_singleton.1 hy]; with_reducible repeat (first | exact List.mem_cons_self | apply List.mem_cons_of_mem))) HB62.out (fun y hy => by cases hy) (cR r9))
        go_roundw
        case rel => exact ⟨k + 1, s2, r9, by have := HGD.out.2.2.2; omega, by go_num, by rw [← HSY.out]; exact HGD.out.1.op x, by rw [← HSY.out]; have := opS_outs ch s x; have := HGD.out.2.1; omega, HZ.out⟩
        case measure => simp [intOf] <;> omega
    · have hk5 : ((x.kind.toNat : Int).tmod 5 != 1) = true := by
        obtain ⟨m, hm⟩ : ∃ m, x.kind.toNat % 5 = m := ⟨_, rfl⟩
        rw [kind_tmod _ m hm]
        have : ¬ ((m : Int) = 1) := by omega
        simpa using this
      have hk6 : ((x.kind.toNat : Int) % 5 != 1) = true := by
        have : ¬ ((x.kind.toNat : Int) % 5 = 1) := by omega
        simpa using this
      clear hkind
      have T2 : True := trivial
      go_wp2_with (first
        | (have hh := T2; clear hh T2; go_at_call 20; refine HI0.out.st.mono ?_; rintro e w3 ⟨rfl, rfl⟩; rw [HST.out.1]; have T3 : True := trivial)
        | (have hh := T3; clear hh T3; go_at_call 21; refine (HI0.out.cu HGD.out.1).mono ?_; rintro e w4 ⟨rfl, hI4⟩; rw [HST.out.1, HST.out.2]; obtain ⟨ad2, e2, rr1, rr2, rr3⟩ := opAt (HXS.out.keep hI4.bel) HLX.out; cases e2; rw [HXK.out] at rr2 rr3; have rr4 := cell_below rr3 (below_alloc w4 (.cells (aI xi) 40)); have HB46 := Lib.hid (show g6 < w4.heap.size from hI4.lts (g6, cR r, 32) List.mem_cons_self); have H4 := Lib.hid (hI4.alloc (cI xi) 40); clear hI4 rr1 rr2 rr3; have T4 : True := trivial))
      obtain ⟨g9, hg9⟩ : ∃ g9, g9 = w4.heap.size := ⟨_, rfl⟩
      obtain ⟨U, hU⟩ : ∃ U, w4.alloc (.cells (aI xi) 40) = U := ⟨_, rfl⟩
      have HI1 := Lib.hid (show InvR w b ch s s r [(g9, cI xi, 40), (g6, cR r, 32)] U by rw [hg9, ← hU]; exact H4.out)
      rw [← hg9, hU]
      obtain ⟨Lz, hLz⟩ : ∃ Lz : List (Nat × List Value × TypeId), Lz = [(g9, cI xi, 40)] := ⟨_, rfl⟩
      have HI := Lib.hid (show InvR w b ch s s r ((g6, cR r, 32) :: Lz) U from HI1.out.sub fun y hy => by
        rw [hLz] at hy
        simp only [List.mem_cons, List.not_mem_nil, or_false] at hy ⊢
        rcases hy with rfl | rfl
        · simp
        · simp)
      have HG := Lib.hid (show w.heap.size ≤ g6 ∧ ∀ y ∈ Lz, y.1 ≠ g6 from ⟨HB62.out, fun y hy => by
        rw [hLz, List.mem_singleton] at hy
        subst hy
        have := (HI0.out.lts (g6, cR r, 32) List.mem_cons_self)
        have := HB46.out
        show g9 ≠ g6
        omega⟩)
      clear H4 hg9 hU HI1 rr4 hLz
      skip
      refine AnyO.wp_anyI (by kernel_rfl) (by kernel_rfl) (AnyO.InvG (σ := Rs × Bool) (fun σ => AnyO.pvL [some (.pointer (some ⟨b, 0, none⟩)), some (vR r), some (.slice (some ad) n cp), some (.int .i64 (k : Int)), some (.pointer (some (ad.add (k * 71)))), some (vQ x), some (.tuple #[vR σ.1, .bool σ.2]), some (.tuple #[vR σ.1, .bool σ.2]), some (vR σ.1), some (.bool σ.2), none]) (fun (σ : Rs × Bool) D u => InvR w b ch (bif D 6 then s1 else s) (bif D 6 then s1 else s) (bif D 6 then σ.1 else r) ((g6, (bif D 10 then cR σ.1 else cR r), 32) :: Lz) u)) (AnyO.InvG.start (g := (r, true)) (by show InvR w b ch s s r ((g6, cR r, 32) :: Lz) _; exact HI.out.below (below_drew _))) ?_ ?_
      · intro i hi
        have hi2 : i = 0 ∨ i = 1 ∨ i = 2 ∨ i = 3 ∨ i = 4 ∨ i = 5 ∨ i = 6 ∨ i = 7 ∨ i = 8 ∨ i = 9 ∨ i = 10 := by first | (simp only [List.size_toArray, List.length_cons, List.length_nil] at hi; omega) | (simp only [List.size_toArray, List.append_eq, List.length_append, List.length_cons, List.length_nil] at hi; omega)
        clear hi
        rcases hi2 with rfl | rfl | rfl | rfl | rfl | rfl | rfl | rfl | rfl | rfl | rfl
        · -- 0: Op.move (Operand.tmp 5)
          refine AnyO.StepI.mk rfl [] (by kernel_rfl) ?_
          intro D vs u hI h0 hC hp ac hb K hK
          obtain ⟨σ, hP, hW⟩ := hI
          have s5 : ac.tmps[5]?.getD undef = .pointer (some ⟨b, 0, none⟩) := by rw [hb]; kernel_rfl
          rw [if_pos (AnyO.wanted_none rfl)]
          clear hb hp
          clear hC
          clear h0
          have HP := Lib.hid hP
          have HWq := Lib.hid hW
          clear hP hW
          go_simp
          have hP := HP.out
          have hW := HWq.out
          clear HP HWq
          exact hK _ _ (AnyO.InvG.step (g := σ) hP rfl hW)
        · -- 1: Op.load 32 (Operand.tmp 6)
          refine AnyO.StepI.mk rfl [] (by kernel_rfl) ?_
          intro D vs u hI h0 hC hp ac hb K hK
          obtain ⟨σ, hP, hW⟩ := hI
          have s6 : ac.tmps[6]?.getD undef = .pointer (some ⟨g6, 0, none⟩) := by rw [hb]; kernel_rfl
          rw [if_pos (AnyO.wanted_none rfl)]
          clear hb hp
          have hf10 : D 10 = false := by
            rcases hd : D 10 with _ | _
            · rfl
            · have hz := hC 10 hd 1 (by rw [show AnyO.pre _ 10 = [8, 6, 0, 1, 2, 3, 4, 5, 6, 7, 8] from by kernel_rfl]; decide)
              rw [h0] at hz
              cases hz
          have RR := hW.row (g := g6) (cs := cR r) (ty := 32) (by rw [hf10]; exact List.mem_cons_self)
          obtain ⟨rr1, rr2⟩ := RR.okw (cR_length _)
          change rdA _ _ _ = vR r at rr2
          clear RR
          clear hC
          clear h0
          have HP := Lib.hid hP
          have HWq := Lib.hid hW
          clear hP hW
          go_simp
          have hP := HP.out
          have hW := HWq.out
          clear HP HWq
          exact hK _ _ (AnyO.InvG.step (g := σ) hP rfl hW)
        · -- 2: Op.move (Operand.tmp 1)
          refine AnyO.StepI.mk rfl [] (by kernel_rfl) ?_
          intro D vs u hI h0 hC hp ac hb K hK
          obtain ⟨σ, hP, hW⟩ := hI
          have s1 : ac.tmps[1]?.getD undef = .slice (some ad) n cp := by rw [hb]; kernel_rfl
          rw [if_pos (AnyO.wanted_none rfl)]
          clear hb hp
          clear hC
          clear h0
          have HP := Lib.hid hP
          have HWq := Lib.hid hW
          clear hP hW
          go_simp
          have hP := HP.out
          have hW := HWq.out
          clear HP HWq
          exact hK _ _ (AnyO.InvG.step (g := σ) hP rfl hW)
        · -- 3: Op.move (Operand.tmp 7)
          refine AnyO.StepI.mk rfl [] (by kernel_rfl) ?_
          intro D vs u hI h0 hC hp ac hb K hK
          obtain ⟨σ, hP, hW⟩ := hI
          have s7 : ac.tmps[7]?.getD undef = .int .i64 (k : Int) := by rw [hb]; kernel_rfl
          rw [if_pos (AnyO.wanted_none rfl)]
          clear hb hp
          clear hC
          clear h0
          have HP := Lib.hid hP
          have HWq := Lib.hid hW
          clear hP hW
          go_simp
          have hP := HP.out
          have hW := HWq.out
          clear HP HWq
          exact hK _ _ (AnyO.InvG.step (g := σ) hP rfl hW)
        · -- 4: Op.indexAddr 51 (Operand.tmp 49) (Operand.tmp 50)
          refine AnyO.StepI.mk rfl [2, 3] (by kernel_rfl) ?_
          intro D vs u hI h0 hC hp ac hb K hK
          obtain ⟨σ, hP, hW⟩ := hI
          have s49 : ac.tmps[49]?.getD undef = .slice (some ad) n cp := by rw [hb]; exact (show _ = vs 2 by kernel_rfl).trans (show vs 2 = .slice (some ad) n cp from hP 2 (hp 2 (by decide)))
          have s50 : ac.tmps[50]?.getD undef = .int .i64 (k : Int) := by rw [hb]; exact (show _ = vs 3 by kernel_rfl).trans (show vs 3 = .int .i64 (k : Int) from hP 3 (hp 3 (by decide)))
          rw [if_pos (AnyO.wanted_none rfl)]
          clear hb hp
          have hlk := HLK.out
          clear hC
          clear h0
          have HP := Lib.hid hP
          have HWq := Lib.hid hW
          clear hP hW
          go_simp
          have hP := HP.out
          have hW := HWq.out
          clear HP HWq
          exact hK _ _ (AnyO.InvG.step (g := σ) hP rfl hW)
        · -- 5: Op.load 57 (Operand.tmp 51)
          refine AnyO.StepI.mk rfl [4] (by kernel_rfl) ?_
          intro D vs u hI h0 hC hp ac hb K hK
          obtain ⟨σ, hP, hW⟩ := hI
          have s51 : ac.tmps[51]?.getD undef = .pointer (some (ad.add (k * 71))) := by rw [hb]; exact (show _ = vs 4 by kernel_rfl).trans (show vs 4 = .pointer (some (ad.add (k * 71))) from hP 4 (hp 4 (by decide)))
          rw [if_pos (AnyO.wanted_none rfl)]
          clear hb hp
          obtain ⟨ad2, e2, rr1, rr2, _⟩ := opAt (HXS.out.keep (hW.bel)) HLX.out
          cases e2
          rw [HXK.out] at rr2
          clear hC
          clear h0
          have HP := Lib.hid hP
          have HWq := Lib.hid hW
          clear hP hW
          go_simp
          have hP := HP.out
          have hW := HWq.out
          clear HP HWq
          exact hK _ _ (AnyO.InvG.step (g := σ) hP rfl hW)
        · -- 6: Op.call { callee := Callee.value (Operand.func 22), args := 
          refine AnyO.StepI.mk rfl [0, 1, 5] (by kernel_rfl) ?_
          intro D vs u hI h0 hC hp ac hb K hK
          obtain ⟨σ, hP, hW⟩ := hI
          have s47 : ac.tmps[47]?.getD undef = .pointer (some ⟨b, 0, none⟩) := by rw [hb]; exact (show _ = vs 0 by kernel_rfl).trans (show vs 0 = .pointer (some ⟨b, 0, none⟩) from hP 0 (hp 0 (by decide)))
          have s48 : ac.tmps[48]?.getD undef = vR r := by rw [hb]; exact (show _ = vs 1 by kernel_rfl).trans (show vs 1 = vR r from hP 1 (hp 1 (by decide)))
          have s52 : ac.tmps[52]?.getD undef = vQ x := by rw [hb]; exact (show _ = vs 5 by kernel_rfl).trans (show vs 5 = vQ x from hP 5 (hp 5 (by decide)))
          rw [if_pos (AnyO.wanted_none rfl)]
          clear hb hp
          have hf7 : D 7 = false := by
            rcases hd : D 7 with _ | _
            · rfl
            · have hz := hC 7 hd 6 (by rw [show AnyO.pre _ 7 = [6] from by kernel_rfl]; decide)
              rw [h0] at hz
              cases hz
          have hf8 : D 8 = false := by
            rcases hd : D 8 with _ | _
            · rfl
            · have hz := hC 8 hd 7 (by rw [show AnyO.pre _ 8 = [7] from by kernel_rfl]; decide)
              rw [hf7] at hz
              cases hz
          have hf9 : D 9 = false := by
            rcases hd : D 9 with _ | _
            · rfl
            · have hz := hC 9 hd 7 (by rw [show AnyO.pre _ 9 = [7] from by kernel_rfl]; decide)
              rw [hf7] at hz
              cases hz
          have hf10 : D 10 = false := by
            rcases hd : D 10 with _ | _
            · rfl
            · have hz := hC 10 hd 8 (by rw [show AnyO.pre _ 10 = [8, 6, 0, 1, 2, 3, 4, 5, 6, 7, 8] from by kernel_rfl]; decide)
              rw [hf8] at hz
              cases hz
          clear hC
          have HP := Lib.hid hP
          have HWq := Lib.hid hW
          clear hP hW
          go_simp
          have hP := HP.out
          have hW := HWq.out
          clear HP HWq
          go_at_call 22
          rw [h0, hf10] at hW
          have hd := do22 w b ch s r x _ _ hW HGD.out.1 HX.out (by have := HGD.out.2.1; have := HGD.out.2.2.2; omega)
          rw [HGD.out.2.2.1] at hd
          refine hd.mono ?_
          rintro e w2 ⟨r9, rfl, hI9⟩
          refine hK _ _ (AnyO.InvG.ghost (g := σ) (r9, true) hP ?_ rfl ?_)
          · intro j hj hq
            rcases j with _ | _ | _ | _ | _ | _ | _ | _ | _ | _ | _ | j
            · exact hq
            · exact hq
            · exact hq
            · exact hq
            · exact hq
            · exact hq
            · exact absurd (show D 6 = true from hj) (by rw [h0]; decide)
            · exact absurd (show D 7 = true from hj) (by rw [hf7]; decide)
            · exact absurd (show D 8 = true from hj) (by rw [hf8]; decide)
            · exact absurd (show D 9 = true from hj) (by rw [hf9]; decide)
            · exact absurd (show D 10 = true from hj) (by rw [hf10]; decide)
            · exact hq
          · show InvR w b ch s1 s1 r9 ((g6, (bif D 10 then cR r9 else cR r), 32) :: Lz) w2
            rw [hf10]
            exact hI9
        · -- 7: Op.move (Operand.tmp 53)
          refine AnyO.StepI.mk rfl [6] (by kernel_rfl) ?_
          intro D vs u hI h0 hC hp ac hb K hK
          obtain ⟨σ, hP, hW⟩ := hI
          have s53 : ac.tmps[53]?.getD undef = .tuple #[vR σ.1, .bool σ.2] := by rw [hb]; exact (show _ = vs 6 by kernel_rfl).trans (show vs 6 = .tuple #[vR σ.1, .bool σ.2] from hP 6 (hp 6 (by decide)))
          rw [if_pos (AnyO.wanted_none rfl)]
          clear hb hp
          clear hC
          clear h0
          have HP := Lib.hid hP
          have HWq := Lib.hid hW
          clear hP hW
          go_simp
          have hP := HP.out
          have hW := HWq.out
          clear HP HWq
          exact hK _ _ (AnyO.InvG.step (g := σ) hP rfl hW)
        · -- 8: Op.extract (Operand.tmp 46) 0
          refine AnyO.StepI.mk rfl [7] (by kernel_rfl) ?_
          intro D vs u hI h0 hC hp ac hb K hK
          obtain ⟨σ, hP, hW⟩ := hI
          have s46 : ac.tmps[46]?.getD undef = .tuple #[vR σ.1, .bool σ.2] := by rw [hb]; exact (show _ = vs 7 by kernel_rfl).trans (show vs 7 = .tuple #[vR σ.1, .bool σ.2] from hP 7 (hp 7 (by decide)))
          rw [if_pos (AnyO.wanted_none rfl)]
          clear hb hp
          clear hC
          clear h0
          have HP := Lib.hid hP
          have HWq := Lib.hid hW
          clear hP hW
          go_simp
          have hP := HP.out
          have hW := HWq.out
          clear HP HWq
          exact hK _ _ (AnyO.InvG.step (g := σ) hP rfl hW)
        · -- 9: Op.extract (Operand.tmp 46) 1
          refine AnyO.StepI.mk rfl [7] (by kernel_rfl) ?_
          intro D vs u hI h0 hC hp ac hb K hK
          obtain ⟨σ, hP, hW⟩ := hI
          have s46 : ac.tmps[46]?.getD undef = .tuple #[vR σ.1, .bool σ.2] := by rw [hb]; exact (show _ = vs 7 by kernel_rfl).trans (show vs 7 = .tuple #[vR σ.1, .bool σ.2] from hP 7 (hp 7 (by decide)))
          rw [if_pos (AnyO.wanted_none rfl)]
          clear hb hp
          clear hC
          clear h0
          have HP := Lib.hid hP
          have HWq := Lib.hid hW
          clear hP hW
          go_simp
          have hP := HP.out
          have hW := HWq.out
          clear HP HWq
          exact hK _ _ (AnyO.InvG.step (g := σ) hP rfl hW)
        · -- 10: Op.store 32 (Operand.tmp 6) (Operand.tmp 54)
          refine AnyO.StepI.mk rfl [8, 6, 0, 1, 2, 3, 4, 5, 6, 7, 8] (by kernel_rfl) ?_
          intro D vs u hI h0 hC hp ac hb K hK
          obtain ⟨σ, hP, hW⟩ := hI
          have s6 : ac.tmps[6]?.getD undef = .pointer (some ⟨g6, 0, none⟩) := by rw [hb]; kernel_rfl
          have s54 : ac.tmps[54]?.getD undef = vR σ.1 := by rw [hb]; exact (show _ = vs 8 by kernel_rfl).trans (show vs 8 = vR σ.1 from hP 8 (hp 8 (by decide)))
          rw [if_pos (AnyO.wanted_none rfl)]
          have hp6 : D 6 = true := hp 6 (by decide)
          clear hb hp
          have h6 := hp6
          rw [h0, h6] at hW
          have RR := hW.row (g := g6) (cs := cR r) (ty := 32) List.mem_cons_self
          have rr := RR.rok (cR_length r)
          clear RR
          clear hC
          have HP := Lib.hid hP
          have HWq := Lib.hid hW
          clear hP hW
          go_simp
          have hP := HP.out
          have hW := HWq.out
          clear HP HWq
          refine hK undef _ (AnyO.InvG.step (g := σ) hP trivial ?_)
          show InvR w b ch (bif D 6 then s1 else s) (bif D 6 then s1 else s) (bif D 6 then σ.1 else r) ((g6, cR σ.1, 32) :: Lz) _
          rw [h6]
          exact InvR.setRow (cs := cR r) hW HG.out.1 HG.out.2 (cR σ.1)
      · intro D vs u hI hD
        obtain ⟨σ, hP, hW⟩ := hI
        have e0 : vs 0 = .pointer (some ⟨b, 0, none⟩) := hP 0 (hD 0 (by decide))
        have e1 : vs 1 = vR r := hP 1 (hD 1 (by decide))
        have e2 : vs 2 = .slice (some ad) n cp := hP 2 (hD 2 (by decide))
        have e3 : vs 3 = .int .i64 (k : Int) := hP 3 (hD 3 (by decide))
        have e4 : vs 4 = .pointer (some (ad.add (k * 71))) := hP 4 (hD 4 (by decide))
        have e5 : vs 5 = vQ x := hP 5 (hD 5 (by decide))
        have e6 : vs 6 = .tuple #[vR σ.1, .bool σ.2] := hP 6 (hD 6 (by decide))
        have e7 : vs 7 = .tuple #[vR σ.1, .bool σ.2] := hP 7 (hD 7 (by decide))
        have e8 : vs 8 = vR σ.1 := hP 8 (hD 8 (by decide))
        have e9 : vs 9 = .bool σ.2 := hP 9 (hD 9 (by decide))
        rw [hD 6 (by decide), hD 10 (by decide)] at hW
        change InvR w b ch s1 s1 σ.1 ((g6, cR σ.1, 32) :: Lz) u at hW
        have HW := Lib.hid hW
        clear hW hP hD
        rw [puts_range [some 47, some 48, some 49, some 50, some 51, some 52, some 53, some 46, some 54, some 55, none] (by kernel_rfl)]
        simp only [putL, Nat.reduceAdd, e0, e1, e2, e3, e4, e5, e6, e7, e8, e9]
        clear e0 e1 e2 e3 e4 e5 e6 e7 e8 e9
        obtain ⟨r9, ok⟩ := σ
        dsimp only at HW ⊢
        have HZ := Lib.hid (show InvR w b ch s1 s1 r9 [(g6, cR r9, 32)] u from HW.out.sub fun y hy => by rw [List.mem_singleton.1 hy]; exact List.mem_cons_self)
        go_simp
        go_wp2
        go_roundw
        case rel => exact ⟨k + 1, s1, r9, by have := HGD.out.2.2.2; omega, by go_num, by rw [← HGD.out.2.2.1]; exact HGD.out.1.op x, by rw [← HGD.out.2.2.1]; have := opS_outs ch s x; have := HGD.out.2.1; omega, HZ.out⟩
        case measure => simp [intOf] <;> omega

theorem law5o (c : UInt8) (A : Option Addr) (cp : Nat) (xs : List Rop) (w : World) (hs : Sl w cQ A xs) (_hc : xs.length ≤ cp) (hL : Laid w) : Calls Tryd.prog 5 #[.int .u8 (c.toNat : Int), .slice A xs.length cp] w fun e w' => e = .returned (.bool true) ∧ Below w.heap.size w w' := law5 c A xs.length cp xs w hL rfl hs
end Go.Proofs.YtlelecnafdddhaaDoor
