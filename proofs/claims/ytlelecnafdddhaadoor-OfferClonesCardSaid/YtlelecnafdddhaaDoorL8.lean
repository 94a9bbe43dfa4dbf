/- bulletinlaw33.OfferClones. -/
import Derived.Test.YtlelecnafdddhaaDoorK
namespace Go.Proofs.YtlelecnafdddhaaDoor
namespace K
open Go.RowKit
def zRow (ch : Int) : List Value := cSn ch (.slice none 0 0) 0 zA none (.slice none 0 0)
theorem zero_row {b : Nat} {ch : Int} {w : World} (h : Rep b ch St.zero [b] w) : Row w b (zRow ch) 91 := by
  obtain ⟨vw, vo, q, h⟩ := h
  have hw : vw = .slice none 0 0 := by
    rcases h.ow.2 with ⟨e, _⟩ | ⟨g, cap, cur, e, _⟩
    · exact e
    · have := h.wF g (by rw [e]; rfl)
      exact absurd (List.mem_singleton.1 this.1) this.2.1
  have ho : vo = .slice none 0 0 := by
    rcases h.oo.2 with ⟨e, _⟩ | ⟨g, cap, cur, e, _⟩
    · exact e
    · have := h.oF g (by rw [e]; rfl)
      exact absurd (List.mem_singleton.1 this.1) this.2
  have hq : q = none := h.none_ rfl
  have hr := h.row
  rw [hw, ho, hq] at hr
  exact hr
theorem row_zero {b : Nat} {ch : Int} {w : World} (h : Row w b (zRow ch) 91) : Rep b ch St.zero [b] w :=
  ⟨.slice none 0 0, .slice none 0 0, none, h, Own.nil _ _ _ _ _, Own.nil _ _ _ _ _, fun _ => rfl, fun t h => (by cases h), List.mem_cons_self, fun k e => (by cases e), fun k e => (by cases e)⟩
theorem own_row {α : Type} {w : World} {base : Nat} {e : TypeId} {s : Nat} {enc : α → List Value} {v : Value} {xs : List α} (h : Own w base e s enc v xs) : ∃ Ls : List (Nat × List Value × TypeId), (∀ x ∈ Ls, Row w x.1 x.2.1 x.2.2 ∧ v.ownBlock = some x.1) ∧ (∀ k, v.ownBlock = some k → k ∈ Ls.map (·.1)) ∧ ∀ w', (∀ x ∈ Ls, Row w' x.1 x.2.1 x.2.2) → Own w' base e s enc v xs := by
  rcases h.2 with ⟨rfl, h0⟩ | ⟨g, cap, cur, rfl, a, hcur, r⟩
  · exact ⟨[], fun _ hx => (by cases hx), fun k e => (by cases e), fun w' _ => ⟨h.1, Or.inl ⟨rfl, h0⟩⟩⟩
  · refine ⟨[(g, cur.toList, e)], fun x hx => ?_, fun k e2 => by obtain rfl : g = k := Option.some.inj e2; simp, fun w' hr => ⟨h.1, Or.inr ⟨g, cap, cur, rfl, a, ?_, r⟩⟩⟩
    · rw [List.mem_singleton.1 hx]
      exact ⟨by unfold Row; rw [hcur], rfl⟩
    · have := hr _ List.mem_cons_self
      unfold Row at this
      simpa using this
/-- The rows that hold a sender. -/
theorem rep_rows {b : Nat} {ch : Int} {s : St} {F : List Nat} {w : World} (h : Rep b ch s F w) : ∃ Ls : List (Nat × List Value × TypeId), (∀ x ∈ Ls, Row w x.1 x.2.1 x.2.2 ∧ x.1 ∈ F) ∧ ∀ w', (∀ x ∈ Ls, Row w' x.1 x.2.1 x.2.2) → Rep b ch s (Ls.map (·.1)) w' := by
  obtain ⟨vw, vo, q, h⟩ := h
  obtain ⟨L1, a1, a3, a2⟩ := own_row h.ow
  obtain ⟨L2, b1, b3, b2⟩ := own_row h.oo
  have main : ∀ L3 : List (Nat × List Value × TypeId), (∀ x ∈ L3, Row w x.1 x.2.1 x.2.2 ∧ x.1 ∈ F) → (∀ w', (∀ x ∈ L3, Row w' x.1 x.2.1 x.2.2) → ∀ t, s.snd = some t → ∃ g, q = some ⟨g, 0, none⟩ ∧ g ≠ b ∧ g ∈ L3.map (·.1) ∧ Row w' g (cT s.cur ch t.1 t.2) 120 ∧ vw.ownBlock ≠ some g ∧ vo.ownBlock ≠ some g) →
      ∃ Ls : List (Nat × List Value × TypeId), (∀ x ∈ Ls, Row w x.1 x.2.1 x.2.2 ∧ x.1 ∈ F) ∧ ∀ w', (∀ x ∈ Ls, Row w' x.1 x.2.1 x.2.2) → Rep b ch s (Ls.map (·.1)) w' := fun L3 c1 c2 => by
    have mem : ∀ k, k ∈ L1.map (·.1) ∨ k ∈ L2.map (·.1) ∨ k ∈ L3.map (·.1) → k ∈ ((b, cSn ch vw s.state s.cur q vo, (91 : TypeId)) :: (L1 ++ (L2 ++ L3))).map (·.1) := fun k hk => by
      rw [List.map_cons, List.map_append, List.map_append]
      refine List.mem_cons_of_mem _ ?_
      rcases hk with hk | hk | hk
      · exact List.mem_append_left _ hk
      · exact List.mem_append_right _ (List.mem_append_left _ hk)
      · exact List.mem_append_right _ (List.mem_append_right _ hk)
    refine ⟨(b, cSn ch vw s.state s.cur q vo, 91) :: (L1 ++ (L2 ++ L3)), fun x hx => ?_, fun w' hr => ⟨vw, vo, q, hr _ List.mem_cons_self, a2 w' fun x hx => hr x (List.mem_cons_of_mem _ (List.mem_append_left _ hx)), b2 w' fun x hx => hr x (List.mem_cons_of_mem _ (List.mem_append_right _ (List.mem_append_left _ hx))), h.none_, fun t ht => ?_, List.mem_cons_self, fun k e => ⟨mem k (Or.inl (a3 k e)), (h.wF k e).2⟩, fun k e => ⟨mem k (Or.inr (Or.inl (b3 k e))), (h.oF k e).2⟩⟩⟩
    · rcases List.mem_cons.1 hx with rfl | hx
      · exact ⟨h.row, h.bF⟩
      · rcases List.mem_append.1 hx with hx | hx
        · exact ⟨(a1 x hx).1, (h.wF _ (a1 x hx).2).1⟩
        · rcases List.mem_append.1 hx with hx | hx
          · exact ⟨(b1 x hx).1, (h.oF _ (b1 x hx).2).1⟩
          · exact c1 x hx
    · obtain ⟨g, e1, e2, e3, e4⟩ := c2 w' (fun x hx => hr x (List.mem_cons_of_mem _ (List.mem_append_right _ (List.mem_append_right _ hx)))) t ht
      exact ⟨g, e1, e2, mem g (Or.inr (Or.inr e3)), e4⟩
  cases hs : s.snd with
  | none => exact main [] (fun _ hx => by cases hx) (fun w' _ t ht => by rw [hs] at ht; cases ht)
  | some t =>
    obtain ⟨g, e1, e2, e3, e4, e5⟩ := h.some_ t hs
    refine main [(g, cT s.cur ch t.1 t.2, 120)] (fun x hx => by rw [List.mem_singleton.1 hx]; exact ⟨e4, e3⟩) (fun w' hr t' ht => ?_)
    rw [hs] at ht
    injection ht with ht
    subst ht
    exact ⟨g, e1, e2, by simp, hr _ List.mem_cons_self, e5⟩
theorem eqS_symm (s t : St) : eqS t s = eqS s t := by
  unfold eqS
  rw [show (t.state == s.state) = (s.state == t.state) from BEq.comm, show (decide (t.cur = s.cur)) = decide (s.cur = t.cur) from by simp [eq_comm], show (sentS t == sentS s) = (sentS s == sentS t) from BEq.comm,
    show (decide (t.wait = s.wait)) = decide (s.wait = t.wait) from by simp [eq_comm], show (decide (t.outs = s.outs)) = decide (s.outs = t.outs) from by simp [eq_comm]]
theorem eqS_self (s : St) : eqS s s = true := by unfold eqS; simp
set_option maxRecDepth 100000 in
set_option maxHeartbeats 6400000 in
theorem law8 (c : UInt8) (A A2 : Option Addr) (n m cp cq : Nat) (xs ys : List Rop) (w : World) (hL : Laid w) (hn : xs.length = n) (hs : Sl w cQ A xs) (hm : ys.length = m) (hs2 : Sl w cQ A2 ys) : Calls Tryd.prog 8 #[.int .u8 (c.toNat : Int), .slice A n cp, .slice A2 m cq] w fun e w' => e = .returned (.bool true) ∧ Below w.heap.size w w' := by
  have HX := Lib.hid hL
  have HS_xs := Lib.hid hs
  have HN_xs := Lib.hid hn
  have HS_ys := Lib.hid hs2
  have HN_ys := Lib.hid hm
  have l1 := chunkN_lo c
  have l2 := chunkN_hi c
  obtain ⟨ch, hch⟩ : ∃ ch, chunkN c = ch := ⟨_, rfl⟩
  rw [hch] at l1 l2
  have HCH := Lib.hid hch
  have H64 := Lib.hid (And.intro l1 l2)
  clear hL hs hn hs2 hm l1 l2 hch
  have T0 : True := trivial
  go_enter Tryd.func8, Tryd.ntmps8
  go_wp2_with (first
    | (have hh := T0; clear hh T0; go_at_call 13; refine (known13 w HX.out.1 HX.out.2).mono ?_; rintro e w1 ⟨rfl, hb⟩; have H1 := Lib.hid hb; clear hb; have T1 : True := trivial)
    | (have hh := T1; clear hh T1; go_at_call 17; refine (begin17 c _).mono ?_; rintro e w2 ⟨b1, r1, rfl, hlb, hr, hra, hbl⟩; rw [HCH.out] at hr hra; have H2 := Lib.hid (And.intro hlb (And.intro hr (And.intro hra hbl))); clear hr hra hbl hlb; have T2 : True := trivial)
    | (have hh := T2; clear hh T2; go_at_call 17; refine (begin17 c _).mono ?_; rintro e w3 ⟨b2, rz, rfl, hlb, hr, hra, hbl⟩; rw [HCH.out] at hr hra; have H3 := Lib.hid (And.intro hlb (And.intro hr (And.intro hra hbl))); clear hr hra hbl hlb))
  have HZ2 := Lib.hid H3.out.2.2.1
  obtain ⟨g8, hg8⟩ : ∃ g8, g8 = w2.heap.size := ⟨_, rfl⟩
  obtain ⟨g10, hg10⟩ : ∃ g10, g10 = w3.heap.size := ⟨_, rfl⟩
  obtain ⟨U0, hU0⟩ : ∃ U0, w3.alloc (.cells (aR rz) 32) = U0 := ⟨_, rfl⟩
  have hb12 : w2.heap.size < (w2.alloc (.cells (aR r1) 32)).heap.size := by simp
  have hlt2 := H3.out.2.1.lt
  have HD := Lib.hid (show w.heap.size ≤ g8 ∧ g8 < b2 ∧ b2 < g10 from ⟨by rw [hg8]; exact Nat.le_trans H1.out.size H2.out.2.2.2.size, by rw [hg8]; exact Nat.lt_of_lt_of_le hb12 H3.out.1, by rw [hg10]; exact hlt2⟩)
  obtain ⟨B0, hB0⟩ : ∃ B0 : BW, B0 = ⟨w, []⟩ := ⟨_, rfl⟩
  have HB0 := Lib.hid (show B0.toWorld = w by rw [hB0])
  obtain ⟨Lz1, hLz1⟩ : ∃ Lz1 : List (Nat × List Value × TypeId), Lz1 = [(g10, cR rz, 32), (b2, zRow ch, 91)] := ⟨_, rfl⟩
  have HLZ1 := Lib.hid hLz1
  have hR8 : Row U0 g8 (cR r1) 32 := by rw [← hU0, hg8]; exact ((Row.new w2 (cR r1) 32).keep H3.out.2.2.2).keep (below_alloc _ _)
  have hR10 : Row U0 g10 (cR rz) 32 := by rw [← hU0, hg10]; exact Row.new w3 (cR rz) 32
  have hb1 := H2.out.2.1.lt
  have hbb : Below w2.heap.size w2 U0 := by rw [← hU0]; exact Below.step (Below.step (below_alloc w2 _) H3.out.2.2.2) (below_alloc _ _)
  have hst : InvR B0 b1 ch St.zero St.zero r1 ((g8, cR r1, 32) :: Lz1) U0 := by
    refine ⟨by rw [HB0.out]; exact Below.step (Below.step H1.out H2.out.2.2.2) hbb, [b1], H2.out.2.1.keep hbb, fun k hk => by rw [List.mem_singleton.1 hk, HB0.out]; exact ⟨Nat.le_trans H1.out.size H2.out.1, Nat.lt_of_lt_of_le hb1 hbb.size⟩, fun y hy => ?_, ⟨H2.out.2.2.1.zero _ _, fun y hy => by rw [hB0] at hy; cases hy⟩⟩
    have hd := HD.out
    rcases List.mem_cons.1 hy with rfl | hy
    · exact ⟨hR8, fun hm => by have := List.mem_singleton.1 hm; dsimp only at *; omega⟩
    · rw [hLz1] at hy
      rcases List.mem_cons.1 hy with rfl | hy
      · exact ⟨hR10, fun hm => by have := List.mem_singleton.1 hm; dsimp only at *; omega⟩
      · rw [List.mem_singleton.1 hy]
        exact ⟨by rw [← hU0]; exact (zero_row H3.out.2.1).keep (below_alloc _ _), fun hm => by have := List.mem_singleton.1 hm; dsimp only at *; omega⟩
  have HST0 := Lib.hid hst
  have HG8 := Lib.hid (show B0.heap.size ≤ g8 ∧ ∀ y ∈ Lz1, y.1 ≠ g8 from ⟨by rw [HB0.out]; exact HD.out.1, fun y hy => by
    have hd := HD.out
    rw [hLz1] at hy
    rcases List.mem_cons.1 hy with rfl | hy
    · dsimp only; omega
    · rw [List.mem_singleton.1 hy]
      dsimp only
      omega⟩)
  rw [hU0, ← hg10, ← hg8]
  clear hst hU0 hg8 hg10 hB0 hLz1 hR8 hR10 hb1 hbb hb12 hlt2
  go_loopw [11] (fun i wr => ∃ (k : Nat) (s : St) (r : Rs), k ≤ 60 ∧ i = .int .i64 (k : Int) ∧ Good ch s ∧ s.outs.length ≤ 60 + k ∧ InvR B0 b1 ch s s r ((g8, cR r, 32) :: Lz1) wr) (fun i _ => 60 - (intOf i).toNat)
  case atStart => exact ⟨0, St.zero, r1, by omega, rfl, Good.zero H64.out.1 (by have := H64.out.2; omega), Nat.zero_le _, HST0.out⟩
  case round =>
    obtain ⟨k, s, r, hk, rfl, hgd, hou, hI⟩ := hrel
    by_cases hend : k < n ∧ k < 60
    case pos =>
      have hlk : (k : Int) < (n : Int) := by omega
      have h60 : (k : Int) < 60 := by omega
      have hlx : k < xs.length := by rw [HN_xs.out]; exact hend.1
      obtain ⟨ad, rfl, hz⟩ := opAt HS_xs.out hlx
      clear hz
      obtain ⟨x, hx⟩ : ∃ x, xs[k]'hlx = x := ⟨_, rfl⟩
      have HXS := Lib.hid (show Sl B0.toWorld cQ (some ad) xs from by first | exact HS_xs.out | (rw [HB0.out]; exact HS_xs.out) | (rw [HB0.out]; exact HS_xs.out.keep HVB.out))
      have HLX := Lib.hid hlx
      have HXK := Lib.hid hx
      have HLK := Lib.hid hlk
      obtain ⟨s1, hs1⟩ : ∃ s1, opS ch s x = s1 := ⟨_, rfl⟩
      have HGD := Lib.hid (And.intro hgd (And.intro hou (And.intro hs1 hend.2)))
      have HI := Lib.hid hI
      have HG := HG8
      clear hI hgd hou hx hs1 hend hk
      go_wp2
      refine AnyO.wp_anyI (by kernel_rfl) (by kernel_rfl) (AnyO.InvG (σ := Rs × Bool) (fun σ => AnyO.pvL [some (.pointer (some ⟨b1, 0, none⟩)), some (vR r), some (.slice (some ad) n cp), some (.int .i64 (k : Int)), some (.pointer (some (ad.add (k * 71)))), some (vQ x), some (.tuple #[vR σ.1, .bool σ.2]), some (.tuple #[vR σ.1, .bool σ.2]), some (vR σ.1), some (.bool σ.2), none]) (fun (σ : Rs × Bool) D u => InvR B0 b1 ch (bif D 6 then s1 else s) (bif D 6 then s1 else s) (bif D 6 then σ.1 else r) ((g8, (bif D 10 then cR σ.1 else cR r), 32) :: Lz1) u)) (AnyO.InvG.start (g := (r, true)) (by show InvR B0 b1 ch s s r ((g8, cR r, 32) :: Lz1) _; exact HI.out.below (below_drew _))) ?_ ?_
      · intro i hi
        have hi2 : i = 0 ∨ i = 1 ∨ i = 2 ∨ i = 3 ∨ i = 4 ∨ i = 5 ∨ i = 6 ∨ i = 7 ∨ i = 8 ∨ i = 9 ∨ i = 10 := by simp only [List.size_toArray, List.length_cons, List.length_nil] at hi; omega
        clear hi
        rcases hi2 with rfl | rfl | rfl | rfl | rfl | rfl | rfl | rfl | rfl | rfl | rfl
        · -- 0: Op.move (Operand.tmp 7)
          refine AnyO.StepI.mk rfl [] (by kernel_rfl) ?_
          intro D vs u hI h0 hC hp ac hb K hK
          obtain ⟨σ, hP, hW⟩ := hI
          have s7 : ac.tmps[7]?.getD undef = .pointer (some ⟨b1, 0, none⟩) := by rw [hb]; kernel_rfl
          rw [if_pos (AnyO.wanted_none rfl)]
          clear hb hp
          clear hC
          clear h0
          have HP := Lib.hid hP
          have HWq := Lib.hid hW
          clear hP hW
          go_simp
          have hP := HP.out
          have hW := HWq.out
          clear HP HWq
          exact hK _ _ (AnyO.InvG.step (g := σ) hP rfl hW)
        · -- 1: Op.load 32 (Operand.tmp 8)
          refine AnyO.StepI.mk rfl [] (by kernel_rfl) ?_
          intro D vs u hI h0 hC hp ac hb K hK
          obtain ⟨σ, hP, hW⟩ := hI
          have s8 : ac.tmps[8]?.getD undef = .pointer (some ⟨g8, 0, none⟩) := by rw [hb]; kernel_rfl
          rw [if_pos (AnyO.wanted_none rfl)]
          clear hb hp
          have hf10 : D 10 = false := by
            rcases hd : D 10 with _ | _
            · rfl
            · have hz := hC 10 hd 1 (by rw [show AnyO.pre _ 10 = [8, 6, 0, 1, 2, 3, 4, 5, 6, 7, 8] from by kernel_rfl]; decide)
              rw [h0] at hz
              cases hz
          have RR := hW.row (g := g8) (cs := cR r) (ty := 32) (by rw [hf10]; exact List.mem_cons_self)
          obtain ⟨rr1, rr2⟩ := RR.okw (cR_length _)
          change rdA _ _ _ = vR r at rr2
          clear RR
          clear hC
          clear h0
          have HP := Lib.hid hP
          have HWq := Lib.hid hW
          clear hP hW
          go_simp
          have hP := HP.out
          have hW := HWq.out
          clear HP HWq
          exact hK _ _ (AnyO.InvG.step (g := σ) hP rfl hW)
        · -- 2: Op.move (Operand.tmp 1)
          refine AnyO.StepI.mk rfl [] (by kernel_rfl) ?_
          intro D vs u hI h0 hC hp ac hb K hK
          obtain ⟨σ, hP, hW⟩ := hI
          have s1 : ac.tmps[1]?.getD undef = .slice (some ad) n cp := by rw [hb]; kernel_rfl
          rw [if_pos (AnyO.wanted_none rfl)]
          clear hb hp
          clear hC
          clear h0
          have HP := Lib.hid hP
          have HWq := Lib.hid hW
          clear hP hW
          go_simp
          have hP := HP.out
          have hW := HWq.out
          clear HP HWq
          exact hK _ _ (AnyO.InvG.step (g := σ) hP rfl hW)
        · -- 3: Op.move (Operand.tmp 11)
          refine AnyO.StepI.mk rfl [] (by kernel_rfl) ?_
          intro D vs u hI h0 hC hp ac hb K hK
          obtain ⟨σ, hP, hW⟩ := hI
          have s11 : ac.tmps[11]?.getD undef = .int .i64 (k : Int) := by rw [hb]; kernel_rfl
          rw [if_pos (AnyO.wanted_none rfl)]
          clear hb hp
          clear hC
          clear h0
          have HP := Lib.hid hP
          have HWq := Lib.hid hW
          clear hP hW
          go_simp
          have hP := HP.out
          have hW := HWq.out
          clear HP HWq
          exact hK _ _ (AnyO.InvG.step (g := σ) hP rfl hW)
        · -- 4: Op.indexAddr 51 (Operand.tmp 47) (Operand.tmp 48)
          refine AnyO.StepI.mk rfl [2, 3] (by kernel_rfl) ?_
          intro D vs u hI h0 hC hp ac hb K hK
          obtain ⟨σ, hP, hW⟩ := hI
          have s47 : ac.tmps[47]?.getD undef = .slice (some ad) n cp := by rw [hb]; exact (show _ = vs 2 by kernel_rfl).trans (show vs 2 = .slice (some ad) n cp from hP 2 (hp 2 (by decide)))
          have s48 : ac.tmps[48]?.getD undef = .int .i64 (k : Int) := by rw [hb]; exact (show _ = vs 3 by kernel_rfl).trans (show vs 3 = .int .i64 (k : Int) from hP 3 (hp 3 (by decide)))
          rw [if_pos (AnyO.wanted_none rfl)]
          clear hb hp
          have hlk := HLK.out
          clear hC
          clear h0
          have HP := Lib.hid hP
          have HWq := Lib.hid hW
          clear hP hW
          go_simp
          have hP := HP.out
          have hW := HWq.out
          clear HP HWq
          exact hK _ _ (AnyO.InvG.step (g := σ) hP rfl hW)
        · -- 5: Op.load 57 (Operand.tmp 49)
          refine AnyO.StepI.mk rfl [4] (by kernel_rfl) ?_
          intro D vs u hI h0 hC hp ac hb K hK
          obtain ⟨σ, hP, hW⟩ := hI
          have s49 : ac.tmps[49]?.getD undef = .pointer (some (ad.add (k * 71))) := by rw [hb]; exact (show _ = vs 4 by kernel_rfl).trans (show vs 4 = .pointer (some (ad.add (k * 71))) from hP 4 (hp 4 (by decide)))
          rw [if_pos (AnyO.wanted_none rfl)]
          clear hb hp
          obtain ⟨ad2, e2, rr1, rr2, _⟩ := opAt (HXS.out.keep (hW.bel)) HLX.out
          cases e2
          rw [HXK.out] at rr2
          clear hC
          clear h0
          have HP := Lib.hid hP
          have HWq := Lib.hid hW
          clear hP hW
          go_simp
          have hP := HP.out
          have hW := HWq.out
          clear HP HWq
          exact hK _ _ (AnyO.InvG.step (g := σ) hP rfl hW)
        · -- 6: Op.call { callee := Callee.value (Operand.func 22), args := 
          refine AnyO.StepI.mk rfl [0, 1, 5] (by kernel_rfl) ?_
          intro D vs u hI h0 hC hp ac hb K hK
          obtain ⟨σ, hP, hW⟩ := hI
          have s45 : ac.tmps[45]?.getD undef = .pointer (some ⟨b1, 0, none⟩) := by rw [hb]; exact (show _ = vs 0 by kernel_rfl).trans (show vs 0 = .pointer (some ⟨b1, 0, none⟩) from hP 0 (hp 0 (by decide)))
          have s46 : ac.tmps[46]?.getD undef = vR r := by rw [hb]; exact (show _ = vs 1 by kernel_rfl).trans (show vs 1 = vR r from hP 1 (hp 1 (by decide)))
          have s50 : ac.tmps[50]?.getD undef = vQ x := by rw [hb]; exact (show _ = vs 5 by kernel_rfl).trans (show vs 5 = vQ x from hP 5 (hp 5 (by decide)))
          rw [if_pos (AnyO.wanted_none rfl)]
          clear hb hp
          have hf7 : D 7 = false := by
            rcases hd : D 7 with _ | _
            · rfl
            · have hz := hC 7 hd 6 (by rw [show AnyO.pre _ 7 = [6] from by kernel_rfl]; decide)
              rw [h0] at hz
              cases hz
          have hf8 : D 8 = false := by
            rcases hd : D 8 with _ | _
            · rfl
            · have hz := hC 8 hd 7 (by rw [show AnyO.pre _ 8 = [7] from by kernel_rfl]; decide)
              rw [hf7] at hz
              cases hz
          have hf9 : D 9 = false := by
            rcases hd : D 9 with _ | _
            · rfl
            · have hz := hC 9 hd 7 (by rw [show AnyO.pre _ 9 = [7] from by kernel_rfl]; decide)
              rw [hf7] at hz
              cases hz
          have hf10 : D 10 = false := by
            rcases hd : D 10 with _ | _
            · rfl
            · have hz := hC 10 hd 8 (by rw [show AnyO.pre _ 10 = [8, 6, 0, 1, 2, 3, 4, 5, 6, 7, 8] from by kernel_rfl]; decide)
              rw [hf8] at hz
              cases hz
          clear hC
          have HP := Lib.hid hP
          have HWq := Lib.hid hW
          clear hP hW
          go_simp
          have hP := HP.out
          have hW := HWq.out
          clear HP HWq
          go_at_call 22
          rw [h0, hf10] at hW
          have hd := do22 B0 b1 ch s r x _ _ hW HGD.out.1 (by rw [HB0.out]; exact HX.out) (by have := HGD.out.2.1; have := HGD.out.2.2.2; omega)
          rw [HGD.out.2.2.1] at hd
          refine hd.mono ?_
          rintro e w2 ⟨r9, rfl, hI9⟩
          refine hK _ _ (AnyO.InvG.ghost (g := σ) (r9, true) hP ?_ rfl ?_)
          · intro j hj hq
            rcases j with _ | _ | _ | _ | _ | _ | _ | _ | _ | _ | _ | j
            · exact hq
            · exact hq
            · exact hq
            · exact hq
            · exact hq
            · exact hq
            · exact absurd (show D 6 = true from hj) (by rw [h0]; decide)
            · exact absurd (show D 7 = true from hj) (by rw [hf7]; decide)
            · exact absurd (show D 8 = true from hj) (by rw [hf8]; decide)
            · exact absurd (show D 9 = true from hj) (by rw [hf9]; decide)
            · exact absurd (show D 10 = true from hj) (by rw [hf10]; decide)
            · exact hq
          · show InvR B0 b1 ch s1 s1 r9 ((g8, (bif D 10 then cR r9 else cR r), 32) :: Lz1) w2
            rw [hf10]
            exact hI9
        · -- 7: Op.move (Operand.tmp 51)
          refine AnyO.StepI.mk rfl [6] (by kernel_rfl) ?_
          intro D vs u hI h0 hC hp ac hb K hK
          obtain ⟨σ, hP, hW⟩ := hI
          have s51 : ac.tmps[51]?.getD undef = .tuple #[vR σ.1, .bool σ.2] := by rw [hb]; exact (show _ = vs 6 by kernel_rfl).trans (show vs 6 = .tuple #[vR σ.1, .bool σ.2] from hP 6 (hp 6 (by decide)))
          rw [if_pos (AnyO.wanted_none rfl)]
          clear hb hp
          clear hC
          clear h0
          have HP := Lib.hid hP
          have HWq := Lib.hid hW
          clear hP hW
          go_simp
          have hP := HP.out
          have hW := HWq.out
          clear HP HWq
          exact hK _ _ (AnyO.InvG.step (g := σ) hP rfl hW)
        · -- 8: Op.extract (Operand.tmp 44) 0
          refine AnyO.StepI.mk rfl [7] (by kernel_rfl) ?_
          intro D vs u hI h0 hC hp ac hb K hK
          obtain ⟨σ, hP, hW⟩ := hI
          have s44 : ac.tmps[44]?.getD undef = .tuple #[vR σ.1, .bool σ.2] := by rw [hb]; exact (show _ = vs 7 by kernel_rfl).trans (show vs 7 = .tuple #[vR σ.1, .bool σ.2] from hP 7 (hp 7 (by decide)))
          rw [if_pos (AnyO.wanted_none rfl)]
          clear hb hp
          clear hC
          clear h0
          have HP := Lib.hid hP
          have HWq := Lib.hid hW
          clear hP hW
          go_simp
          have hP := HP.out
          have hW := HWq.out
          clear HP HWq
          exact hK _ _ (AnyO.InvG.step (g := σ) hP rfl hW)
        · -- 9: Op.extract (Operand.tmp 44) 1
          refine AnyO.StepI.mk rfl [7] (by kernel_rfl) ?_
          intro D vs u hI h0 hC hp ac hb K hK
          obtain ⟨σ, hP, hW⟩ := hI
          have s44 : ac.tmps[44]?.getD undef = .tuple #[vR σ.1, .bool σ.2] := by rw [hb]; exact (show _ = vs 7 by kernel_rfl).trans (show vs 7 = .tuple #[vR σ.1, .bool σ.2] from hP 7 (hp 7 (by decide)))
          rw [if_pos (AnyO.wanted_none rfl)]
          clear hb hp
          clear hC
          clear h0
          have HP := Lib.hid hP
          have HWq := Lib.hid hW
          clear hP hW
          go_simp
          have hP := HP.out
          have hW := HWq.out
          clear HP HWq
          exact hK _ _ (AnyO.InvG.step (g := σ) hP rfl hW)
        · -- 10: Op.store 32 (Operand.tmp 8) (Operand.tmp 52)
          refine AnyO.StepI.mk rfl [8, 6, 0, 1, 2, 3, 4, 5, 6, 7, 8] (by kernel_rfl) ?_
          intro D vs u hI h0 hC hp ac hb K hK
          obtain ⟨σ, hP, hW⟩ := hI
          have s8 : ac.tmps[8]?.getD undef = .pointer (some ⟨g8, 0, none⟩) := by rw [hb]; kernel_rfl
          have s52 : ac.tmps[52]?.getD undef = vR σ.1 := by rw [hb]; exact (show _ = vs 8 by kernel_rfl).trans (show vs 8 = vR σ.1 from hP 8 (hp 8 (by decide)))
          rw [if_pos (AnyO.wanted_none rfl)]
          have hp6 : D 6 = true := hp 6 (by decide)
          clear hb hp
          have h6 := hp6
          rw [h0, h6] at hW
          have RR := hW.row (g := g8) (cs := cR r) (ty := 32) List.mem_cons_self
          have rr := RR.rok (cR_length r)
          clear RR
          clear hC
          have HP := Lib.hid hP
          have HWq := Lib.hid hW
          clear hP hW
          go_simp
          have hP := HP.out
          have hW := HWq.out
          clear HP HWq
          refine hK undef _ (AnyO.InvG.step (g := σ) hP trivial ?_)
          show InvR B0 b1 ch (bif D 6 then s1 else s) (bif D 6 then s1 else s) (bif D 6 then σ.1 else r) ((g8, cR σ.1, 32) :: Lz1) _
          rw [h6]
          exact InvR.setRow (cs := cR r) hW HG.out.1 HG.out.2 (cR σ.1)
      · intro D vs u hI hD
        obtain ⟨σ, hP, hW⟩ := hI
        have e0 : vs 0 = .pointer (some ⟨b1, 0, none⟩) := hP 0 (hD 0 (by decide))
        have e1 : vs 1 = vR r := hP 1 (hD 1 (by decide))
        have e2 : vs 2 = .slice (some ad) n cp := hP 2 (hD 2 (by decide))
        have e3 : vs 3 = .int .i64 (k : Int) := hP 3 (hD 3 (by decide))
        have e4 : vs 4 = .pointer (some (ad.add (k * 71))) := hP 4 (hD 4 (by decide))
        have e5 : vs 5 = vQ x := hP 5 (hD 5 (by decide))
        have e6 : vs 6 = .tuple #[vR σ.1, .bool σ.2] := hP 6 (hD 6 (by decide))
        have e7 : vs 7 = .tuple #[vR σ.1, .bool σ.2] := hP 7 (hD 7 (by decide))
        have e8 : vs 8 = vR σ.1 := hP 8 (hD 8 (by decide))
        have e9 : vs 9 = .bool σ.2 := hP 9 (hD 9 (by decide))
        rw [hD 6 (by decide), hD 10 (by decide)] at hW
        change InvR B0 b1 ch s1 s1 σ.1 ((g8, cR σ.1, 32) :: Lz1) u at hW
        have HW := Lib.hid hW
        clear hW hP hD
        rw [puts_range [some 45, some 46, some 47, some 48, some 49, some 50, some 51, some 44, some 52, some 53, none] (by kernel_rfl)]
        simp only [putL, Nat.reduceAdd, e0, e1, e2, e3, e4, e5, e6, e7, e8, e9]
        clear e0 e1 e2 e3 e4 e5 e6 e7 e8 e9
        obtain ⟨r9, ok⟩ := σ
        dsimp only at HW ⊢
        go_simp
        go_wp2
        go_roundw
        case rel => exact ⟨k + 1, s1, r9, by have := HGD.out.2.2.2; omega, by go_num, by rw [← HGD.out.2.2.1]; exact HGD.out.1.op x, by rw [← HGD.out.2.2.1]; have := opS_outs ch s x; have := HGD.out.2.1; omega, HW.out⟩
        case measure => simp [intOf] <;> omega
    case neg =>
      by_cases hkn : k < n
      case' pos =>
        have hlk : (k : Int) < (n : Int) := by omega
        have h60 : ¬ (k : Int) < 60 := by omega
      case' neg =>
        have hlk : ¬ (k : Int) < (n : Int) := by omega
      all_goals
        clear hend hkn
        obtain ⟨sa, hsa⟩ : ∃ x, x = s := ⟨_, rfl⟩
        obtain ⟨ra, hra⟩ : ∃ x, x = r := ⟨_, rfl⟩
        obtain ⟨V1, hV1⟩ : ∃ x, x = wr := ⟨_, rfl⟩
        subst hsa hra hV1
        have HGS := Lib.hid (And.intro hgd (show sa.outs.length ≤ 120 by omega))
        obtain ⟨F1, f1, f2, f3, f4⟩ := hI.rep
        obtain ⟨Ls, ls1, ls2⟩ := rep_rows f1
        have HLS := Lib.hid ls2
        obtain ⟨B1, hB1⟩ : ∃ B1 : BW, B1 = ⟨w, [(sa, ra)]⟩ := ⟨_, rfl⟩
        have HB1 := Lib.hid (show B1.toWorld = w by rw [hB1])
        have HB1l := Lib.hid (show B1.rl = [(sa, ra)] by rw [hB1])
        obtain ⟨Lz2, hLz2⟩ : ∃ Lz2 : List (Nat × List Value × TypeId), Lz2 = (g8, cR ra, 32) :: Ls := ⟨_, rfl⟩
        have HLZ2 := Lib.hid hLz2
        have m10 : (g10, cR rz, (32 : TypeId)) ∈ (g8, cR ra, (32 : TypeId)) :: Lz1 := by rw [HLZ1.out]; simp
        have mb2 : (b2, zRow ch, (91 : TypeId)) ∈ (g8, cR ra, (32 : TypeId)) :: Lz1 := by rw [HLZ1.out]; simp
        have hst : InvR B1 b2 ch St.zero St.zero rz ((g10, cR rz, 32) :: Lz2) V1 := by
          refine ⟨by rw [HB1.out, ← HB0.out]; exact hI.bel, [b2], row_zero (f3 _ mb2).1, fun k hk => by rw [List.mem_singleton.1 hk, HB1.out]; exact ⟨by have := HD.out; omega, (f3 _ mb2).1.lt⟩, fun y hy => ?_, ⟨HZ2.out.zero _ _, fun y hy => ?_⟩⟩
          · rcases List.mem_cons.1 hy with rfl | hy
            · exact ⟨(f3 _ m10).1, fun hm => by have := List.mem_singleton.1 hm; have := HD.out; dsimp only at *; omega⟩
            · rw [hLz2] at hy
              rcases List.mem_cons.1 hy with rfl | hy
              · exact ⟨(f3 _ List.mem_cons_self).1, fun hm => by have := List.mem_singleton.1 hm; have := HD.out; dsimp only at *; omega⟩
              · exact ⟨(ls1 y hy).1, fun hm => (f3 _ mb2).2 (by rw [← List.mem_singleton.1 hm]; exact (ls1 y hy).2)⟩
          · rw [HB1l.out, List.mem_singleton] at hy
            subst hy
            refine f4.main.sub fun k hk => ?_
            rcases List.mem_append.1 hk with hk | hk
            · rw [List.mem_singleton.1 hk]
              exact List.mem_append_right _ (List.mem_map.2 ⟨_, mb2, rfl⟩)
            · rw [hLz2, List.map_cons, List.map_cons] at hk
              rcases List.mem_cons.1 hk with rfl | hk
              · exact List.mem_append_right _ (List.mem_map.2 ⟨_, m10, rfl⟩)
              · rcases List.mem_cons.1 hk with rfl | hk
                · exact List.mem_append_right _ (List.mem_map.2 ⟨_, List.mem_cons_self, rfl⟩)
                · obtain ⟨y, hy, rfl⟩ := List.mem_map.1 hk
                  exact List.mem_append_left _ (ls1 y hy).2
        have HG10 := Lib.hid (show B1.heap.size ≤ g10 ∧ ∀ y ∈ Lz2, y.1 ≠ g10 from ⟨by rw [HB1.out]; have := HD.out; omega, fun y hy e => by
          rw [hLz2] at hy
          rcases List.mem_cons.1 hy with rfl | hy
          · have := HD.out; dsimp only at e; omega
          · exact (f3 _ m10).2 (by dsimp only; rw [← e]; exact (ls1 y hy).2)⟩)
        have HST1 := Lib.hid hst
        clear hI hgd hou hk f1 f2 f3 f4 ls1 ls2 hB1 hLz2 m10 mb2 hst
        go_wp2
        go_loopw [12] (fun i wr => ∃ (k : Nat) (s : St) (r : Rs), k ≤ 60 ∧ i = .int .i64 (k : Int) ∧ Good ch s ∧ s.outs.length ≤ 60 + k ∧ InvR B1 b2 ch s s r ((g10, cR r, 32) :: Lz2) wr) (fun i _ => 60 - (intOf i).toNat)
        case atStart => exact ⟨0, St.zero, rz, by omega, rfl, Good.zero H64.out.1 (by have := H64.out.2; omega), Nat.zero_le _, HST1.out⟩
        case round =>
          obtain ⟨k, s, r, hk, rfl, hgd, hou, hI⟩ := hrel
          by_cases hend : k < m ∧ k < 60
          case pos =>
            have hlk : (k : Int) < (m : Int) := by omega
            have h60 : (k : Int) < 60 := by omega
            have hlx : k < ys.length := by rw [HN_ys.out]; exact hend.1
            obtain ⟨ad, rfl, hz⟩ := opAt HS_ys.out hlx
            clear hz
            obtain ⟨x, hx⟩ : ∃ x, ys[k]'hlx = x := ⟨_, rfl⟩
            have HXS := Lib.hid (show Sl B1.toWorld cQ (some ad) ys from by first | exact HS_ys.out | (rw [HB1.out]; exact HS_ys.out) | (rw [HB1.out]; exact HS_ys.out.keep HVB.out))
            have HLX := Lib.hid hlx
            have HXK := Lib.hid hx
            have HLK := Lib.hid hlk
            obtain ⟨s1, hs1⟩ : ∃ s1, opS ch s x = s1 := ⟨_, rfl⟩
            have HGD := Lib.hid (And.intro hgd (And.intro hou (And.intro hs1 hend.2)))
            have HI := Lib.hid hI
            have HG := HG10
            clear hI hgd hou hx hs1 hend hk
            go_wp2
            refine AnyO.wp_anyI (by kernel_rfl) (by kernel_rfl) (AnyO.InvG (σ := Rs × Bool) (fun σ => AnyO.pvL [some (.pointer (some ⟨b2, 0, none⟩)), some (vR r), some (.slice (some ad) m cq), some (.int .i64 (k : Int)), some (.pointer (some (ad.add (k * 71)))), some (vQ x), some (.tuple #[vR σ.1, .bool σ.2]), some (.tuple #[vR σ.1, .bool σ.2]), some (vR σ.1), some (.bool σ.2), none]) (fun (σ : Rs × Bool) D u => InvR B1 b2 ch (bif D 6 then s1 else s) (bif D 6 then s1 else s) (bif D 6 then σ.1 else r) ((g10, (bif D 10 then cR σ.1 else cR r), 32) :: Lz2) u)) (AnyO.InvG.start (g := (r, true)) (by show InvR B1 b2 ch s s r ((g10, cR r, 32) :: Lz2) _; exact HI.out.below (below_drew _))) ?_ ?_
            · intro i hi
              have hi2 : i = 0 ∨ i = 1 ∨ i = 2 ∨ i = 3 ∨ i = 4 ∨ i = 5 ∨ i = 6 ∨ i = 7 ∨ i = 8 ∨ i = 9 ∨ i = 10 := by simp only [List.size_toArray, List.length_cons, List.length_nil] at hi; omega
              clear hi
              rcases hi2 with rfl | rfl | rfl | rfl | rfl | rfl | rfl | rfl | rfl | rfl | rfl
              · -- 0: Op.move (Operand.tmp 9)
                refine AnyO.StepI.mk rfl [] (by kernel_rfl) ?_
                intro D vs u hI h0 hC hp ac hb K hK
                obtain ⟨σ, hP, hW⟩ := hI
                have s9 : ac.tmps[9]?.getD undef = .pointer (some ⟨b2, 0, none⟩) := by rw [hb]; kernel_rfl
                rw [if_pos (AnyO.wanted_none rfl)]
                clear hb hp
                clear hC
                clear h0
                have HP := Lib.hid hP
                have HWq := Lib.hid hW
                clear hP hW
                go_simp
                have hP := HP.out
                have hW := HWq.out
                clear HP HWq
                exact hK _ _ (AnyO.InvG.step (g := σ) hP rfl hW)
              · -- 1: Op.load 32 (Operand.tmp 10)
                refine AnyO.StepI.mk rfl [] (by kernel_rfl) ?_
                intro D vs u hI h0 hC hp ac hb K hK
                obtain ⟨σ, hP, hW⟩ := hI
                have s10 : ac.tmps[10]?.getD undef = .pointer (some ⟨g10, 0, none⟩) := by rw [hb]; kernel_rfl
                rw [if_pos (AnyO.wanted_none rfl)]
                clear hb hp
                have hf10 : D 10 = false := by
                  rcases hd : D 10 with _ | _
                  · rfl
                  · have hz := hC 10 hd 1 (by rw [show AnyO.pre _ 10 = [8, 6, 0, 1, 2, 3, 4, 5, 6, 7, 8] from by kernel_rfl]; decide)
                    rw [h0] at hz
                    cases hz
                have RR := hW.row (g := g10) (cs := cR r) (ty := 32) (by rw [hf10]; exact List.mem_cons_self)
                obtain ⟨rr1, rr2⟩ := RR.okw (cR_length _)
                change rdA _ _ _ = vR r at rr2
                clear RR
                clear hC
                clear h0
                have HP := Lib.hid hP
                have HWq := Lib.hid hW
                clear hP hW
                go_simp
                have hP := HP.out
                have hW := HWq.out
                clear HP HWq
                exact hK _ _ (AnyO.InvG.step (g := σ) hP rfl hW)
              · -- 2: Op.move (Operand.tmp 2)
                refine AnyO.StepI.mk rfl [] (by kernel_rfl) ?_
                intro D vs u hI h0 hC hp ac hb K hK
                obtain ⟨σ, hP, hW⟩ := hI
                have s2 : ac.tmps[2]?.getD undef = .slice (some ad) m cq := by rw [hb]; kernel_rfl
                rw [if_pos (AnyO.wanted_none rfl)]
                clear hb hp
                clear hC
                clear h0
                have HP := Lib.hid hP
                have HWq := Lib.hid hW
                clear hP hW
                go_simp
                have hP := HP.out
                have hW := HWq.out
                clear HP HWq
                exact hK _ _ (AnyO.InvG.step (g := σ) hP rfl hW)
              · -- 3: Op.move (Operand.tmp 12)
                refine AnyO.StepI.mk rfl [] (by kernel_rfl) ?_
                intro D vs u hI h0 hC hp ac hb K hK
                obtain ⟨σ, hP, hW⟩ := hI
                have s12 : ac.tmps[12]?.getD undef = .int .i64 (k : Int) := by rw [hb]; kernel_rfl
                rw [if_pos (AnyO.wanted_none rfl)]
                clear hb hp
                clear hC
                clear h0
                have HP := Lib.hid hP
                have HWq := Lib.hid hW
                clear hP hW
                go_simp
                have hP := HP.out
                have hW := HWq.out
                clear HP HWq
                exact hK _ _ (AnyO.InvG.step (g := σ) hP rfl hW)
              · -- 4: Op.indexAddr 51 (Operand.tmp 67) (Operand.tmp 68)
                refine AnyO.StepI.mk rfl [2, 3] (by kernel_rfl) ?_
                intro D vs u hI h0 hC hp ac hb K hK
                obtain ⟨σ, hP, hW⟩ := hI
                have s67 : ac.tmps[67]?.getD undef = .slice (some ad) m cq := by rw [hb]; exact (show _ = vs 2 by kernel_rfl).trans (show vs 2 = .slice (some ad) m cq from hP 2 (hp 2 (by decide)))
                have s68 : ac.tmps[68]?.getD undef = .int .i64 (k : Int) := by rw [hb]; exact (show _ = vs 3 by kernel_rfl).trans (show vs 3 = .int .i64 (k : Int) from hP 3 (hp 3 (by decide)))
                rw [if_pos (AnyO.wanted_none rfl)]
                clear hb hp
                have hlk := HLK.out
                clear hC
                clear h0
                have HP := Lib.hid hP
                have HWq := Lib.hid hW
                clear hP hW
                go_simp
                have hP := HP.out
                have hW := HWq.out
                clear HP HWq
                exact hK _ _ (AnyO.InvG.step (g := σ) hP rfl hW)
              · -- 5: Op.load 57 (Operand.tmp 69)
                refine AnyO.StepI.mk rfl [4] (by kernel_rfl) ?_
                intro D vs u hI h0 hC hp ac hb K hK
                obtain ⟨σ, hP, hW⟩ := hI
                have s69 : ac.tmps[69]?.getD undef = .pointer (some (ad.add (k * 71))) := by rw [hb]; exact (show _ = vs 4 by kernel_rfl).trans (show vs 4 = .pointer (some (ad.add (k * 71))) from hP 4 (hp 4 (by decide)))
                rw [if_pos (AnyO.wanted_none rfl)]
                clear hb hp
                obtain ⟨ad2, e2, rr1, rr2, _⟩ := opAt (HXS.out.keep (hW.bel)) HLX.out
                cases e2
                rw [HXK.out] at rr2
                clear hC
                clear h0
                have HP := Lib.hid hP
                have HWq := Lib.hid hW
                clear hP hW
                go_simp
                have hP := HP.out
                have hW := HWq.out
                clear HP HWq
                exact hK _ _ (AnyO.InvG.step (g := σ) hP rfl hW)
              · -- 6: Op.call { callee := Callee.value (Operand.func 22), args := 
                refine AnyO.StepI.mk rfl [0, 1, 5] (by kernel_rfl) ?_
                intro D vs u hI h0 hC hp ac hb K hK
                obtain ⟨σ, hP, hW⟩ := hI
                have s65 : ac.tmps[65]?.getD undef = .pointer (some ⟨b2, 0, none⟩) := by rw [hb]; exact (show _ = vs 0 by kernel_rfl).trans (show vs 0 = .pointer (some ⟨b2, 0, none⟩) from hP 0 (hp 0 (by decide)))
                have s66 : ac.tmps[66]?.getD undef = vR r := by rw [hb]; exact (show _ = vs 1 by kernel_rfl).trans (show vs 1 = vR r from hP 1 (hp 1 (by decide)))
                have s70 : ac.tmps[70]?.getD undef = vQ x := by rw [hb]; exact (show _ = vs 5 by kernel_rfl).trans (show vs 5 = vQ x from hP 5 (hp 5 (by decide)))
                rw [if_pos (AnyO.wanted_none rfl)]
                clear hb hp
                have hf7 : D 7 = false := by
                  rcases hd : D 7 with _ | _
                  · rfl
                  · have hz := hC 7 hd 6 (by rw [show AnyO.pre _ 7 = [6] from by kernel_rfl]; decide)
                    rw [h0] at hz
                    cases hz
                have hf8 : D 8 = false := by
                  rcases hd : D 8 with _ | _
                  · rfl
                  · have hz := hC 8 hd 7 (by rw [show AnyO.pre _ 8 = [7] from by kernel_rfl]; decide)
                    rw [hf7] at hz
                    cases hz
                have hf9 : D 9 = false := by
                  rcases hd : D 9 with _ | _
                  · rfl
                  · have hz := hC 9 hd 7 (by rw [show AnyO.pre _ 9 = [7] from by kernel_rfl]; decide)
                    rw [hf7] at hz
                    cases hz
                have hf10 : D 10 = false := by
                  rcases hd : D 10 with _ | _
                  · rfl
                  · have hz := hC 10 hd 8 (by rw [show AnyO.pre _ 10 = [8, 6, 0, 1, 2, 3, 4, 5, 6, 7, 8] from by kernel_rfl]; decide)
                    rw [hf8] at hz
                    cases hz
                clear hC
                have HP := Lib.hid hP
                have HWq := Lib.hid hW
                clear hP hW
                go_simp
                have hP := HP.out
                have hW := HWq.out
                clear HP HWq
                go_at_call 22
                rw [h0, hf10] at hW
                have hd := do22 B1 b2 ch s r x _ _ hW HGD.out.1 (by rw [HB1.out]; exact HX.out) (by have := HGD.out.2.1; have := HGD.out.2.2.2; omega)
                rw [HGD.out.2.2.1] at hd
                refine hd.mono ?_
                rintro e w2 ⟨r9, rfl, hI9⟩
                refine hK _ _ (AnyO.InvG.ghost (g := σ) (r9, true) hP ?_ rfl ?_)
                · intro j hj hq
                  rcases j with _ | _ | _ | _ | _ | _ | _ | _ | _ | _ | _ | j
                  · exact hq
                  · exact hq
                  · exact hq
                  · exact hq
                  · exact hq
                  · exact hq
                  · exact absurd (show D 6 = true from hj) (by rw [h0]; decide)
                  · exact absurd (show D 7 = true from hj) (by rw [hf7]; decide)
                  · exact absurd (show D 8 = true from hj) (by rw [hf8]; decide)
                  · exact absurd (show D 9 = true from hj) (by rw [hf9]; decide)
                  · exact absurd (show D 10 = true from hj) (by rw [hf10]; decide)
                  · exact hq
                · show InvR B1 b2 ch s1 s1 r9 ((g10, (bif D 10 then cR r9 else cR r), 32) :: Lz2) w2
                  rw [hf10]
                  exact hI9
              · -- 7: Op.move (Operand.tmp 71)
                refine AnyO.StepI.mk rfl [6] (by kernel_rfl) ?_
                intro D vs u hI h0 hC hp ac hb K hK
                obtain ⟨σ, hP, hW⟩ := hI
                have s71 : ac.tmps[71]?.getD undef = .tuple #[vR σ.1, .bool σ.2] := by rw [hb]; exact (show _ = vs 6 by kernel_rfl).trans (show vs 6 = .tuple #[vR σ.1, .bool σ.2] from hP 6 (hp 6 (by decide)))
                rw [if_pos (AnyO.wanted_none rfl)]
                clear hb hp
                clear hC
                clear h0
                have HP := Lib.hid hP
                have HWq := Lib.hid hW
                clear hP hW
                go_simp
                have hP := HP.out
                have hW := HWq.out
                clear HP HWq
                exact hK _ _ (AnyO.InvG.step (g := σ) hP rfl hW)
              · -- 8: Op.extract (Operand.tmp 64) 0
                refine AnyO.StepI.mk rfl [7] (by kernel_rfl) ?_
                intro D vs u hI h0 hC hp ac hb K hK
                obtain ⟨σ, hP, hW⟩ := hI
                have s64 : ac.tmps[64]?.getD undef = .tuple #[vR σ.1, .bool σ.2] := by rw [hb]; exact (show _ = vs 7 by kernel_rfl).trans (show vs 7 = .tuple #[vR σ.1, .bool σ.2] from hP 7 (hp 7 (by decide)))
                rw [if_pos (AnyO.wanted_none rfl)]
                clear hb hp
                clear hC
                clear h0
                have HP := Lib.hid hP
                have HWq := Lib.hid hW
                clear hP hW
                go_simp
                have hP := HP.out
                have hW := HWq.out
                clear HP HWq
                exact hK _ _ (AnyO.InvG.step (g := σ) hP rfl hW)
              · -- 9: Op.extract (Operand.tmp 64) 1
                refine AnyO.StepI.mk rfl [7] (by kernel_rfl) ?_
                intro D vs u hI h0 hC hp ac hb K hK
                obtain ⟨σ, hP, hW⟩ := hI
                have s64 : ac.tmps[64]?.getD undef = .tuple #[vR σ.1, .bool σ.2] := by rw [hb]; exact (show _ = vs 7 by kernel_rfl).trans (show vs 7 = .tuple #[vR σ.1, .bool σ.2] from hP 7 (hp 7 (by decide)))
                rw [if_pos (AnyO.wanted_none rfl)]
                clear hb hp
                clear hC
                clear h0
                have HP := Lib.hid hP
                have HWq := Lib.hid hW
                clear hP hW
                go_simp
                have hP := HP.out
                have hW := HWq.out
                clear HP HWq
                exact hK _ _ (AnyO.InvG.step (g := σ) hP rfl hW)
              · -- 10: Op.store 32 (Operand.tmp 10) (Operand.tmp 72)
                refine AnyO.StepI.mk rfl [8, 6, 0, 1, 2, 3, 4, 5, 6, 7, 8] (by kernel_rfl) ?_
                intro D vs u hI h0 hC hp ac hb K hK
                obtain ⟨σ, hP, hW⟩ := hI
                have s10 : ac.tmps[10]?.getD undef = .pointer (some ⟨g10, 0, none⟩) := by rw [hb]; kernel_rfl
                have s72 : ac.tmps[72]?.getD undef = vR σ.1 := by rw [hb]; exact (show _ = vs 8 by kernel_rfl).trans (show vs 8 = vR σ.1 from hP 8 (hp 8 (by decide)))
                rw [if_pos (AnyO.wanted_none rfl)]
                have hp6 : D 6 = true := hp 6 (by decide)
                clear hb hp
                have h6 := hp6
                rw [h0, h6] at hW
                have RR := hW.row (g := g10) (cs := cR r) (ty := 32) List.mem_cons_self
                have rr := RR.rok (cR_length r)
                clear RR
                clear hC
                have HP := Lib.hid hP
                have HWq := Lib.hid hW
                clear hP hW
                go_simp
                have hP := HP.out
                have hW := HWq.out
                clear HP HWq
                refine hK undef _ (AnyO.InvG.step (g := σ) hP trivial ?_)
                show InvR B1 b2 ch (bif D 6 then s1 else s) (bif D 6 then s1 else s) (bif D 6 then σ.1 else r) ((g10, cR σ.1, 32) :: Lz2) _
                rw [h6]
                exact InvR.setRow (cs := cR r) hW HG.out.1 HG.out.2 (cR σ.1)
            · intro D vs u hI hD
              obtain ⟨σ, hP, hW⟩ := hI
              have e0 : vs 0 = .pointer (some ⟨b2, 0, none⟩) := hP 0 (hD 0 (by decide))
              have e1 : vs 1 = vR r := hP 1 (hD 1 (by decide))
              have e2 : vs 2 = .slice (some ad) m cq := hP 2 (hD 2 (by decide))
              have e3 : vs 3 = .int .i64 (k : Int) := hP 3 (hD 3 (by decide))
              have e4 : vs 4 = .pointer (some (ad.add (k * 71))) := hP 4 (hD 4 (by decide))
              have e5 : vs 5 = vQ x := hP 5 (hD 5 (by decide))
              have e6 : vs 6 = .tuple #[vR σ.1, .bool σ.2] := hP 6 (hD 6 (by decide))
              have e7 : vs 7 = .tuple #[vR σ.1, .bool σ.2] := hP 7 (hD 7 (by decide))
              have e8 : vs 8 = vR σ.1 := hP 8 (hD 8 (by decide))
              have e9 : vs 9 = .bool σ.2 := hP 9 (hD 9 (by decide))
              rw [hD 6 (by decide), hD 10 (by decide)] at hW
              change InvR B1 b2 ch s1 s1 σ.1 ((g10, cR σ.1, 32) :: Lz2) u at hW
              have HW := Lib.hid hW
              clear hW hP hD
              rw [puts_range [some 65, some 66, some 67, some 68, some 69, some 70, some 71, some 64, some 72, some 73, none] (by kernel_rfl)]
              simp only [putL, Nat.reduceAdd, e0, e1, e2, e3, e4, e5, e6, e7, e8, e9]
              clear e0 e1 e2 e3 e4 e5 e6 e7 e8 e9
              obtain ⟨r9, ok⟩ := σ
              dsimp only at HW ⊢
              go_simp
              go_wp2
              go_roundw
              case rel => exact ⟨k + 1, s1, r9, by have := HGD.out.2.2.2; omega, by go_num, by rw [← HGD.out.2.2.1]; exact HGD.out.1.op x, by rw [← HGD.out.2.2.1]; have := opS_outs ch s x; have := HGD.out.2.1; omega, HW.out⟩
              case measure => simp [intOf] <;> omega
          case neg =>
            by_cases hkn : k < m
            case' pos =>
              have hlk : (k : Int) < (m : Int) := by omega
              have h60 : ¬ (k : Int) < 60 := by omega
            case' neg =>
              have hlk : ¬ (k : Int) < (m : Int) := by omega
            all_goals
              clear hend hkn
              obtain ⟨sb, hsb⟩ : ∃ x, x = s := ⟨_, rfl⟩
              obtain ⟨rb, hrb⟩ : ∃ x, x = r := ⟨_, rfl⟩
              obtain ⟨V2, hV2⟩ : ∃ x, x = wr := ⟨_, rfl⟩
              subst hsb hrb hV2
              have HGT := Lib.hid (And.intro hgd (show sb.outs.length ≤ 120 by omega))
              obtain ⟨F2, e1, e2, e3, e4⟩ := hI.rep
              have er := fun y hy => (e3 y hy).1
              have HV := Lib.hid (show Rep b1 ch sa (Ls.map (·.1)) V2 ∧ Rep b2 ch sb F2 V2 ∧ RefAt (Ls.map (·.1)) ch sa ra V2 ∧ RefAt (F2 ++ ((g10, cR rb, (32 : TypeId)) :: Lz2).map (·.1)) ch sb rb V2 ∧ Row V2 g8 (cR ra) 32 ∧ Row V2 g10 (cR rb) 32 ∧ Below w.heap.size w V2 from
                ⟨HLS.out V2 (fun y hy => er y (List.mem_cons_of_mem _ (by rw [HLZ2.out]; exact List.mem_cons_of_mem _ hy))), e1, (e4.oth (sa, ra) (by rw [HB1l.out]; exact List.mem_cons_self)).sub (fun k hk => List.mem_append_right _ (by rw [HLZ2.out, List.map_cons, List.map_cons]; exact List.mem_cons_of_mem _ (List.mem_cons_of_mem _ hk))), e4.main, er (g8, cR ra, 32) (List.mem_cons_of_mem _ (by rw [HLZ2.out]; exact List.mem_cons_self)), er (g10, cR rb, 32) List.mem_cons_self, by rw [← HB1.out]; exact hI.bel⟩)
              clear hI hgd hou hk e1 e2 e3 e4 er
              obtain ⟨q, hq⟩ : ∃ q, eqS sa sb = q := ⟨_, rfl⟩
              have HQ := Lib.hid hq
              clear hq
              go_wp2
              refine AnyO.wp_anyI (by kernel_rfl) (by kernel_rfl) (AnyO.InvG (σ := Unit) (fun σ => AnyO.pvL [some (.pointer (some ⟨b1, 0, none⟩)), some (.pointer (some ⟨b2, 0, none⟩)), some (.bool q), some (vR ra), some (vR rb), some (.bool q), some (.bool false), some (.bool false), some (.pointer (some ⟨b2, 0, none⟩)), some (.pointer (some ⟨b1, 0, none⟩)), some (.bool q), some (vR ra), some (vR rb), some (.bool q), some (.bool false), some (.bool false)]) (fun _ _ u => Below V2.heap.size V2 u)) (AnyO.InvG.start (g := ()) ((Below.refl _ _).drew)) ?_ ?_
              · intro i hi
                have hi2 : i = 0 ∨ i = 1 ∨ i = 2 ∨ i = 3 ∨ i = 4 ∨ i = 5 ∨ i = 6 ∨ i = 7 ∨ i = 8 ∨ i = 9 ∨ i = 10 ∨ i = 11 ∨ i = 12 ∨ i = 13 ∨ i = 14 ∨ i = 15 := by simp only [List.size_toArray, List.length_cons, List.length_nil] at hi; omega
                clear hi
                rcases hi2 with rfl | rfl | rfl | rfl | rfl | rfl | rfl | rfl | rfl | rfl | rfl | rfl | rfl | rfl | rfl | rfl
                · -- 0: Op.move (Operand.tmp 7)
                  refine AnyO.StepI.mk rfl [] (by kernel_rfl) ?_
                  intro D vs u hI h0 hC hp ac hb K hK
                  obtain ⟨σ, hP, hW⟩ := hI
                  have s7 : ac.tmps[7]?.getD undef = .pointer (some ⟨b1, 0, none⟩) := by rw [hb]; kernel_rfl
                  rw [if_pos (AnyO.wanted_none rfl)]
                  clear hb hp
                  clear hC
                  clear h0
                  have HP := Lib.hid hP
                  have HWq := Lib.hid hW
                  clear hP hW
                  go_simp
                  have hP := HP.out
                  have hW := HWq.out
                  clear HP HWq
                  exact hK _ _ (AnyO.InvG.step (g := σ) hP rfl hW)
                · -- 1: Op.move (Operand.tmp 9)
                  refine AnyO.StepI.mk rfl [] (by kernel_rfl) ?_
                  intro D vs u hI h0 hC hp ac hb K hK
                  obtain ⟨σ, hP, hW⟩ := hI
                  have s9 : ac.tmps[9]?.getD undef = .pointer (some ⟨b2, 0, none⟩) := by rw [hb]; kernel_rfl
                  rw [if_pos (AnyO.wanted_none rfl)]
                  clear hb hp
                  clear hC
                  clear h0
                  have HP := Lib.hid hP
                  have HWq := Lib.hid hW
                  clear hP hW
                  go_simp
                  have hP := HP.out
                  have hW := HWq.out
                  clear HP HWq
                  exact hK _ _ (AnyO.InvG.step (g := σ) hP rfl hW)
                · -- 2: Op.call { callee := Callee.value (Operand.func 27), args := 
                  refine AnyO.StepI.mk rfl [0, 1] (by kernel_rfl) ?_
                  intro D vs u hI h0 hC hp ac hb K hK
                  obtain ⟨σ, hP, hW⟩ := hI
                  have s74 : ac.tmps[74]?.getD undef = .pointer (some ⟨b1, 0, none⟩) := by rw [hb]; exact (show _ = vs 0 by kernel_rfl).trans (show vs 0 = .pointer (some ⟨b1, 0, none⟩) from hP 0 (hp 0 (by decide)))
                  have s75 : ac.tmps[75]?.getD undef = .pointer (some ⟨b2, 0, none⟩) := by rw [hb]; exact (show _ = vs 1 by kernel_rfl).trans (show vs 1 = .pointer (some ⟨b2, 0, none⟩) from hP 1 (hp 1 (by decide)))
                  rw [if_pos (AnyO.wanted_none rfl)]
                  clear hb hp
                  clear hC
                  clear h0
                  have HP := Lib.hid hP
                  have HWq := Lib.hid hW
                  clear hP hW
                  go_simp
                  have hP := HP.out
                  have hW := HWq.out
                  clear HP HWq
                  go_at_call 27
                  refine (equal27 _ _ ch _ _ _ _ u (HV.out.1.keep hW) (HV.out.2.1.keep hW) (Nat.le_trans HGS.out.1.len (by decide)) (by have := HGS.out.2; omega)).mono ?_
                  rintro e w2 ⟨rfl, hb⟩
                  rw [HQ.out]
                  exact hK _ _ (AnyO.InvG.step (g := σ) hP rfl (Below.step hW hb))
                · -- 3: Op.load 32 (Operand.tmp 8)
                  refine AnyO.StepI.mk rfl [] (by kernel_rfl) ?_
                  intro D vs u hI h0 hC hp ac hb K hK
                  obtain ⟨σ, hP, hW⟩ := hI
                  have s8 : ac.tmps[8]?.getD undef = .pointer (some ⟨g8, 0, none⟩) := by rw [hb]; kernel_rfl
                  rw [if_pos (AnyO.wanted_none rfl)]
                  clear hb hp
                  obtain ⟨rr1, rr2⟩ := (HV.out.2.2.2.2.1.keep hW).okw (cR_length _)
                  change rdA _ _ _ = vR ra at rr2
                  clear hC
                  clear h0
                  have HP := Lib.hid hP
                  have HWq := Lib.hid hW
                  clear hP hW
                  go_simp
                  have hP := HP.out
                  have hW := HWq.out
                  clear HP HWq
                  exact hK _ _ (AnyO.InvG.step (g := σ) hP rfl hW)
                · -- 4: Op.load 32 (Operand.tmp 10)
                  refine AnyO.StepI.mk rfl [] (by kernel_rfl) ?_
                  intro D vs u hI h0 hC hp ac hb K hK
                  obtain ⟨σ, hP, hW⟩ := hI
                  have s10 : ac.tmps[10]?.getD undef = .pointer (some ⟨g10, 0, none⟩) := by rw [hb]; kernel_rfl
                  rw [if_pos (AnyO.wanted_none rfl)]
                  clear hb hp
                  obtain ⟨rr1, rr2⟩ := (HV.out.2.2.2.2.2.1.keep hW).okw (cR_length _)
                  change rdA _ _ _ = vR rb at rr2
                  clear hC
                  clear h0
                  have HP := Lib.hid hP
                  have HWq := Lib.hid hW
                  clear hP hW
                  go_simp
                  have hP := HP.out
                  have hW := HWq.out
                  clear HP HWq
                  exact hK _ _ (AnyO.InvG.step (g := σ) hP rfl hW)
                · -- 5: Op.call { callee := Callee.value (Operand.func 28), args := 
                  refine AnyO.StepI.mk rfl [3, 4, 2] (by kernel_rfl) ?_
                  intro D vs u hI h0 hC hp ac hb K hK
                  obtain ⟨σ, hP, hW⟩ := hI
                  have s77 : ac.tmps[77]?.getD undef = vR ra := by rw [hb]; exact (show _ = vs 3 by kernel_rfl).trans (show vs 3 = vR ra from hP 3 (hp 3 (by decide)))
                  have s78 : ac.tmps[78]?.getD undef = vR rb := by rw [hb]; exact (show _ = vs 4 by kernel_rfl).trans (show vs 4 = vR rb from hP 4 (hp 4 (by decide)))
                  rw [if_pos (AnyO.wanted_none rfl)]
                  clear hb hp
                  clear hC
                  clear h0
                  have HP := Lib.hid hP
                  have HWq := Lib.hid hW
                  clear hP hW
                  go_simp
                  have hP := HP.out
                  have hW := HWq.out
                  clear HP HWq
                  go_at_call 28
                  refine (same28 _ _ ch sa sb ra rb u (HV.out.2.2.1.keep hW) (HV.out.2.2.2.1.keep hW) (Nat.le_trans HGS.out.1.len (by decide)) (by have := HGS.out.2; omega)).mono ?_
                  rintro e w2 ⟨rfl, hb⟩
                  rw [HQ.out]
                  exact hK _ _ (AnyO.InvG.step (g := σ) hP rfl (Below.step hW hb))
                · -- 6: Op.binOp BinOp.neq 4 (Operand.tmp 76) (Operand.tmp 79) 4
                  refine AnyO.StepI.mk rfl [2, 5] (by kernel_rfl) ?_
                  intro D vs u hI h0 hC hp ac hb K hK
                  obtain ⟨σ, hP, hW⟩ := hI
                  have s76 : ac.tmps[76]?.getD undef = .bool q := by rw [hb]; exact (show _ = vs 2 by kernel_rfl).trans (show vs 2 = .bool q from hP 2 (hp 2 (by decide)))
                  have s79 : ac.tmps[79]?.getD undef = .bool q := by rw [hb]; exact (show _ = vs 5 by kernel_rfl).trans (show vs 5 = .bool q from hP 5 (hp 5 (by decide)))
                  rw [if_pos (AnyO.wanted_none rfl)]
                  clear hb hp
                  clear hC
                  clear h0
                  have HP := Lib.hid hP
                  have HWq := Lib.hid hW
                  clear hP hW
                  go_simp
                  have hP := HP.out
                  have hW := HWq.out
                  clear HP HWq
                  exact hK _ _ (AnyO.InvG.step (g := σ) hP rfl hW)
                · -- 7: Op.move (Operand.tmp 80)
                  refine AnyO.StepI.mk rfl [6, 5] (by kernel_rfl) ?_
                  intro D vs u hI h0 hC hp ac hb K hK
                  obtain ⟨σ, hP, hW⟩ := hI
                  have s80 : ac.tmps[80]?.getD undef = .bool false := by rw [hb]; exact (show _ = vs 6 by kernel_rfl).trans (show vs 6 = .bool false from hP 6 (hp 6 (by decide)))
                  rw [if_pos (AnyO.wanted_none rfl)]
                  clear hb hp
                  clear hC
                  clear h0
                  have HP := Lib.hid hP
                  have HWq := Lib.hid hW
                  clear hP hW
                  go_simp
                  have hP := HP.out
                  have hW := HWq.out
                  clear HP HWq
                  exact hK _ _ (AnyO.InvG.step (g := σ) hP rfl hW)
                · -- 8: Op.move (Operand.tmp 9)
                  refine AnyO.StepI.mk rfl [7] (by kernel_rfl) ?_
                  intro D vs u hI h0 hC hp ac hb K hK
                  obtain ⟨σ, hP, hW⟩ := hI
                  have s9 : ac.tmps[9]?.getD undef = .pointer (some ⟨b2, 0, none⟩) := by rw [hb]; kernel_rfl
                  have s81 : ac.tmps[81]?.getD undef = .bool false := by rw [hb]; exact (show _ = vs 7 by kernel_rfl).trans (show vs 7 = .bool false from hP 7 (hp 7 (by decide)))
                  rw [if_pos (AnyO.wanted_some (g := 7) (t := 81) (want := false) rfl rfl s81)]
                  clear hb hp
                  clear hC
                  clear h0
                  have HP := Lib.hid hP
                  have HWq := Lib.hid hW
                  clear hP hW
                  go_simp
                  have hP := HP.out
                  have hW := HWq.out
                  clear HP HWq
                  exact hK _ _ (AnyO.InvG.step (g := σ) hP rfl hW)
                · -- 9: Op.move (Operand.tmp 7)
                  refine AnyO.StepI.mk rfl [7] (by kernel_rfl) ?_
                  intro D vs u hI h0 hC hp ac hb K hK
                  obtain ⟨σ, hP, hW⟩ := hI
                  have s7 : ac.tmps[7]?.getD undef = .pointer (some ⟨b1, 0, none⟩) := by rw [hb]; kernel_rfl
                  have s81 : ac.tmps[81]?.getD undef = .bool false := by rw [hb]; exact (show _ = vs 7 by kernel_rfl).trans (show vs 7 = .bool false from hP 7 (hp 7 (by decide)))
                  rw [if_pos (AnyO.wanted_some (g := 7) (t := 81) (want := false) rfl rfl s81)]
                  clear hb hp
                  clear hC
                  clear h0
                  have HP := Lib.hid hP
                  have HWq := Lib.hid hW
                  clear hP hW
                  go_simp
                  have hP := HP.out
                  have hW := HWq.out
                  clear HP HWq
                  exact hK _ _ (AnyO.InvG.step (g := σ) hP rfl hW)
                · -- 10: Op.call { callee := Callee.value (Operand.func 27), args := 
                  refine AnyO.StepI.mk rfl [8, 9, 7, 7] (by kernel_rfl) ?_
                  intro D vs u hI h0 hC hp ac hb K hK
                  obtain ⟨σ, hP, hW⟩ := hI
                  have s82 : ac.tmps[82]?.getD undef = .pointer (some ⟨b2, 0, none⟩) := by rw [hb]; exact (show _ = vs 8 by kernel_rfl).trans (show vs 8 = .pointer (some ⟨b2, 0, none⟩) from hP 8 (hp 8 (by decide)))
                  have s83 : ac.tmps[83]?.getD undef = .pointer (some ⟨b1, 0, none⟩) := by rw [hb]; exact (show _ = vs 9 by kernel_rfl).trans (show vs 9 = .pointer (some ⟨b1, 0, none⟩) from hP 9 (hp 9 (by decide)))
                  have s81 : ac.tmps[81]?.getD undef = .bool false := by rw [hb]; exact (show _ = vs 7 by kernel_rfl).trans (show vs 7 = .bool false from hP 7 (hp 7 (by decide)))
                  rw [if_pos (AnyO.wanted_some (g := 7) (t := 81) (want := false) rfl rfl s81)]
                  clear hb hp
                  clear hC
                  clear h0
                  have HP := Lib.hid hP
                  have HWq := Lib.hid hW
                  clear hP hW
                  go_simp
                  have hP := HP.out
                  have hW := HWq.out
                  clear HP HWq
                  go_at_call 27
                  refine (equal27 _ _ ch _ _ _ _ u (HV.out.2.1.keep hW) (HV.out.1.keep hW) (Nat.le_trans HGT.out.1.len (by decide)) (by have := HGT.out.2; omega)).mono ?_
                  rintro e w2 ⟨rfl, hb⟩
                  rw [eqS_symm, HQ.out]
                  exact hK _ _ (AnyO.InvG.step (g := σ) hP rfl (Below.step hW hb))
                · -- 11: Op.load 32 (Operand.tmp 8)
                  refine AnyO.StepI.mk rfl [7] (by kernel_rfl) ?_
                  intro D vs u hI h0 hC hp ac hb K hK
                  obtain ⟨σ, hP, hW⟩ := hI
                  have s8 : ac.tmps[8]?.getD undef = .pointer (some ⟨g8, 0, none⟩) := by rw [hb]; kernel_rfl
                  have s81 : ac.tmps[81]?.getD undef = .bool false := by rw [hb]; exact (show _ = vs 7 by kernel_rfl).trans (show vs 7 = .bool false from hP 7 (hp 7 (by decide)))
                  rw [if_pos (AnyO.wanted_some (g := 7) (t := 81) (want := false) rfl rfl s81)]
                  clear hb hp
                  obtain ⟨rr1, rr2⟩ := (HV.out.2.2.2.2.1.keep hW).okw (cR_length _)
                  change rdA _ _ _ = vR ra at rr2
                  clear hC
                  clear h0
                  have HP := Lib.hid hP
                  have HWq := Lib.hid hW
                  clear hP hW
                  go_simp
                  have hP := HP.out
                  have hW := HWq.out
                  clear HP HWq
                  exact hK _ _ (AnyO.InvG.step (g := σ) hP rfl hW)
                · -- 12: Op.load 32 (Operand.tmp 10)
                  refine AnyO.StepI.mk rfl [7] (by kernel_rfl) ?_
                  intro D vs u hI h0 hC hp ac hb K hK
                  obtain ⟨σ, hP, hW⟩ := hI
                  have s10 : ac.tmps[10]?.getD undef = .pointer (some ⟨g10, 0, none⟩) := by rw [hb]; kernel_rfl
                  have s81 : ac.tmps[81]?.getD undef = .bool false := by rw [hb]; exact (show _ = vs 7 by kernel_rfl).trans (show vs 7 = .bool false from hP 7 (hp 7 (by decide)))
                  rw [if_pos (AnyO.wanted_some (g := 7) (t := 81) (want := false) rfl rfl s81)]
                  clear hb hp
                  obtain ⟨rr1, rr2⟩ := (HV.out.2.2.2.2.2.1.keep hW).okw (cR_length _)
                  change rdA _ _ _ = vR rb at rr2
                  clear hC
                  clear h0
                  have HP := Lib.hid hP
                  have HWq := Lib.hid hW
                  clear hP hW
                  go_simp
                  have hP := HP.out
                  have hW := HWq.out
                  clear HP HWq
                  exact hK _ _ (AnyO.InvG.step (g := σ) hP rfl hW)
                · -- 13: Op.call { callee := Callee.value (Operand.func 28), args := 
                  refine AnyO.StepI.mk rfl [11, 12, 10, 7] (by kernel_rfl) ?_
                  intro D vs u hI h0 hC hp ac hb K hK
                  obtain ⟨σ, hP, hW⟩ := hI
                  have s85 : ac.tmps[85]?.getD undef = vR ra := by rw [hb]; exact (show _ = vs 11 by kernel_rfl).trans (show vs 11 = vR ra from hP 11 (hp 11 (by decide)))
                  have s86 : ac.tmps[86]?.getD undef = vR rb := by rw [hb]; exact (show _ = vs 12 by kernel_rfl).trans (show vs 12 = vR rb from hP 12 (hp 12 (by decide)))
                  have s81 : ac.tmps[81]?.getD undef = .bool false := by rw [hb]; exact (show _ = vs 7 by kernel_rfl).trans (show vs 7 = .bool false from hP 7 (hp 7 (by decide)))
                  rw [if_pos (AnyO.wanted_some (g := 7) (t := 81) (want := false) rfl rfl s81)]
                  clear hb hp
                  clear hC
                  clear h0
                  have HP := Lib.hid hP
                  have HWq := Lib.hid hW
                  clear hP hW
                  go_simp
                  have hP := HP.out
                  have hW := HWq.out
                  clear HP HWq
                  go_at_call 28
                  refine (same28 _ _ ch sa sb ra rb u (HV.out.2.2.1.keep hW) (HV.out.2.2.2.1.keep hW) (Nat.le_trans HGS.out.1.len (by decide)) (by have := HGS.out.2; omega)).mono ?_
                  rintro e w2 ⟨rfl, hb⟩
                  rw [HQ.out]
                  exact hK _ _ (AnyO.InvG.step (g := σ) hP rfl (Below.step hW hb))
                · -- 14: Op.binOp BinOp.neq 4 (Operand.tmp 84) (Operand.tmp 87) 4
                  refine AnyO.StepI.mk rfl [10, 13, 7] (by kernel_rfl) ?_
                  intro D vs u hI h0 hC hp ac hb K hK
                  obtain ⟨σ, hP, hW⟩ := hI
                  have s84 : ac.tmps[84]?.getD undef = .bool q := by rw [hb]; exact (show _ = vs 10 by kernel_rfl).trans (show vs 10 = .bool q from hP 10 (hp 10 (by decide)))
                  have s87 : ac.tmps[87]?.getD undef = .bool q := by rw [hb]; exact (show _ = vs 13 by kernel_rfl).trans (show vs 13 = .bool q from hP 13 (hp 13 (by decide)))
                  have s81 : ac.tmps[81]?.getD undef = .bool false := by rw [hb]; exact (show _ = vs 7 by kernel_rfl).trans (show vs 7 = .bool false from hP 7 (hp 7 (by decide)))
                  rw [if_pos (AnyO.wanted_some (g := 7) (t := 81) (want := false) rfl rfl s81)]
                  clear hb hp
                  clear hC
                  clear h0
                  have HP := Lib.hid hP
                  have HWq := Lib.hid hW
                  clear hP hW
                  go_simp
                  have hP := HP.out
                  have hW := HWq.out
                  clear HP HWq
                  exact hK _ _ (AnyO.InvG.step (g := σ) hP rfl hW)
                · -- 15: Op.pick (Operand.tmp 81) (Operand.const (Value.bool true)) (
                  refine AnyO.StepI.mk rfl [7, 14] (by kernel_rfl) ?_
                  intro D vs u hI h0 hC hp ac hb K hK
                  obtain ⟨σ, hP, hW⟩ := hI
                  have s81 : ac.tmps[81]?.getD undef = .bool false := by rw [hb]; exact (show _ = vs 7 by kernel_rfl).trans (show vs 7 = .bool false from hP 7 (hp 7 (by decide)))
                  have s88 : ac.tmps[88]?.getD undef = .bool false := by rw [hb]; exact (show _ = vs 14 by kernel_rfl).trans (show vs 14 = .bool false from hP 14 (hp 14 (by decide)))
                  rw [if_pos (AnyO.wanted_none rfl)]
                  clear hb hp
                  clear hC
                  clear h0
                  have HP := Lib.hid hP
                  have HWq := Lib.hid hW
                  clear hP hW
                  go_simp
                  have hP := HP.out
                  have hW := HWq.out
                  clear HP HWq
                  exact hK _ _ (AnyO.InvG.step (g := σ) hP rfl hW)
              · intro D vs u hI hD
                obtain ⟨σ, hP, hW⟩ := hI
                have e0 : vs 0 = .pointer (some ⟨b1, 0, none⟩) := hP 0 (hD 0 (by decide))
                have e1 : vs 1 = .pointer (some ⟨b2, 0, none⟩) := hP 1 (hD 1 (by decide))
                have e2 : vs 2 = .bool q := hP 2 (hD 2 (by decide))
                have e3 : vs 3 = vR ra := hP 3 (hD 3 (by decide))
                have e4 : vs 4 = vR rb := hP 4 (hD 4 (by decide))
                have e5 : vs 5 = .bool q := hP 5 (hD 5 (by decide))
                have e6 : vs 6 = .bool false := hP 6 (hD 6 (by decide))
                have e7 : vs 7 = .bool false := hP 7 (hD 7 (by decide))
                have e8 : vs 8 = .pointer (some ⟨b2, 0, none⟩) := hP 8 (hD 8 (by decide))
                have e9 : vs 9 = .pointer (some ⟨b1, 0, none⟩) := hP 9 (hD 9 (by decide))
                have e10 : vs 10 = .bool q := hP 10 (hD 10 (by decide))
                have e11 : vs 11 = vR ra := hP 11 (hD 11 (by decide))
                have e12 : vs 12 = vR rb := hP 12 (hD 12 (by decide))
                have e13 : vs 13 = .bool q := hP 13 (hD 13 (by decide))
                have e14 : vs 14 = .bool false := hP 14 (hD 14 (by decide))
                have e15 : vs 15 = .bool false := hP 15 (hD 15 (by decide))
                have HW := Lib.hid hW
                clear hW hP hD
                rw [puts_range [some 74, some 75, some 76, some 77, some 78, some 79, some 80, some 81, some 82, some 83, some 84, some 85, some 86, some 87, some 88, some 89] (by kernel_rfl)]
                simp only [putL, Nat.reduceAdd, e0, e1, e2, e3, e4, e5, e6, e7, e8, e9, e10, e11, e12, e13, e14, e15]
                clear e0 e1 e2 e3 e4 e5 e6 e7 e8 e9 e10 e11 e12 e13 e14 e15
                go_simp
                have T3 : True := trivial
                have HVW := Lib.hid HW.out
                go_wp2_with (first
                  | (have hh := T3; clear hh T3; go_at_call 29; refine (clone29 b1 ch sa _ _ (HV.out.1.keep HVW.out) HGS.out.1 (by have := HGS.out.2; omega)).mono ?_; rintro e w5 ⟨b3, F3, rfl, hr3, hlo3, hb3⟩; have H3 := Lib.hid (And.intro hr3 (And.intro hlo3 hb3)); clear hr3 hlo3 hb3; have T4 : True := trivial)
                  | (have hh := T4; clear hh T4; go_at_call 27; refine (equal27 b3 b1 ch sa sa F3 _ _ H3.out.1 ((HV.out.1.keep HVW.out).keep H3.out.2.2) (Nat.le_trans HGS.out.1.len (by decide)) (by have := HGS.out.2; omega)).mono ?_; rintro e w6 ⟨rfl, hb6⟩; rw [eqS_self]; have hV6 := Below.step (Below.step HVW.out H3.out.2.2) hb6; obtain ⟨x8, x8'⟩ := (HV.out.2.2.2.2.1.keep hV6).okw (cR_length _); change rdA _ _ _ = vR ra at x8'; have H6 := Lib.hid (And.intro hb6 hV6); clear hb6 hV6))
                have HB14 := Lib.hid (below_alloc w6 (.cells (aR ra) 32))
                obtain ⟨B2, hB2⟩ : ∃ B2 : BW, B2 = ⟨V2, []⟩ := ⟨_, rfl⟩
                have HB2 := Lib.hid (show B2.toWorld = V2 by rw [hB2])
                have HB2l := Lib.hid (show B2.rl = [] by rw [hB2])
                obtain ⟨g14, hg14⟩ : ∃ g14, g14 = w6.heap.size := ⟨_, rfl⟩
                obtain ⟨V3, hV3⟩ : ∃ V3, w6.alloc (.cells (aR ra) 32) = V3 := ⟨_, rfl⟩
                have HVB := Lib.hid (show Below w.heap.size w V2 from HV.out.2.2.2.2.2.2)
                have hst : InvR B2 b3 ch sa sa ra [(g14, cR ra, 32)] V3 := by
                  have hlt3 : ∀ k ∈ F3, V2.heap.size ≤ k := fun k hk => Nat.le_trans HVW.out.size (H3.out.2.1 k hk)
                  obtain ⟨F4, t1, t2⟩ := H3.out.1.trim
                  refine ⟨by rw [HB2.out, ← hV3]; exact Below.step H6.out.2 HB14.out, F4, by rw [← hV3]; exact (t1.keep H6.out.1).keep HB14.out, fun k hk => ⟨by rw [HB2.out]; exact hlt3 k (t2 k hk).1, by rw [← hV3]; exact Nat.lt_of_lt_of_le (t2 k hk).2 (Nat.le_trans H6.out.1.size HB14.out.size)⟩, fun y hy => ?_, ⟨?_, fun y hy => by rw [HB2l.out] at hy; cases hy⟩⟩
                  · rw [List.mem_singleton.1 hy, hg14, ← hV3]
                    exact ⟨Row.new w6 (cR ra) 32, fun hm => by have := (t2 _ hm).2; have := H6.out.1.size; dsimp only at *; omega⟩
                  · rw [← hV3]
                    refine ((HV.out.2.2.1.new _ fun k hk => ?_).keep H6.out.2).keep HB14.out
                    rcases List.mem_append.1 hk with hk | hk
                    · exact Or.inr (hlt3 k (t2 k hk).1)
                    · rw [List.map_cons] at hk
                      rcases List.mem_cons.1 hk with rfl | hk
                      · right
                        rw [hg14]
                        exact H6.out.2.size
                      · cases hk
                have HST := Lib.hid hst
                have HG14 := Lib.hid (show B2.heap.size ≤ g14 ∧ ∀ y ∈ ([] : List (Nat × List Value × TypeId)), y.1 ≠ g14 from ⟨by rw [HB2.out, hg14]; exact H6.out.2.size, fun y hy => by cases hy⟩)
                rw [hV3, ← hg14]
                clear hst hV3 hg14 hB2 x8 x8'
                obtain ⟨Lz3, hLz3⟩ : ∃ Lz3 : List (Nat × List Value × TypeId), Lz3 = [] := ⟨_, rfl⟩
                rw [← hLz3] at HG14 HST
                clear hLz3
                go_loopw [15] (fun i wr => ∃ (k : Nat) (s : St) (r : Rs), k ≤ 60 ∧ i = .int .i64 (k : Int) ∧ Good ch s ∧ s.outs.length ≤ 120 + k ∧ InvR B2 b3 ch s s r ((g14, cR r, 32) :: Lz3) wr) (fun i _ => 60 - (intOf i).toNat)
                case atStart => exact ⟨0, sa, ra, by omega, rfl, HGS.out.1, by have := HGS.out.2; omega, HST.out⟩
                case round =>
                  obtain ⟨k, s, r, hk, rfl, hgd, hou, hI⟩ := hrel
                  by_cases hend : k < m ∧ k < 60
                  case pos =>
                    have hlk : (k : Int) < (m : Int) := by omega
                    have h60 : (k : Int) < 60 := by omega
                    have hlx : k < ys.length := by rw [HN_ys.out]; exact hend.1
                    obtain ⟨ad, rfl, hz⟩ := opAt HS_ys.out hlx
                    clear hz
                    obtain ⟨x, hx⟩ : ∃ x, ys[k]'hlx = x := ⟨_, rfl⟩
                    have HXS := Lib.hid (show Sl B2.toWorld cQ (some ad) ys from by first | exact HS_ys.out | (rw [HB2.out]; exact HS_ys.out) | (rw [HB2.out]; exact HS_ys.out.keep HVB.out))
                    have HLX := Lib.hid hlx
                    have HXK := Lib.hid hx
                    have HLK := Lib.hid hlk
                    obtain ⟨s1, hs1⟩ : ∃ s1, opS ch s x = s1 := ⟨_, rfl⟩
                    have HGD := Lib.hid (And.intro hgd (And.intro hou (And.intro hs1 hend.2)))
                    have HI := Lib.hid hI
                    have HG := HG14
                    clear hI hgd hou hx hs1 hend hk
                    go_wp2
                    refine AnyO.wp_anyI (by kernel_rfl) (by kernel_rfl) (AnyO.InvG (σ := Rs × Bool) (fun σ => AnyO.pvL [some (.pointer (some ⟨b3, 0, none⟩)), some (vR r), some (.slice (some ad) m cq), some (.int .i64 (k : Int)), some (.pointer (some (ad.add (k * 71)))), some (vQ x), some (.tuple #[vR σ.1, .bool σ.2]), some (.tuple #[vR σ.1, .bool σ.2]), some (vR σ.1), some (.bool σ.2), none]) (fun (σ : Rs × Bool) D u => InvR B2 b3 ch (bif D 6 then s1 else s) (bif D 6 then s1 else s) (bif D 6 then σ.1 else r) ((g14, (bif D 10 then cR σ.1 else cR r), 32) :: Lz3) u)) (AnyO.InvG.start (g := (r, true)) (by show InvR B2 b3 ch s s r ((g14, cR r, 32) :: Lz3) _; exact HI.out.below (below_drew _))) ?_ ?_
                    · intro i hi
                      have hi2 : i = 0 ∨ i = 1 ∨ i = 2 ∨ i = 3 ∨ i = 4 ∨ i = 5 ∨ i = 6 ∨ i = 7 ∨ i = 8 ∨ i = 9 ∨ i = 10 := by simp only [List.size_toArray, List.length_cons, List.length_nil] at hi; omega
                      clear hi
                      rcases hi2 with rfl | rfl | rfl | rfl | rfl | rfl | rfl | rfl | rfl | rfl | rfl
                      · -- 0: Op.move (Operand.tmp 13)
                        refine AnyO.StepI.mk rfl [] (by kernel_rfl) ?_
                        intro D vs u hI h0 hC hp ac hb K hK
                        obtain ⟨σ, hP, hW⟩ := hI
                        have s13 : ac.tmps[13]?.getD undef = .pointer (some ⟨b3, 0, none⟩) := by rw [hb]; kernel_rfl
                        rw [if_pos (AnyO.wanted_none rfl)]
                        clear hb hp
                        clear hC
                        clear h0
                        have HP := Lib.hid hP
                        have HWq := Lib.hid hW
                        clear hP hW
                        go_simp
                        have hP := HP.out
                        have hW := HWq.out
                        clear HP HWq
                        exact hK _ _ (AnyO.InvG.step (g := σ) hP rfl hW)
                      · -- 1: Op.load 32 (Operand.tmp 14)
                        refine AnyO.StepI.mk rfl [] (by kernel_rfl) ?_
                        intro D vs u hI h0 hC hp ac hb K hK
                        obtain ⟨σ, hP, hW⟩ := hI
                        have s14 : ac.tmps[14]?.getD undef = .pointer (some ⟨g14, 0, none⟩) := by rw [hb]; kernel_rfl
                        rw [if_pos (AnyO.wanted_none rfl)]
                        clear hb hp
                        have hf10 : D 10 = false := by
                          rcases hd : D 10 with _ | _
                          · rfl
                          · have hz := hC 10 hd 1 (by rw [show AnyO.pre _ 10 = [8, 6, 0, 1, 2, 3, 4, 5, 6, 7, 8] from by kernel_rfl]; decide)
                            rw [h0] at hz
                            cases hz
                        have RR := hW.row (g := g14) (cs := cR r) (ty := 32) (by rw [hf10]; exact List.mem_cons_self)
                        obtain ⟨rr1, rr2⟩ := RR.okw (cR_length _)
                        change rdA _ _ _ = vR r at rr2
                        clear RR
                        clear hC
                        clear h0
                        have HP := Lib.hid hP
                        have HWq := Lib.hid hW
                        clear hP hW
                        go_simp
                        have hP := HP.out
                        have hW := HWq.out
                        clear HP HWq
                        exact hK _ _ (AnyO.InvG.step (g := σ) hP rfl hW)
                      · -- 2: Op.move (Operand.tmp 2)
                        refine AnyO.StepI.mk rfl [] (by kernel_rfl) ?_
                        intro D vs u hI h0 hC hp ac hb K hK
                        obtain ⟨σ, hP, hW⟩ := hI
                        have s2 : ac.tmps[2]?.getD undef = .slice (some ad) m cq := by rw [hb]; kernel_rfl
                        rw [if_pos (AnyO.wanted_none rfl)]
                        clear hb hp
                        clear hC
                        clear h0
                        have HP := Lib.hid hP
                        have HWq := Lib.hid hW
                        clear hP hW
                        go_simp
                        have hP := HP.out
                        have hW := HWq.out
                        clear HP HWq
                        exact hK _ _ (AnyO.InvG.step (g := σ) hP rfl hW)
                      · -- 3: Op.move (Operand.tmp 15)
                        refine AnyO.StepI.mk rfl [] (by kernel_rfl) ?_
                        intro D vs u hI h0 hC hp ac hb K hK
                        obtain ⟨σ, hP, hW⟩ := hI
                        have s15 : ac.tmps[15]?.getD undef = .int .i64 (k : Int) := by rw [hb]; kernel_rfl
                        rw [if_pos (AnyO.wanted_none rfl)]
                        clear hb hp
                        clear hC
                        clear h0
                        have HP := Lib.hid hP
                        have HWq := Lib.hid hW
                        clear hP hW
                        go_simp
                        have hP := HP.out
                        have hW := HWq.out
                        clear HP HWq
                        exact hK _ _ (AnyO.InvG.step (g := σ) hP rfl hW)
                      · -- 4: Op.indexAddr 51 (Operand.tmp 114) (Operand.tmp 115)
                        refine AnyO.StepI.mk rfl [2, 3] (by kernel_rfl) ?_
                        intro D vs u hI h0 hC hp ac hb K hK
                        obtain ⟨σ, hP, hW⟩ := hI
                        have s114 : ac.tmps[114]?.getD undef = .slice (some ad) m cq := by rw [hb]; exact (show _ = vs 2 by kernel_rfl).trans (show vs 2 = .slice (some ad) m cq from hP 2 (hp 2 (by decide)))
                        have s115 : ac.tmps[115]?.getD undef = .int .i64 (k : Int) := by rw [hb]; exact (show _ = vs 3 by kernel_rfl).trans (show vs 3 = .int .i64 (k : Int) from hP 3 (hp 3 (by decide)))
                        rw [if_pos (AnyO.wanted_none rfl)]
                        clear hb hp
                        have hlk := HLK.out
                        clear hC
                        clear h0
                        have HP := Lib.hid hP
                        have HWq := Lib.hid hW
                        clear hP hW
                        go_simp
                        have hP := HP.out
                        have hW := HWq.out
                        clear HP HWq
                        exact hK _ _ (AnyO.InvG.step (g := σ) hP rfl hW)
                      · -- 5: Op.load 57 (Operand.tmp 116)
                        refine AnyO.StepI.mk rfl [4] (by kernel_rfl) ?_
                        intro D vs u hI h0 hC hp ac hb K hK
                        obtain ⟨σ, hP, hW⟩ := hI
                        have s116 : ac.tmps[116]?.getD undef = .pointer (some (ad.add (k * 71))) := by rw [hb]; exact (show _ = vs 4 by kernel_rfl).trans (show vs 4 = .pointer (some (ad.add (k * 71))) from hP 4 (hp 4 (by decide)))
                        rw [if_pos (AnyO.wanted_none rfl)]
                        clear hb hp
                        obtain ⟨ad2, e2, rr1, rr2, _⟩ := opAt (HXS.out.keep (hW.bel)) HLX.out
                        cases e2
                        rw [HXK.out] at rr2
                        clear hC
                        clear h0
                        have HP := Lib.hid hP
                        have HWq := Lib.hid hW
                        clear hP hW
                        go_simp
                        have hP := HP.out
                        have hW := HWq.out
                        clear HP HWq
                        exact hK _ _ (AnyO.InvG.step (g := σ) hP rfl hW)
                      · -- 6: Op.call { callee := Callee.value (Operand.func 22), args := 
                        refine AnyO.StepI.mk rfl [0, 1, 5] (by kernel_rfl) ?_
                        intro D vs u hI h0 hC hp ac hb K hK
                        obtain ⟨σ, hP, hW⟩ := hI
                        have s112 : ac.tmps[112]?.getD undef = .pointer (some ⟨b3, 0, none⟩) := by rw [hb]; exact (show _ = vs 0 by kernel_rfl).trans (show vs 0 = .pointer (some ⟨b3, 0, none⟩) from hP 0 (hp 0 (by decide)))
                        have s113 : ac.tmps[113]?.getD undef = vR r := by rw [hb]; exact (show _ = vs 1 by kernel_rfl).trans (show vs 1 = vR r from hP 1 (hp 1 (by decide)))
                        have s117 : ac.tmps[117]?.getD undef = vQ x := by rw [hb]; exact (show _ = vs 5 by kernel_rfl).trans (show vs 5 = vQ x from hP 5 (hp 5 (by decide)))
                        rw [if_pos (AnyO.wanted_none rfl)]
                        clear hb hp
                        have hf7 : D 7 = false := by
                          rcases hd : D 7 with _ | _
                          · rfl
                          · have hz := hC 7 hd 6 (by rw [show AnyO.pre _ 7 = [6] from by kernel_rfl]; decide)
                            rw [h0] at hz
                            cases hz
                        have hf8 : D 8 = false := by
                          rcases hd : D 8 with _ | _
                          · rfl
                          · have hz := hC 8 hd 7 (by rw [show AnyO.pre _ 8 = [7] from by kernel_rfl]; decide)
                            rw [hf7] at hz
                            cases hz
                        have hf9 : D 9 = false := by
                          rcases hd : D 9 with _ | _
                          · rfl
                          · have hz := hC 9 hd 7 (by rw [show AnyO.pre _ 9 = [7] from by kernel_rfl]; decide)
                            rw [hf7] at hz
                            cases hz
                        have hf10 : D 10 = false := by
                          rcases hd : D 10 with _ | _
                          · rfl
                          · have hz := hC 10 hd 8 (by rw [show AnyO.pre _ 10 = [8, 6, 0, 1, 2, 3, 4, 5, 6, 7, 8] from by kernel_rfl]; decide)
                            rw [hf8] at hz
                            cases hz
                        clear hC
                        have HP := Lib.hid hP
                        have HWq := Lib.hid hW
                        clear hP hW
                        go_simp
                        have hP := HP.out
                        have hW := HWq.out
                        clear HP HWq
                        go_at_call 22
                        rw [h0, hf10] at hW
                        have hd := do22 B2 b3 ch s r x _ _ hW HGD.out.1 (by rw [HB2.out]; exact HX.out.keep HVB.out) (by have := HGD.out.2.1; have := HGD.out.2.2.2; omega)
                        rw [HGD.out.2.2.1] at hd
                        refine hd.mono ?_
                        rintro e w2 ⟨r9, rfl, hI9⟩
                        refine hK _ _ (AnyO.InvG.ghost (g := σ) (r9, true) hP ?_ rfl ?_)
                        · intro j hj hq
                          rcases j with _ | _ | _ | _ | _ | _ | _ | _ | _ | _ | _ | j
                          · exact hq
                          · exact hq
                          · exact hq
                          · exact hq
                          · exact hq
                          · exact hq
                          · exact absurd (show D 6 = true from hj) (by rw [h0]; decide)
                          · exact absurd (show D 7 = true from hj) (by rw [hf7]; decide)
                          · exact absurd (show D 8 = true from hj) (by rw [hf8]; decide)
                          · exact absurd (show D 9 = true from hj) (by rw [hf9]; decide)
                          · exact absurd (show D 10 = true from hj) (by rw [hf10]; decide)
                          · exact hq
                        · show InvR B2 b3 ch s1 s1 r9 ((g14, (bif D 10 then cR r9 else cR r), 32) :: Lz3) w2
                          rw [hf10]
                          exact hI9
                      · -- 7: Op.move (Operand.tmp 118)
                        refine AnyO.StepI.mk rfl [6] (by kernel_rfl) ?_
                        intro D vs u hI h0 hC hp ac hb K hK
                        obtain ⟨σ, hP, hW⟩ := hI
                        have s118 : ac.tmps[118]?.getD undef = .tuple #[vR σ.1, .bool σ.2] := by rw [hb]; exact (show _ = vs 6 by kernel_rfl).trans (show vs 6 = .tuple #[vR σ.1, .bool σ.2] from hP 6 (hp 6 (by decide)))
                        rw [if_pos (AnyO.wanted_none rfl)]
                        clear hb hp
                        clear hC
                        clear h0
                        have HP := Lib.hid hP
                        have HWq := Lib.hid hW
                        clear hP hW
                        go_simp
                        have hP := HP.out
                        have hW := HWq.out
                        clear HP HWq
                        exact hK _ _ (AnyO.InvG.step (g := σ) hP rfl hW)
                      · -- 8: Op.extract (Operand.tmp 111) 0
                        refine AnyO.StepI.mk rfl [7] (by kernel_rfl) ?_
                        intro D vs u hI h0 hC hp ac hb K hK
                        obtain ⟨σ, hP, hW⟩ := hI
                        have s111 : ac.tmps[111]?.getD undef = .tuple #[vR σ.1, .bool σ.2] := by rw [hb]; exact (show _ = vs 7 by kernel_rfl).trans (show vs 7 = .tuple #[vR σ.1, .bool σ.2] from hP 7 (hp 7 (by decide)))
                        rw [if_pos (AnyO.wanted_none rfl)]
                        clear hb hp
                        clear hC
                        clear h0
                        have HP := Lib.hid hP
                        have HWq := Lib.hid hW
                        clear hP hW
                        go_simp
                        have hP := HP.out
                        have hW := HWq.out
                        clear HP HWq
                        exact hK _ _ (AnyO.InvG.step (g := σ) hP rfl hW)
                      · -- 9: Op.extract (Operand.tmp 111) 1
                        refine AnyO.StepI.mk rfl [7] (by kernel_rfl) ?_
                        intro D vs u hI h0 hC hp ac hb K hK
                        obtain ⟨σ, hP, hW⟩ := hI
                        have s111 : ac.tmps[111]?.getD undef = .tuple #[vR σ.1, .bool σ.2] := by rw [hb]; exact (show _ = vs 7 by kernel_rfl).trans (show vs 7 = .tuple #[vR σ.1, .bool σ.2] from hP 7 (hp 7 (by decide)))
                        rw [if_pos (AnyO.wanted_none rfl)]
                        clear hb hp
                        clear hC
                        clear h0
                        have HP := Lib.hid hP
                        have HWq := Lib.hid hW
                        clear hP hW
                        go_simp
                        have hP := HP.out
                        have hW := HWq.out
                        clear HP HWq
                        exact hK _ _ (AnyO.InvG.step (g := σ) hP rfl hW)
                      · -- 10: Op.store 32 (Operand.tmp 14) (Operand.tmp 119)
                        refine AnyO.StepI.mk rfl [8, 6, 0, 1, 2, 3, 4, 5, 6, 7, 8] (by kernel_rfl) ?_
                        intro D vs u hI h0 hC hp ac hb K hK
                        obtain ⟨σ, hP, hW⟩ := hI
                        have s14 : ac.tmps[14]?.getD undef = .pointer (some ⟨g14, 0, none⟩) := by rw [hb]; kernel_rfl
                        have s119 : ac.tmps[119]?.getD undef = vR σ.1 := by rw [hb]; exact (show _ = vs 8 by kernel_rfl).trans (show vs 8 = vR σ.1 from hP 8 (hp 8 (by decide)))
                        rw [if_pos (AnyO.wanted_none rfl)]
                        have hp6 : D 6 = true := hp 6 (by decide)
                        clear hb hp
                        have h6 := hp6
                        rw [h0, h6] at hW
                        have RR := hW.row (g := g14) (cs := cR r) (ty := 32) List.mem_cons_self
                        have rr := RR.rok (cR_length r)
                        clear RR
                        clear hC
                        have HP := Lib.hid hP
                        have HWq := Lib.hid hW
                        clear hP hW
                        go_simp
                        have hP := HP.out
                        have hW := HWq.out
                        clear HP HWq
                        refine hK undef _ (AnyO.InvG.step (g := σ) hP trivial ?_)
                        show InvR B2 b3 ch (bif D 6 then s1 else s) (bif D 6 then s1 else s) (bif D 6 then σ.1 else r) ((g14, cR σ.1, 32) :: Lz3) _
                        rw [h6]
                        exact InvR.setRow (cs := cR r) hW HG.out.1 HG.out.2 (cR σ.1)
                    · intro D vs u hI hD
                      obtain ⟨σ, hP, hW⟩ := hI
                      have e0 : vs 0 = .pointer (some ⟨b3, 0, none⟩) := hP 0 (hD 0 (by decide))
                      have e1 : vs 1 = vR r := hP 1 (hD 1 (by decide))
                      have e2 : vs 2 = .slice (some ad) m cq := hP 2 (hD 2 (by decide))
                      have e3 : vs 3 = .int .i64 (k : Int) := hP 3 (hD 3 (by decide))
                      have e4 : vs 4 = .pointer (some (ad.add (k * 71))) := hP 4 (hD 4 (by decide))
                      have e5 : vs 5 = vQ x := hP 5 (hD 5 (by decide))
                      have e6 : vs 6 = .tuple #[vR σ.1, .bool σ.2] := hP 6 (hD 6 (by decide))
                      have e7 : vs 7 = .tuple #[vR σ.1, .bool σ.2] := hP 7 (hD 7 (by decide))
                      have e8 : vs 8 = vR σ.1 := hP 8 (hD 8 (by decide))
                      have e9 : vs 9 = .bool σ.2 := hP 9 (hD 9 (by decide))
                      rw [hD 6 (by decide), hD 10 (by decide)] at hW
                      change InvR B2 b3 ch s1 s1 σ.1 ((g14, cR σ.1, 32) :: Lz3) u at hW
                      have HW := Lib.hid hW
                      clear hW hP hD
                      rw [puts_range [some 112, some 113, some 114, some 115, some 116, some 117, some 118, some 111, some 119, some 120, none] (by kernel_rfl)]
                      simp only [putL, Nat.reduceAdd, e0, e1, e2, e3, e4, e5, e6, e7, e8, e9]
                      clear e0 e1 e2 e3 e4 e5 e6 e7 e8 e9
                      obtain ⟨r9, ok⟩ := σ
                      dsimp only at HW ⊢
                      go_simp
                      go_wp2
                      go_roundw
                      case rel => exact ⟨k + 1, s1, r9, by have := HGD.out.2.2.2; omega, by go_num, by rw [← HGD.out.2.2.1]; exact HGD.out.1.op x, by rw [← HGD.out.2.2.1]; have := opS_outs ch s x; have := HGD.out.2.1; omega, HW.out⟩
                      case measure => simp [intOf] <;> omega
                  case neg =>
                    by_cases hkn : k < m
                    case' pos =>
                      have hlk : (k : Int) < (m : Int) := by omega
                      have h60 : ¬ (k : Int) < 60 := by omega
                    case' neg =>
                      have hlk : ¬ (k : Int) < (m : Int) := by omega
                    all_goals
                      clear hend hkn
                      have HGY := Lib.hid (And.intro hgd (show s.outs.length ≤ 180 by omega))
                      have HV4 := Lib.hid (show Below V2.heap.size V2 wr by rw [← HB2.out]; exact hI.bel)
                      have HR14 := Lib.hid (hI.row (g := g14) (cs := cR r) (ty := 32) List.mem_cons_self)
                      obtain ⟨F3, e1, _, _, e4⟩ := hI.rep
                      obtain ⟨V4, hV4⟩ : ∃ V4, V4 = wr := ⟨_, rfl⟩
                      subst hV4
                      have HF := Lib.hid (And.intro (HV.out.2.2.2.2.1.keep HV4.out) (And.intro HR14.out (And.intro (HV.out.1.keep HV4.out) (And.intro (HV.out.2.2.1.keep HV4.out) (And.intro e1 e4.main)))))
                      obtain ⟨z, hz⟩ : ∃ z, eqS s sa = z := ⟨_, rfl⟩
                      have HZ := Lib.hid hz
                      clear hI hgd hou hk e1 e4 hz
                      go_wp2
                      refine AnyO.wp_anyI (by kernel_rfl) (by kernel_rfl) (AnyO.InvG (σ := Unit) (fun σ => AnyO.pvL [some (.pointer (some ⟨b1, 0, none⟩)), some (vR ra), some (.bool true), some (.bool true), some (.pointer (some ⟨b3, 0, none⟩)), some (.pointer (some ⟨b1, 0, none⟩)), some (.bool z), some (vR r), some (vR ra), some (.bool z), some (.bool true), some (.bool true), some (.bool true)]) (fun _ _ u => Below V4.heap.size V4 u)) (AnyO.InvG.start (g := ()) ((Below.refl _ _).drew)) ?_ ?_
                      · intro i hi
                        have hi2 : i = 0 ∨ i = 1 ∨ i = 2 ∨ i = 3 ∨ i = 4 ∨ i = 5 ∨ i = 6 ∨ i = 7 ∨ i = 8 ∨ i = 9 ∨ i = 10 ∨ i = 11 ∨ i = 12 := by simp only [List.size_toArray, List.length_cons, List.length_nil] at hi; omega
                        clear hi
                        rcases hi2 with rfl | rfl | rfl | rfl | rfl | rfl | rfl | rfl | rfl | rfl | rfl | rfl | rfl
                        · -- 0: Op.move (Operand.tmp 7)
                          refine AnyO.StepI.mk rfl [] (by kernel_rfl) ?_
                          intro D vs u hI h0 hC hp ac hb K hK
                          obtain ⟨σ, hP, hW⟩ := hI
                          have s7 : ac.tmps[7]?.getD undef = .pointer (some ⟨b1, 0, none⟩) := by rw [hb]; kernel_rfl
                          rw [if_pos (AnyO.wanted_none rfl)]
                          clear hb hp
                          clear hC
                          clear h0
                          have HP := Lib.hid hP
                          have HWq := Lib.hid hW
                          clear hP hW
                          go_simp
                          have hP := HP.out
                          have hW := HWq.out
                          clear HP HWq
                          exact hK _ _ (AnyO.InvG.step (g := σ) hP rfl hW)
                        · -- 1: Op.load 32 (Operand.tmp 8)
                          refine AnyO.StepI.mk rfl [] (by kernel_rfl) ?_
                          intro D vs u hI h0 hC hp ac hb K hK
                          obtain ⟨σ, hP, hW⟩ := hI
                          have s8 : ac.tmps[8]?.getD undef = .pointer (some ⟨g8, 0, none⟩) := by rw [hb]; kernel_rfl
                          rw [if_pos (AnyO.wanted_none rfl)]
                          clear hb hp
                          obtain ⟨rr1, rr2⟩ := (HF.out.1.keep hW).okw (cR_length _)
                          change rdA _ _ _ = vR ra at rr2
                          clear hC
                          clear h0
                          have HP := Lib.hid hP
                          have HWq := Lib.hid hW
                          clear hP hW
                          go_simp
                          have hP := HP.out
                          have hW := HWq.out
                          clear HP HWq
                          exact hK _ _ (AnyO.InvG.step (g := σ) hP rfl hW)
                        · -- 2: Op.call { callee := Callee.value (Operand.func 24), args := 
                          refine AnyO.StepI.mk rfl [0, 1] (by kernel_rfl) ?_
                          intro D vs u hI h0 hC hp ac hb K hK
                          obtain ⟨σ, hP, hW⟩ := hI
                          have s121 : ac.tmps[121]?.getD undef = .pointer (some ⟨b1, 0, none⟩) := by rw [hb]; exact (show _ = vs 0 by kernel_rfl).trans (show vs 0 = .pointer (some ⟨b1, 0, none⟩) from hP 0 (hp 0 (by decide)))
                          have s122 : ac.tmps[122]?.getD undef = vR ra := by rw [hb]; exact (show _ = vs 1 by kernel_rfl).trans (show vs 1 = vR ra from hP 1 (hp 1 (by decide)))
                          rw [if_pos (AnyO.wanted_none rfl)]
                          clear hb hp
                          clear hC
                          clear h0
                          have HP := Lib.hid hP
                          have HWq := Lib.hid hW
                          clear hP hW
                          go_simp
                          have hP := HP.out
                          have hW := HWq.out
                          clear HP HWq
                          go_at_call 24
                          refine (views24 b1 ch sa _ ra u (HF.out.2.2.1.keep hW) (HF.out.2.2.2.1.keep hW) (fun e => by rw [HGS.out.1.idle e]; rfl) (Nat.le_trans HGS.out.1.len (by decide))).mono ?_
                          rintro e w2 ⟨rfl, hb⟩
                          exact hK _ _ (AnyO.InvG.step (g := σ) hP rfl (Below.step hW hb))
                        · -- 3: Op.move (Operand.tmp 123)
                          refine AnyO.StepI.mk rfl [2, 2] (by kernel_rfl) ?_
                          intro D vs u hI h0 hC hp ac hb K hK
                          obtain ⟨σ, hP, hW⟩ := hI
                          have s123 : ac.tmps[123]?.getD undef = .bool true := by rw [hb]; exact (show _ = vs 2 by kernel_rfl).trans (show vs 2 = .bool true from hP 2 (hp 2 (by decide)))
                          rw [if_pos (AnyO.wanted_none rfl)]
                          clear hb hp
                          clear hC
                          clear h0
                          have HP := Lib.hid hP
                          have HWq := Lib.hid hW
                          clear hP hW
                          go_simp
                          have hP := HP.out
                          have hW := HWq.out
                          clear HP HWq
                          exact hK _ _ (AnyO.InvG.step (g := σ) hP rfl hW)
                        · -- 4: Op.move (Operand.tmp 13)
                          refine AnyO.StepI.mk rfl [3] (by kernel_rfl) ?_
                          intro D vs u hI h0 hC hp ac hb K hK
                          obtain ⟨σ, hP, hW⟩ := hI
                          have s13 : ac.tmps[13]?.getD undef = .pointer (some ⟨b3, 0, none⟩) := by rw [hb]; kernel_rfl
                          have s124 : ac.tmps[124]?.getD undef = .bool true := by rw [hb]; exact (show _ = vs 3 by kernel_rfl).trans (show vs 3 = .bool true from hP 3 (hp 3 (by decide)))
                          rw [if_pos (AnyO.wanted_some (g := 3) (t := 124) (want := true) rfl rfl s124)]
                          clear hb hp
                          clear hC
                          clear h0
                          have HP := Lib.hid hP
                          have HWq := Lib.hid hW
                          clear hP hW
                          go_simp
                          have hP := HP.out
                          have hW := HWq.out
                          clear HP HWq
                          exact hK _ _ (AnyO.InvG.step (g := σ) hP rfl hW)
                        · -- 5: Op.move (Operand.tmp 7)
                          refine AnyO.StepI.mk rfl [3] (by kernel_rfl) ?_
                          intro D vs u hI h0 hC hp ac hb K hK
                          obtain ⟨σ, hP, hW⟩ := hI
                          have s7 : ac.tmps[7]?.getD undef = .pointer (some ⟨b1, 0, none⟩) := by rw [hb]; kernel_rfl
                          have s124 : ac.tmps[124]?.getD undef = .bool true := by rw [hb]; exact (show _ = vs 3 by kernel_rfl).trans (show vs 3 = .bool true from hP 3 (hp 3 (by decide)))
                          rw [if_pos (AnyO.wanted_some (g := 3) (t := 124) (want := true) rfl rfl s124)]
                          clear hb hp
                          clear hC
                          clear h0
                          have HP := Lib.hid hP
                          have HWq := Lib.hid hW
                          clear hP hW
                          go_simp
                          have hP := HP.out
                          have hW := HWq.out
                          clear HP HWq
                          exact hK _ _ (AnyO.InvG.step (g := σ) hP rfl hW)
                        · -- 6: Op.call { callee := Callee.value (Operand.func 27), args := 
                          refine AnyO.StepI.mk rfl [4, 5, 3, 3] (by kernel_rfl) ?_
                          intro D vs u hI h0 hC hp ac hb K hK
                          obtain ⟨σ, hP, hW⟩ := hI
                          have s125 : ac.tmps[125]?.getD undef = .pointer (some ⟨b3, 0, none⟩) := by rw [hb]; exact (show _ = vs 4 by kernel_rfl).trans (show vs 4 = .pointer (some ⟨b3, 0, none⟩) from hP 4 (hp 4 (by decide)))
                          have s126 : ac.tmps[126]?.getD undef = .pointer (some ⟨b1, 0, none⟩) := by rw [hb]; exact (show _ = vs 5 by kernel_rfl).trans (show vs 5 = .pointer (some ⟨b1, 0, none⟩) from hP 5 (hp 5 (by decide)))
                          have s124 : ac.tmps[124]?.getD undef = .bool true := by rw [hb]; exact (show _ = vs 3 by kernel_rfl).trans (show vs 3 = .bool true from hP 3 (hp 3 (by decide)))
                          rw [if_pos (AnyO.wanted_some (g := 3) (t := 124) (want := true) rfl rfl s124)]
                          clear hb hp
                          clear hC
                          clear h0
                          have HP := Lib.hid hP
                          have HWq := Lib.hid hW
                          clear hP hW
                          go_simp
                          have hP := HP.out
                          have hW := HWq.out
                          clear HP HWq
                          go_at_call 27
                          refine (equal27 _ _ ch _ _ _ _ u (HF.out.2.2.2.2.1.keep hW) (HF.out.2.2.1.keep hW) (Nat.le_trans HGY.out.1.len (by decide)) (by have := HGY.out.2; omega)).mono ?_
                          rintro e w2 ⟨rfl, hb⟩
                          rw [HZ.out]
                          exact hK _ _ (AnyO.InvG.step (g := σ) hP rfl (Below.step hW hb))
                        · -- 7: Op.load 32 (Operand.tmp 14)
                          refine AnyO.StepI.mk rfl [3] (by kernel_rfl) ?_
                          intro D vs u hI h0 hC hp ac hb K hK
                          obtain ⟨σ, hP, hW⟩ := hI
                          have s14 : ac.tmps[14]?.getD undef = .pointer (some ⟨g14, 0, none⟩) := by rw [hb]; kernel_rfl
                          have s124 : ac.tmps[124]?.getD undef = .bool true := by rw [hb]; exact (show _ = vs 3 by kernel_rfl).trans (show vs 3 = .bool true from hP 3 (hp 3 (by decide)))
                          rw [if_pos (AnyO.wanted_some (g := 3) (t := 124) (want := true) rfl rfl s124)]
                          clear hb hp
                          obtain ⟨rr1, rr2⟩ := (HF.out.2.1.keep hW).okw (cR_length _)
                          change rdA _ _ _ = vR r at rr2
                          clear hC
                          clear h0
                          have HP := Lib.hid hP
                          have HWq := Lib.hid hW
                          clear hP hW
                          go_simp
                          have hP := HP.out
                          have hW := HWq.out
                          clear HP HWq
                          exact hK _ _ (AnyO.InvG.step (g := σ) hP rfl hW)
                        · -- 8: Op.load 32 (Operand.tmp 8)
                          refine AnyO.StepI.mk rfl [3] (by kernel_rfl) ?_
                          intro D vs u hI h0 hC hp ac hb K hK
                          obtain ⟨σ, hP, hW⟩ := hI
                          have s8 : ac.tmps[8]?.getD undef = .pointer (some ⟨g8, 0, none⟩) := by rw [hb]; kernel_rfl
                          have s124 : ac.tmps[124]?.getD undef = .bool true := by rw [hb]; exact (show _ = vs 3 by kernel_rfl).trans (show vs 3 = .bool true from hP 3 (hp 3 (by decide)))
                          rw [if_pos (AnyO.wanted_some (g := 3) (t := 124) (want := true) rfl rfl s124)]
                          clear hb hp
                          obtain ⟨rr1, rr2⟩ := (HF.out.1.keep hW).okw (cR_length _)
                          change rdA _ _ _ = vR ra at rr2
                          clear hC
                          clear h0
                          have HP := Lib.hid hP
                          have HWq := Lib.hid hW
                          clear hP hW
                          go_simp
                          have hP := HP.out
                          have hW := HWq.out
                          clear HP HWq
                          exact hK _ _ (AnyO.InvG.step (g := σ) hP rfl hW)
                        · -- 9: Op.call { callee := Callee.value (Operand.func 28), args := 
                          refine AnyO.StepI.mk rfl [7, 8, 6, 3] (by kernel_rfl) ?_
                          intro D vs u hI h0 hC hp ac hb K hK
                          obtain ⟨σ, hP, hW⟩ := hI
                          have s128 : ac.tmps[128]?.getD undef = vR r := by rw [hb]; exact (show _ = vs 7 by kernel_rfl).trans (show vs 7 = vR r from hP 7 (hp 7 (by decide)))
                          have s129 : ac.tmps[129]?.getD undef = vR ra := by rw [hb]; exact (show _ = vs 8 by kernel_rfl).trans (show vs 8 = vR ra from hP 8 (hp 8 (by decide)))
                          have s124 : ac.tmps[124]?.getD undef = .bool true := by rw [hb]; exact (show _ = vs 3 by kernel_rfl).trans (show vs 3 = .bool true from hP 3 (hp 3 (by decide)))
                          rw [if_pos (AnyO.wanted_some (g := 3) (t := 124) (want := true) rfl rfl s124)]
                          clear hb hp
                          clear hC
                          clear h0
                          have HP := Lib.hid hP
                          have HWq := Lib.hid hW
                          clear hP hW
                          go_simp
                          have hP := HP.out
                          have hW := HWq.out
                          clear HP HWq
                          go_at_call 28
                          refine (same28 _ _ ch s sa r ra u (HF.out.2.2.2.2.2.keep hW) (HF.out.2.2.2.1.keep hW) (Nat.le_trans HGY.out.1.len (by decide)) (by have := HGY.out.2; omega)).mono ?_
                          rintro e w2 ⟨rfl, hb⟩
                          rw [HZ.out]
                          exact hK _ _ (AnyO.InvG.step (g := σ) hP rfl (Below.step hW hb))
                        · -- 10: Op.binOp BinOp.eql 4 (Operand.tmp 127) (Operand.tmp 130) 4
                          refine AnyO.StepI.mk rfl [6, 9, 3] (by kernel_rfl) ?_
                          intro D vs u hI h0 hC hp ac hb K hK
                          obtain ⟨σ, hP, hW⟩ := hI
                          have s127 : ac.tmps[127]?.getD undef = .bool z := by rw [hb]; exact (show _ = vs 6 by kernel_rfl).trans (show vs 6 = .bool z from hP 6 (hp 6 (by decide)))
                          have s130 : ac.tmps[130]?.getD undef = .bool z := by rw [hb]; exact (show _ = vs 9 by kernel_rfl).trans (show vs 9 = .bool z from hP 9 (hp 9 (by decide)))
                          have s124 : ac.tmps[124]?.getD undef = .bool true := by rw [hb]; exact (show _ = vs 3 by kernel_rfl).trans (show vs 3 = .bool true from hP 3 (hp 3 (by decide)))
                          rw [if_pos (AnyO.wanted_some (g := 3) (t := 124) (want := true) rfl rfl s124)]
                          clear hb hp
                          clear hC
                          clear h0
                          have HP := Lib.hid hP
                          have HWq := Lib.hid hW
                          clear hP hW
                          go_simp
                          have hP := HP.out
                          have hW := HWq.out
                          clear HP HWq
                          exact hK _ _ (AnyO.InvG.step (g := σ) hP rfl hW)
                        · -- 11: Op.pick (Operand.tmp 124) (Operand.tmp 131) (Operand.const (
                          refine AnyO.StepI.mk rfl [3, 10] (by kernel_rfl) ?_
                          intro D vs u hI h0 hC hp ac hb K hK
                          obtain ⟨σ, hP, hW⟩ := hI
                          have s124 : ac.tmps[124]?.getD undef = .bool true := by rw [hb]; exact (show _ = vs 3 by kernel_rfl).trans (show vs 3 = .bool true from hP 3 (hp 3 (by decide)))
                          have s131 : ac.tmps[131]?.getD undef = .bool true := by rw [hb]; exact (show _ = vs 10 by kernel_rfl).trans (show vs 10 = .bool true from hP 10 (hp 10 (by decide)))
                          rw [if_pos (AnyO.wanted_none rfl)]
                          clear hb hp
                          clear hC
                          clear h0
                          have HP := Lib.hid hP
                          have HWq := Lib.hid hW
                          clear hP hW
                          go_simp
                          have hP := HP.out
                          have hW := HWq.out
                          clear HP HWq
                          exact hK _ _ (AnyO.InvG.step (g := σ) hP rfl hW)
                        · -- 12: Op.assign (Operand.tmp 132)
                          refine AnyO.StepI.mk rfl [11, 9, 0, 1, 2, 3, 4, 5, 6, 7, 8, 9, 10, 11] (by kernel_rfl) ?_
                          intro D vs u hI h0 hC hp ac hb K hK
                          obtain ⟨σ, hP, hW⟩ := hI
                          have s132 : ac.tmps[132]?.getD undef = .bool true := by rw [hb]; exact (show _ = vs 11 by kernel_rfl).trans (show vs 11 = .bool true from hP 11 (hp 11 (by decide)))
                          rw [if_pos (AnyO.wanted_none rfl)]
                          clear hb hp
                          clear hC
                          clear h0
                          have HP := Lib.hid hP
                          have HWq := Lib.hid hW
                          clear hP hW
                          go_simp
                          have hP := HP.out
                          have hW := HWq.out
                          clear HP HWq
                          exact hK _ _ (AnyO.InvG.step (g := σ) hP rfl hW)
                      · intro D vs u hI hD
                        obtain ⟨σ, hP, hW⟩ := hI
                        have e0 : vs 0 = .pointer (some ⟨b1, 0, none⟩) := hP 0 (hD 0 (by decide))
                        have e1 : vs 1 = vR ra := hP 1 (hD 1 (by decide))
                        have e2 : vs 2 = .bool true := hP 2 (hD 2 (by decide))
                        have e3 : vs 3 = .bool true := hP 3 (hD 3 (by decide))
                        have e4 : vs 4 = .pointer (some ⟨b3, 0, none⟩) := hP 4 (hD 4 (by decide))
                        have e5 : vs 5 = .pointer (some ⟨b1, 0, none⟩) := hP 5 (hD 5 (by decide))
                        have e6 : vs 6 = .bool z := hP 6 (hD 6 (by decide))
                        have e7 : vs 7 = vR r := hP 7 (hD 7 (by decide))
                        have e8 : vs 8 = vR ra := hP 8 (hD 8 (by decide))
                        have e9 : vs 9 = .bool z := hP 9 (hD 9 (by decide))
                        have e10 : vs 10 = .bool true := hP 10 (hD 10 (by decide))
                        have e11 : vs 11 = .bool true := hP 11 (hD 11 (by decide))
                        have e12 : vs 12 = .bool true := hP 12 (hD 12 (by decide))
                        have HW := Lib.hid hW
                        clear hW hP hD
                        rw [puts_range [some 121, some 122, some 123, some 124, some 125, some 126, some 127, some 128, some 129, some 130, some 131, some 132, some 6] (by kernel_rfl)]
                        simp only [putL, Nat.reduceAdd, e0, e1, e2, e3, e4, e5, e6, e7, e8, e9, e10, e11, e12]
                        clear e0 e1 e2 e3 e4 e5 e6 e7 e8 e9 e10 e11 e12
                        go_simp
                        go_wp2
                        go_ret
                        exact ⟨rfl, Below.step (Below.step HV.out.2.2.2.2.2.2 HV4.out) HW.out⟩
end K
open Go.RowKit
theorem law8o (c : UInt8) (A : Option Addr) (cp : Nat) (xs : List Rop) (A2 : Option Addr) (cq : Nat) (ys : List Rop) (w : World) (hs : Sl w cQ A xs) (_hc : xs.length ≤ cp) (hs2 : Sl w cQ A2 ys) (_hc2 : ys.length ≤ cq) (hL : Laid w) : Calls Tryd.prog 8 #[.int .u8 (c.toNat : Int), .slice A xs.length cp, .slice A2 ys.length cq] w fun e w' => e = .returned (.bool true) ∧ Below w.heap.size w w' := K.law8 c A A2 xs.length ys.length cp cq xs ys w hL rfl hs rfl hs2
end Go.Proofs.YtlelecnafdddhaaDoor
