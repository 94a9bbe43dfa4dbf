/- do: what Say says is a valid command; Say. -/
import Derived.Test.YtlelecnafdddhaaDoorDo
import Derived.Test.YtlelecnafdddhaaDoorCmp
namespace Go.Proofs.YtlelecnafdddhaaDoor
open Go.RowKit
theorem crL_extract (t : ByteArray) (a b : Nat) (h : crL t = false) : crL (t.extract a b) = false := by
  refine crL_none _ fun k hk => ?_
  rw [ByteArray.size_extract] at hk
  cases hq : (((t.extract a b)[k]'(by rw [ByteArray.size_extract]; exact hk)).toNat : Int) == 13 with
  | false => rfl
  | true =>
    rw [ByteArray.getElem_extract] at hq
    have := crL_at t (a + k) (by omega) hq
    rw [h] at this
    cases this
theorem chkF_of (c : Cm) (fl most : Int) (h1 : (bits BinOp.andNot .i64 (orL (psC c)) fl != 0) = false) (h2 : (bits BinOp.and .i64 fl 1 != 0) = false) (h3 : c.id ≠ zI) (h4 : ∀ y ∈ rgs c, okR fl y = true) (h5 : (bits BinOp.and .i64 fl 64 == 0) = true ∨ (c.text.toList.isEmpty = false ∧ (c.text.size : Int) ≤ most ∧ crL c.text = false)) : chkF c fl most = 0 := by
  unfold chkF
  rw [if_neg (by rw [h1]; decide), if_neg (by rw [h2]; decide), if_neg (by simp [h3]), if_neg (by rw [Bool.not_eq_false, List.all_eq_true]; exact h4)]
  rcases h5 with h5 | ⟨h5, h6, h7⟩
  · rw [if_pos h5]
  · cases hq : (bits BinOp.and .i64 fl 64 == 0) with
    | true => rfl
    | false => rw [if_neg (by decide), if_neg (by rw [h5]; decide), if_neg (by omega), if_neg (by rw [h7]; decide)]
theorem chk_offer (a : Art) (h : okArt a) : chk (offerC a) = 0 := by
  have hs : 0 < a.2.size := by
    rcases Nat.eq_zero_or_pos a.2.size with e | e
    · have h2 := h.2.1
      have e2 : a.2.toList = [] := by rw [ByteArray.toList_eq, ← List.length_eq_zero_iff]; exact e
      rw [e2] at h2
      cases h2
    · exact e
  have hb := h.2.2.1
  unfold chk
  rw [if_neg (by show ¬ ((2 : Int) < 1 ∨ (11 : Int) < 2); omega)]
  show chkF (offerC a) 6 0 = 0
  have e : psC (offerC a) = psL false true ((a.2.size : Int) != 0) false false false false := by
    unfold psC offerC
    simp [decide_eq_false h.1, ByteArray.toList_eq]
  refine chkF_of _ _ _ (by rw [e]; cases ((a.2.size : Int) != 0) <;> decide +kernel) (by decide +kernel) h.1 (fun y hy => ?_) (Or.inl (by decide +kernel))
  unfold rgs at hy
  simp only [List.mem_cons, List.not_mem_nil, or_false] at hy
  rcases hy with rfl | rfl | rfl | rfl
  · unfold okR
    have q1 : (1 : Int) ≤ (a.2.size : Int) := by omega
    have q2 : (a.2.size : Int) ≤ 65536 := by omega
    simp [offerC, q1, q2]
  · unfold okR; rw [show (bits BinOp.and .i64 6 8 == 0) = true by decide +kernel]; rfl
  · unfold okR; rw [show (bits BinOp.and .i64 6 16 == 0) = true by decide +kernel]; rfl
  · unfold okR; rw [show (bits BinOp.and .i64 6 32 == 0) = true by decide +kernel]; rfl
theorem chk_done (x : Id) (h : x ≠ zI) : chk (doneC x) = 0 := by
  unfold chk
  rw [if_neg (by show ¬ ((8 : Int) < 1 ∨ (11 : Int) < 8); omega)]
  show chkF (doneC x) 2 0 = 0
  have e : psC (doneC x) = psL false true false false false false false := by
    unfold psC doneC
    simp [decide_eq_false h, ByteArray.toList_eq]
  refine chkF_of _ _ _ (by rw [e]; decide +kernel) (by decide +kernel) h (fun y hy => ?_) (Or.inl (by decide +kernel))
  unfold rgs at hy
  simp only [List.mem_cons, List.not_mem_nil, or_false] at hy
  rcases hy with rfl | rfl | rfl | rfl
  · unfold okR; rw [show (bits BinOp.and .i64 2 4 == 0) = true by decide +kernel]; rfl
  · unfold okR; rw [show (bits BinOp.and .i64 2 8 == 0) = true by decide +kernel]; rfl
  · unfold okR; rw [show (bits BinOp.and .i64 2 16 == 0) = true by decide +kernel]; rfl
  · unfold okR; rw [show (bits BinOp.and .i64 2 32 == 0) = true by decide +kernel]; rfl
theorem chk_data (x : Id) (t : ByteArray) (fr nx : Int) (h : x ≠ zI) (h0 : 0 ≤ fr) (h1 : fr < nx) (h2 : nx ≤ (t.size : Int)) (h3 : nx - fr ≤ 4096) (h4 : t.size ≤ 65536) (h5 : crL t = false) : chk (dataC x t fr nx) = 0 := by
  have hs : (t.extract fr.toNat nx.toNat).size = nx.toNat - fr.toNat := by rw [ByteArray.size_extract]; omega
  have he : (t.extract fr.toNat nx.toNat).toList.isEmpty = false := by
    cases hq : (t.extract fr.toNat nx.toNat).toList.isEmpty with
    | false => rfl
    | true =>
      have e2 := List.isEmpty_iff.1 hq
      rw [ByteArray.toList_eq, ← List.length_eq_zero_iff] at e2
      have e3 : (t.extract fr.toNat nx.toNat).size = 0 := e2
      omega
  unfold chk
  rw [if_neg (by show ¬ ((7 : Int) < 1 ∨ (11 : Int) < 7); omega)]
  show chkF (dataC x t fr nx) 74 4096 = 0
  have e : psC (dataC x t fr nx) = psL false true false (fr != 0) false false true := by
    unfold psC dataC
    dsimp only
    rw [he]
    simp [decide_eq_false h, ByteArray.toList_eq]
  refine chkF_of _ _ _ (by rw [e]; cases (fr != 0) <;> decide +kernel) (by decide +kernel) h (fun y hy => ?_) (Or.inr ⟨he, by show ((t.extract fr.toNat nx.toNat).size : Int) ≤ 4096; omega, crL_extract t _ _ h5⟩)
  unfold rgs at hy
  simp only [List.mem_cons, List.not_mem_nil, or_false] at hy
  rcases hy with rfl | rfl | rfl | rfl
  · unfold okR; rw [show (bits BinOp.and .i64 74 4 == 0) = true by decide +kernel]; rfl
  · unfold okR
    have q2 : fr ≤ 65536 := by omega
    simp [dataC, h0, q2]
  · unfold okR; rw [show (bits BinOp.and .i64 74 16 == 0) = true by decide +kernel]; rfl
  · unfold okR; rw [show (bits BinOp.and .i64 74 32 == 0) = true by decide +kernel]; rfl
/-- What Say says is a valid command without a name and a count. -/
theorem chk_say {ch : Int} {s : St} (g : Good ch s) (h : (sayS ch s).2.2 = true) : chk (sayS ch s).2.1 = 0 := by
  unfold sayS at h ⊢
  by_cases h0 : s.state = 0
  · rw [if_pos h0] at h ⊢
    cases hw : s.wait with
    | nil => rw [hw] at h; cases h
    | cons a r => exact chk_offer a (g.wait a (by rw [hw]; exact List.mem_cons_self))
  · rw [if_neg h0] at h ⊢
    by_cases h2 : s.state = 2
    · rw [if_pos h2] at h ⊢
      have hc := g.cur h0
      obtain ⟨a, ha, ha0, ha1⟩ := g.mid h2
      have hsent : sentS s = a := by unfold sentS; rw [ha]; rfl
      rw [hsent] at h ⊢
      by_cases hd : a = (s.cur.2.size : Int)
      · rw [if_pos hd]; exact chk_done _ hc.1
      · rw [if_neg hd]
        have := g.c1
        have := g.c2
        exact chk_data _ _ _ _ hc.1 ha0 (by omega) (by omega) (by omega) hc.2.2.1 hc.2.2.2
    · rw [if_neg h2] at h; cases h
theorem say_names (ch : Int) (s : St) : (sayS ch s).2.1.name = ⟨#[]⟩ ∧ (sayS ch s).2.1.count = 0 := by
  unfold sayS
  repeat' split
  all_goals exact ⟨rfl, rfl⟩
/-- What do returns: E says that it must be true. -/
def DoE (w0 : World) (b : Nat) (ch : Int) (s sr : St) (E : Prop) (L : List (Nat × List Value × TypeId)) : Ending → World → Prop := fun e w' => ∃ r' ok, e = .returned (.tuple #[vR r', .bool ok]) ∧ (E → ok = true) ∧ InvR w0 b ch s sr r' L w'
set_option maxRecDepth 100000 in
set_option maxHeartbeats 3200000 in
theorem do22_say (w0 : World) (b : Nat) (ch : Int) (s sr : St) (r : Rs) (x : Rop) (L : List (Nat × List Value × TypeId)) (w : World) (h : InvR w0 b ch s sr r L w) (g : Good ch s) (gr : Good ch sr) (hF : FormsAt w0) (hk : (x.kind.toNat : Int).tmod 5 = 1) : Calls Tryd.prog 22 #[.pointer (some ⟨b, 0, none⟩), vR r, vQ x] w (DoE w0 b ch (sayS ch s).1 (sayS ch sr).1 (s = sr) L) := by
  have hI := h.enterDo x
  have hlts := h.lts
  have hB := h.bel.size
  obtain ⟨W3, hW⟩ : ∃ W3, ((w.alloc (.cells (aR r) 32)).alloc (.cells (aQ x) 57)).alloc (.cells (aR zR) 32) = W3 := ⟨_, rfl⟩
  rw [hW] at hI
  obtain ⟨r1, r1'⟩ := (hI.row (g := w.heap.size) (cs := cR r) (ty := 32) (by unfold doL; simp)).okw (cR_length r)
  have rk := (hI.row (g := w.heap.size + 1) (cs := cQ x) (ty := 57) (by unfold doL; simp)).cell 0
  rw [show (cQ x)[0]? = some (.int .u8 (x.kind.toNat : Int)) from rfl] at rk
  change rdA _ _ 38 = vR r at r1'
  obtain ⟨s1, c1, b1, hs1⟩ : ∃ s1 c1 b1, sayS ch s = (s1, c1, b1) := ⟨_, _, _, rfl⟩
  obtain ⟨s2, c2, b2, hs2⟩ : ∃ s2 c2 b2, sayS ch sr = (s2, c2, b2) := ⟨_, _, _, rfl⟩
  obtain ⟨k2, hk2⟩ : ∃ k2, ofS c2 = k2 := ⟨_, rfl⟩
  have HN := Lib.hid (say_names ch s)
  have HY := Lib.hid (chk_say (s := s) g)
  rw [hs1] at HN HY
  have HE1 := Lib.hid (fun e : s = sr => show (c1, b1) = (c2, b2) by rw [e, hs2] at hs1; exact congrArg Prod.snd hs1.symm)
  have HX := Lib.hid (And.intro hI (And.intro hlts (And.intro hB (And.intro g gr))))
  have HS := Lib.hid (And.intro hs1 (And.intro hs2 hk2))
  have HF := Lib.hid hF
  rw [hs1, hs2]
  dsimp only at HN HY ⊢
  clear h hI hlts hB g gr hs1 hs2 hk2 hF
  have T0 : True := trivial
  go_enter Tryd.func22, Tryd.ntmps22
  go_wp2_with (first
    | (have hh := T0; clear hh T0; go_at_call 18; refine (HX.out.1.call (fun F hF => say18 b ch s F _ hF HX.out.2.2.2.1)).mono ?_; rintro e w2 ⟨rfl, hI2⟩; rw [HS.out.1] at hI2 ⊢; dsimp only at hI2 ⊢; obtain ⟨y1, y1'⟩ := (hI2.row (g := w.heap.size) (cs := cR r) (ty := 32) (by unfold doL; simp)).okw (cR_length r); change rdA _ _ 38 = vR r at y1'; have y1l := (hI2.row (g := w.heap.size) (cs := cR r) (ty := 32) (by unfold doL; simp)).lt; have Hn1 := Lib.hid (hI2.row (g := w.heap.size + 1 + 1) (cs := cR zR) (ty := 32) (by unfold doL; simp)).lt; have H2 := Lib.hid (hI2.alloc (cC c1) 45); clear hI2; have T1 : True := trivial)
    | (have hh := T1; clear hh T1; go_at_call 23; refine (H2.out.ref (val := fun r' => .tuple #[vR r', vK k2, .bool b2]) (sr' := s2) (fun F hF ha => by have hh := refSay23 F ch sr r _ ha HX.out.2.2.2.2 hF; rw [HS.out.2.1] at hh; dsimp only at hh; rw [HS.out.2.2] at hh; exact hh)).mono ?_; rintro e w3 ⟨r2, rfl, hI3⟩; have Hn2 := Lib.hid (hI3.row (g := w2.heap.size) (cs := cC c1) (ty := 45) List.mem_cons_self).lt; have H3 := Lib.hid ((hI3.alloc (cR r2) 32).alloc (cK k2) 55); clear hI3))
  obtain ⟨U, hU⟩ : ∃ U, ((w3.alloc (.cells (aR r2) 32)).alloc (.cells (aK k2) 55)) = U := ⟨_, rfl⟩
  have HI0 := H3.out
  rw [show (w3.alloc (.cells (cR r2).toArray 32)).heap.size = w3.heap.size + 1 by simp] at HI0
  have HI1 : InvR w0 b ch s1 s2 r2 ((w3.heap.size + 1, cK k2, 55) :: (w3.heap.size, cR r2, 32) :: (w2.heap.size, cC c1, 45) :: doL w.heap.size r x zR L) U := by rw [← hU]; exact HI0
  rw [hU]
  have hn1 := Hn1.out
  have hn2 := Hn2.out
  obtain ⟨g4, hg4⟩ : ∃ g4, g4 = w.heap.size := ⟨_, rfl⟩
  obtain ⟨g5, hg5⟩ : ∃ g5, g5 = w.heap.size + 1 := ⟨_, rfl⟩
  obtain ⟨g6, hg6⟩ : ∃ g6, g6 = w.heap.size + 1 + 1 := ⟨_, rfl⟩
  obtain ⟨g11, hg11⟩ : ∃ g11, g11 = w2.heap.size := ⟨_, rfl⟩
  obtain ⟨g13, hg13⟩ : ∃ g13, g13 = w3.heap.size := ⟨_, rfl⟩
  obtain ⟨g14, hg14⟩ : ∃ g14, g14 = w3.heap.size + 1 := ⟨_, rfl⟩
  obtain ⟨Lq, hLq⟩ : ∃ Lq : List (Nat × List Value × TypeId), Lq = (g11, cC c1, 45) :: (g13, cR r2, 32) :: (g14, cK k2, 55) :: L := ⟨_, rfl⟩
  have HG := Lib.hid (show w0.heap.size ≤ g6 ∧ ∀ y ∈ Lq, y.1 ≠ g6 from ⟨by have := HX.out.2.2.1; omega, fun y hy => by
    rw [hLq] at hy
    simp only [List.mem_cons] at hy
    rcases hy with rfl | rfl | rfl | hy
    · show g11 ≠ g6; omega
    · show g13 ≠ g6; omega
    · show g14 ≠ g6; omega
    · have := HX.out.2.1 y hy; omega⟩)
  have HI := Lib.hid (show InvR w0 b ch s1 s2 r2 ((g6, cR zR, 32) :: Lq) U from HI1.sub fun y hy => by
    rw [hLq, hg6, hg11, hg13, hg14] at hy
    unfold doL
    simp only [List.mem_cons] at hy ⊢
    rcases hy with rfl | rfl | rfl | rfl | hy
    · simp
    · simp
    · simp
    · simp
    · simp [hy])
  rw [← hg14, ← hg13, ← hg11, ← hg6, ← hg5, ← hg4]
  obtain ⟨q1, hq1⟩ : ∃ q1, (b1 == b2) = q1 := ⟨_, rfl⟩
  obtain ⟨x1, hx1⟩ : ∃ x1, decide (ofS c1 = k2) = x1 := ⟨_, rfl⟩
  obtain ⟨q2, hq2⟩ : ∃ q2, (q1 && x1) = q2 := ⟨_, rfl⟩
  have HE := Lib.hid (show s = sr → q2 = true from fun e => by
    have e2 := HE1.out e
    have e3 := Prod.mk.inj e2
    rw [← hq2, ← hq1, ← hx1, ← HS.out.2.2, e3.1, e3.2]
    simp)
  have HQ1 := Lib.hid hq1
  have HX1 := Lib.hid hx1
  have HQ2 := Lib.hid hq2
  clear hq1 hx1 hq2 HI0 HI1 H3 H2 HX HE1 HS hn1 hn2 hg4 hg5 hg6 hg11 hg13 hg14 hU r1 r1' hW y1 y1' y1l Hn1 Hn2 hk rk
  refine AnyO.wp_anyI (by kernel_rfl) (by kernel_rfl) (AnyO.InvG (σ := Unit) (fun σ => AnyO.pvL [some (vR r2), some (.bool b1), some (.bool b2), some (.bool q1), some (.bool q1), some (bif q1 then vC c1 else undef), some (bif q1 then vK (ofS c1) else undef), some (bif q1 then vK k2 else undef), some (bif q1 then .bool x1 else undef), some (.bool q2), some (.bool q2), some (bif q2 then .pointer (some ⟨g11, 1, none⟩) else undef), some (bif q2 then .string ⟨#[]⟩ else undef), some (bif q2 then .bool true else undef), some (.bool q2), some (.bool q2), some (bif q2 then .pointer (some ⟨g11, 36, none⟩) else undef), some (bif q2 then .int .i64 0 else undef), some (bif q2 then .bool true else undef), some (.bool q2), some (.bool q2), some (bif q2 then .bool b1 else undef), some (bif q2 then .bool (!b1) else undef), some (bif q2 then .bool (!b1) else undef), some (bif (q2 && b1) then vC c1 else undef), some (bif (q2 && b1) then .int .i64 0 else undef), some (bif (q2 && b1) then .bool true else undef), some (bif q2 then .bool true else undef), some (.bool q2), none, some (.bool q2)]) (fun _ D u => InvR w0 b ch s1 s2 r2 ((g6, (bif D 29 then cR r2 else cR zR), 32) :: Lq) u)) (AnyO.InvG.start (g := ()) (HI.out.below (below_drew _))) ?_ ?_
  · intro i hi
    have hi2 : i = 0 ∨ i = 1 ∨ i = 2 ∨ i = 3 ∨ i = 4 ∨ i = 5 ∨ i = 6 ∨ i = 7 ∨ i = 8 ∨ i = 9 ∨ i = 10 ∨ i = 11 ∨ i = 12 ∨ i = 13 ∨ i = 14 ∨ i = 15 ∨ i = 16 ∨ i = 17 ∨ i = 18 ∨ i = 19 ∨ i = 20 ∨ i = 21 ∨ i = 22 ∨ i = 23 ∨ i = 24 ∨ i = 25 ∨ i = 26 ∨ i = 27 ∨ i = 28 ∨ i = 29 ∨ i = 30 := by first | (simp only [List.size_toArray, List.length_cons, List.length_nil] at hi; omega) | (simp only [List.size_toArray, List.append_eq, List.length_append, List.length_cons, List.length_nil] at hi; omega)
    clear hi
    rcases hi2 with rfl | rfl | rfl | rfl | rfl | rfl | rfl | rfl | rfl | rfl | rfl | rfl | rfl | rfl | rfl | rfl | rfl | rfl | rfl | rfl | rfl | rfl | rfl | rfl | rfl | rfl | rfl | rfl | rfl | rfl | rfl
    · -- 0: Op.load 32 (Operand.tmp 13)
      refine AnyO.StepI.mk rfl [] (by kernel_rfl) ?_
      intro D vs u hI h0 hC hp ac hb K hK
      obtain ⟨σ, hP, hW⟩ := hI
      have s13 : ac.tmps[13]?.getD undef = .pointer (some ⟨g13, 0, none⟩) := by rw [hb]; kernel_rfl
      rw [if_pos (AnyO.wanted_none rfl)]
      clear hb hp
      subst hLq
      have RR := hW.row (g := g13) (cs := cR r2) (ty := 32) (by with_reducible repeat (first | exact List.mem_cons_self | apply List.mem_cons_of_mem))
      obtain ⟨rr1, rr2⟩ := RR.okw (cR_length _)
      change rdA _ _ _ = vR r2 at rr2
      clear RR
      clear hC
      clear h0
      have HP := Lib.hid hP
      have HWq := Lib.hid hW
      clear hP hW
      go_simp
      have hP := HP.out
      have hW := HWq.out
      clear HP HWq
      exact hK _ _ (AnyO.InvG.step (g := σ) hP rfl hW)
    · -- 1: Op.move (Operand.tmp 12)
      refine AnyO.StepI.mk rfl [] (by kernel_rfl) ?_
      intro D vs u hI h0 hC hp ac hb K hK
      obtain ⟨σ, hP, hW⟩ := hI
      have s12 : ac.tmps[12]?.getD undef = .bool b1 := by rw [hb]; kernel_rfl
      rw [if_pos (AnyO.wanted_none rfl)]
      clear hb hp
      clear hC
      clear h0
      have HP := Lib.hid hP
      have HWq := Lib.hid hW
      clear hP hW
      go_simp
      have hP := HP.out
      have hW := HWq.out
      clear HP HWq
      exact hK _ _ (AnyO.InvG.step (g := σ) hP rfl hW)
    · -- 2: Op.move (Operand.tmp 15)
      refine AnyO.StepI.mk rfl [] (by kernel_rfl) ?_
      intro D vs u hI h0 hC hp ac hb K hK
      obtain ⟨σ, hP, hW⟩ := hI
      have s15 : ac.tmps[15]?.getD undef = .bool b2 := by rw [hb]; kernel_rfl
      rw [if_pos (AnyO.wanted_none rfl)]
      clear hb hp
      clear hC
      clear h0
      have HP := Lib.hid hP
      have HWq := Lib.hid hW
      clear hP hW
      go_simp
      have hP := HP.out
      have hW := HWq.out
      clear HP HWq
      exact hK _ _ (AnyO.InvG.step (g := σ) hP rfl hW)
    · -- 3: Op.binOp BinOp.eql 4 (Operand.tmp 65) (Operand.tmp 66) 4
      refine AnyO.StepI.mk rfl [1, 2] (by kernel_rfl) ?_
      intro D vs u hI h0 hC hp ac hb K hK
      obtain ⟨σ, hP, hW⟩ := hI
      rcases b1 with _ | _
      · rcases b2 with _ | _
        · have s65 : ac.tmps[65]?.getD undef = .bool false := by rw [hb]; exact (show _ = vs 1 by kernel_rfl).trans (show vs 1 = .bool false from hP 1 (hp 1 (by decide)))
          have s66 : ac.tmps[66]?.getD undef = .bool false := by rw [hb]; exact (show _ = vs 2 by kernel_rfl).trans (show vs 2 = .bool false from hP 2 (hp 2 (by decide)))
          rw [if_pos (AnyO.wanted_none rfl)]
          clear hb hp
          clear hC
          clear h0
          have HP := Lib.hid hP
          have HWq := Lib.hid hW
          clear hP hW
          go_simp
          have hP := HP.out
          have hW := HWq.out
          clear HP HWq
          obtain rfl : q1 = true := HQ1.out.symm
          exact hK _ _ (AnyO.InvG.step (g := σ) hP rfl hW)
        · have s65 : ac.tmps[65]?.getD undef = .bool false := by rw [hb]; exact (show _ = vs 1 by kernel_rfl).trans (show vs 1 = .bool false from hP 1 (hp 1 (by decide)))
          have s66 : ac.tmps[66]?.getD undef = .bool true := by rw [hb]; exact (show _ = vs 2 by kernel_rfl).trans (show vs 2 = .bool true from hP 2 (hp 2 (by decide)))
          rw [if_pos (AnyO.wanted_none rfl)]
          clear hb hp
          clear hC
          clear h0
          have HP := Lib.hid hP
          have HWq := Lib.hid hW
          clear hP hW
          go_simp
          have hP := HP.out
          have hW := HWq.out
          clear HP HWq
          obtain rfl : q1 = false := HQ1.out.symm
          exact hK _ _ (AnyO.InvG.step (g := σ) hP rfl hW)
      · rcases b2 with _ | _
        · have s65 : ac.tmps[65]?.getD undef = .bool true := by rw [hb]; exact (show _ = vs 1 by kernel_rfl).trans (show vs 1 = .bool true from hP 1 (hp 1 (by decide)))
          have s66 : ac.tmps[66]?.getD undef = .bool false := by rw [hb]; exact (show _ = vs 2 by kernel_rfl).trans (show vs 2 = .bool false from hP 2 (hp 2 (by decide)))
          rw [if_pos (AnyO.wanted_none rfl)]
          clear hb hp
          clear hC
          clear h0
          have HP := Lib.hid hP
          have HWq := Lib.hid hW
          clear hP hW
          go_simp
          have hP := HP.out
          have hW := HWq.out
          clear HP HWq
          obtain rfl : q1 = false := HQ1.out.symm
          exact hK _ _ (AnyO.InvG.step (g := σ) hP rfl hW)
        · have s65 : ac.tmps[65]?.getD undef = .bool true := by rw [hb]; exact (show _ = vs 1 by kernel_rfl).trans (show vs 1 = .bool true from hP 1 (hp 1 (by decide)))
          have s66 : ac.tmps[66]?.getD undef = .bool true := by rw [hb]; exact (show _ = vs 2 by kernel_rfl).trans (show vs 2 = .bool true from hP 2 (hp 2 (by decide)))
          rw [if_pos (AnyO.wanted_none rfl)]
          clear hb hp
          clear hC
          clear h0
          have HP := Lib.hid hP
          have HWq := Lib.hid hW
          clear hP hW
          go_simp
          have hP := HP.out
          have hW := HWq.out
          clear HP HWq
          obtain rfl : q1 = true := HQ1.out.symm
          exact hK _ _ (AnyO.InvG.step (g := σ) hP rfl hW)
    · -- 4: Op.move (Operand.tmp 67)
      refine AnyO.StepI.mk rfl [3] (by kernel_rfl) ?_
      intro D vs u hI h0 hC hp ac hb K hK
      obtain ⟨σ, hP, hW⟩ := hI
      have s67 : ac.tmps[67]?.getD undef = .bool q1 := by rw [hb]; exact (show _ = vs 3 by kernel_rfl).trans (show vs 3 = .bool q1 from hP 3 (hp 3 (by decide)))
      rw [if_pos (AnyO.wanted_none rfl)]
      clear hb hp
      clear hC
      clear h0
      have HP := Lib.hid hP
      have HWq := Lib.hid hW
      clear hP hW
      go_simp
      have hP := HP.out
      have hW := HWq.out
      clear HP HWq
      exact hK _ _ (AnyO.InvG.step (g := σ) hP rfl hW)
    · -- 5: Op.load 45 (Operand.tmp 11)
      refine AnyO.StepI.mk rfl [4] (by kernel_rfl) ?_
      intro D vs u hI h0 hC hp ac hb K hK
      obtain ⟨σ, hP, hW⟩ := hI
      rcases q1 with _ | _
      · have s11 : ac.tmps[11]?.getD undef = .pointer (some ⟨g11, 0, none⟩) := by rw [hb]; kernel_rfl
        have s68 : ac.tmps[68]?.getD undef = .bool false := by rw [hb]; exact (show _ = vs 4 by kernel_rfl).trans (show vs 4 = .bool false from hP 4 (hp 4 (by decide)))
        rw [if_neg (AnyO.wanted_not (g := 4) (t := 68) (want := true) rfl rfl s68 (fun e => by cases e))]
        exact hK undef _ (AnyO.InvG.step (g := σ) hP rfl hW)
      · have s11 : ac.tmps[11]?.getD undef = .pointer (some ⟨g11, 0, none⟩) := by rw [hb]; kernel_rfl
        have s68 : ac.tmps[68]?.getD undef = .bool true := by rw [hb]; exact (show _ = vs 4 by kernel_rfl).trans (show vs 4 = .bool true from hP 4 (hp 4 (by decide)))
        rw [if_pos (AnyO.wanted_some (g := 4) (t := 68) (want := true) rfl rfl s68)]
        clear hb hp
        subst hLq
        have RR := hW.row (g := g11) (cs := cC c1) (ty := 45) (by with_reducible repeat (first | exact List.mem_cons_self | apply List.mem_cons_of_mem))
        obtain ⟨rr1, rr2⟩ := RR.okw (cC_length _)
        change rdA _ _ _ = vC c1 at rr2
        clear RR
        clear hC
        clear h0
        have HP := Lib.hid hP
        have HWq := Lib.hid hW
        clear hP hW
        go_simp
        have hP := HP.out
        have hW := HWq.out
        clear HP HWq
        exact hK _ _ (AnyO.InvG.step (g := σ) hP rfl hW)
    · -- 6: Op.call { callee := Callee.value (Operand.func 44), args := 
      refine AnyO.StepI.mk rfl [5, 4, 4] (by kernel_rfl) ?_
      intro D vs u hI h0 hC hp ac hb K hK
      obtain ⟨σ, hP, hW⟩ := hI
      rcases q1 with _ | _
      · have s69 : ac.tmps[69]?.getD undef = undef := by rw [hb]; exact (show _ = vs 5 by kernel_rfl).trans (show vs 5 = undef from hP 5 (hp 5 (by decide)))
        have s68 : ac.tmps[68]?.getD undef = .bool false := by rw [hb]; exact (show _ = vs 4 by kernel_rfl).trans (show vs 4 = .bool false from hP 4 (hp 4 (by decide)))
        rw [if_neg (AnyO.wanted_not (g := 4) (t := 68) (want := true) rfl rfl s68 (fun e => by cases e))]
        exact hK undef _ (AnyO.InvG.step (g := σ) hP rfl hW)
      · have s69 : ac.tmps[69]?.getD undef = vC c1 := by rw [hb]; exact (show _ = vs 5 by kernel_rfl).trans (show vs 5 = vC c1 from hP 5 (hp 5 (by decide)))
        have s68 : ac.tmps[68]?.getD undef = .bool true := by rw [hb]; exact (show _ = vs 4 by kernel_rfl).trans (show vs 4 = .bool true from hP 4 (hp 4 (by decide)))
        rw [if_pos (AnyO.wanted_some (g := 4) (t := 68) (want := true) rfl rfl s68)]
        clear hb hp
        clear hC
        clear h0
        have HP := Lib.hid hP
        have HWq := Lib.hid hW
        clear hP hW
        go_simp
        have hP := HP.out
        have hW := HWq.out
        clear HP HWq
        go_at_call 44
        refine (of44 c1 u).mono ?_
        rintro e w2 ⟨rfl, hb⟩
        exact hK _ _ (AnyO.InvG.step (g := σ) hP rfl (hW.below hb))
    · -- 7: Op.load 55 (Operand.tmp 14)
      refine AnyO.StepI.mk rfl [4] (by kernel_rfl) ?_
      intro D vs u hI h0 hC hp ac hb K hK
      obtain ⟨σ, hP, hW⟩ := hI
      rcases q1 with _ | _
      · have s14 : ac.tmps[14]?.getD undef = .pointer (some ⟨g14, 0, none⟩) := by rw [hb]; kernel_rfl
        have s68 : ac.tmps[68]?.getD undef = .bool false := by rw [hb]; exact (show _ = vs 4 by kernel_rfl).trans (show vs 4 = .bool false from hP 4 (hp 4 (by decide)))
        rw [if_neg (AnyO.wanted_not (g := 4) (t := 68) (want := true) rfl rfl s68 (fun e => by cases e))]
        exact hK undef _ (AnyO.InvG.step (g := σ) hP rfl hW)
      · have s14 : ac.tmps[14]?.getD undef = .pointer (some ⟨g14, 0, none⟩) := by rw [hb]; kernel_rfl
        have s68 : ac.tmps[68]?.getD undef = .bool true := by rw [hb]; exact (show _ = vs 4 by kernel_rfl).trans (show vs 4 = .bool true from hP 4 (hp 4 (by decide)))
        rw [if_pos (AnyO.wanted_some (g := 4) (t := 68) (want := true) rfl rfl s68)]
        clear hb hp
        subst hLq
        have RR := hW.row (g := g14) (cs := cK k2) (ty := 55) (by with_reducible repeat (first | exact List.mem_cons_self | apply List.mem_cons_of_mem))
        obtain ⟨rr1, rr2⟩ := RR.okw (cK_length _)
        change rdA _ _ _ = vK k2 at rr2
        clear RR
        clear hC
        clear h0
        have HP := Lib.hid hP
        have HWq := Lib.hid hW
        clear hP hW
        go_simp
        have hP := HP.out
        have hW := HWq.out
        clear HP HWq
        exact hK _ _ (AnyO.InvG.step (g := σ) hP rfl hW)
    · -- 8: Op.binOp BinOp.eql 55 (Operand.tmp 70) (Operand.tmp 71) 55
      refine AnyO.StepI.mk rfl [6, 7, 4] (by kernel_rfl) ?_
      intro D vs u hI h0 hC hp ac hb K hK
      obtain ⟨σ, hP, hW⟩ := hI
      rcases q1 with _ | _
      · have s70 : ac.tmps[70]?.getD undef = undef := by rw [hb]; exact (show _ = vs 6 by kernel_rfl).trans (show vs 6 = undef from hP 6 (hp 6 (by decide)))
        have s71 : ac.tmps[71]?.getD undef = undef := by rw [hb]; exact (show _ = vs 7 by kernel_rfl).trans (show vs 7 = undef from hP 7 (hp 7 (by decide)))
        have s68 : ac.tmps[68]?.getD undef = .bool false := by rw [hb]; exact (show _ = vs 4 by kernel_rfl).trans (show vs 4 = .bool false from hP 4 (hp 4 (by decide)))
        rw [if_neg (AnyO.wanted_not (g := 4) (t := 68) (want := true) rfl rfl s68 (fun e => by cases e))]
        exact hK undef _ (AnyO.InvG.step (g := σ) hP rfl hW)
      · have s70 : ac.tmps[70]?.getD undef = vK (ofS c1) := by rw [hb]; exact (show _ = vs 6 by kernel_rfl).trans (show vs 6 = vK (ofS c1) from hP 6 (hp 6 (by decide)))
        have s71 : ac.tmps[71]?.getD undef = vK k2 := by rw [hb]; exact (show _ = vs 7 by kernel_rfl).trans (show vs 7 = vK k2 from hP 7 (hp 7 (by decide)))
        have s68 : ac.tmps[68]?.getD undef = .bool true := by rw [hb]; exact (show _ = vs 4 by kernel_rfl).trans (show vs 4 = .bool true from hP 4 (hp 4 (by decide)))
        rw [if_pos (AnyO.wanted_some (g := 4) (t := 68) (want := true) rfl rfl s68)]
        clear hb hp
        have e := HX1.out
        clear hC
        clear h0
        have HP := Lib.hid hP
        have HWq := Lib.hid hW
        clear hP hW
        go_simp
        have hP := HP.out
        have hW := HWq.out
        clear HP HWq
        exact hK _ _ (AnyO.InvG.step (g := σ) hP rfl hW)
    · -- 9: Op.pick (Operand.tmp 68) (Operand.tmp 72) (Operand.const (Va
      refine AnyO.StepI.mk rfl [4, 8] (by kernel_rfl) ?_
      intro D vs u hI h0 hC hp ac hb K hK
      obtain ⟨σ, hP, hW⟩ := hI
      rcases q1 with _ | _
      · have s68 : ac.tmps[68]?.getD undef = .bool false := by rw [hb]; exact (show _ = vs 4 by kernel_rfl).trans (show vs 4 = .bool false from hP 4 (hp 4 (by decide)))
        have s72 : ac.tmps[72]?.getD undef = undef := by rw [hb]; exact (show _ = vs 8 by kernel_rfl).trans (show vs 8 = undef from hP 8 (hp 8 (by decide)))
        rw [if_pos (AnyO.wanted_none rfl)]
        clear hb hp
        clear hC
        clear h0
        have HP := Lib.hid hP
        have HWq := Lib.hid hW
        clear hP hW
        go_simp
        have hP := HP.out
        have hW := HWq.out
        clear HP HWq
        obtain rfl : q2 = false := HQ2.out.symm
        exact hK _ _ (AnyO.InvG.step (g := σ) hP rfl hW)
      · have s68 : ac.tmps[68]?.getD undef = .bool true := by rw [hb]; exact (show _ = vs 4 by kernel_rfl).trans (show vs 4 = .bool true from hP 4 (hp 4 (by decide)))
        have s72 : ac.tmps[72]?.getD undef = .bool x1 := by rw [hb]; exact (show _ = vs 8 by kernel_rfl).trans (show vs 8 = .bool x1 from hP 8 (hp 8 (by decide)))
        rw [if_pos (AnyO.wanted_none rfl)]
        clear hb hp
        clear hC
        clear h0
        have HP := Lib.hid hP
        have HWq := Lib.hid hW
        clear hP hW
        go_simp
        have hP := HP.out
        have hW := HWq.out
        clear HP HWq
        obtain rfl : q2 = x1 := HQ2.out.symm
        exact hK _ _ (AnyO.InvG.step (g := σ) hP rfl hW)
    · -- 10: Op.move (Operand.tmp 73)
      refine AnyO.StepI.mk rfl [9, 6] (by kernel_rfl) ?_
      intro D vs u hI h0 hC hp ac hb K hK
      obtain ⟨σ, hP, hW⟩ := hI
      have s73 : ac.tmps[73]?.getD undef = .bool q2 := by rw [hb]; exact (show _ = vs 9 by kernel_rfl).trans (show vs 9 = .bool q2 from hP 9 (hp 9 (by decide)))
      rw [if_pos (AnyO.wanted_none rfl)]
      clear hb hp
      clear hC
      clear h0
      have HP := Lib.hid hP
      have HWq := Lib.hid hW
      clear hP hW
      go_simp
      have hP := HP.out
      have hW := HWq.out
      clear HP HWq
      exact hK _ _ (AnyO.InvG.step (g := σ) hP rfl hW)
    · -- 11: Op.fieldAddr 45 (Operand.tmp 11) 1
      refine AnyO.StepI.mk rfl [10] (by kernel_rfl) ?_
      intro D vs u hI h0 hC hp ac hb K hK
      obtain ⟨σ, hP, hW⟩ := hI
      rcases q2 with _ | _
      · have s11 : ac.tmps[11]?.getD undef = .pointer (some ⟨g11, 0, none⟩) := by rw [hb]; kernel_rfl
        have s74 : ac.tmps[74]?.getD undef = .bool false := by rw [hb]; exact (show _ = vs 10 by kernel_rfl).trans (show vs 10 = .bool false from hP 10 (hp 10 (by decide)))
        rw [if_neg (AnyO.wanted_not (g := 10) (t := 74) (want := true) rfl rfl s74 (fun e => by cases e))]
        exact hK undef _ (AnyO.InvG.step (g := σ) hP rfl hW)
      · have s11 : ac.tmps[11]?.getD undef = .pointer (some ⟨g11, 0, none⟩) := by rw [hb]; kernel_rfl
        have s74 : ac.tmps[74]?.getD undef = .bool true := by rw [hb]; exact (show _ = vs 10 by kernel_rfl).trans (show vs 10 = .bool true from hP 10 (hp 10 (by decide)))
        rw [if_pos (AnyO.wanted_some (g := 10) (t := 74) (want := true) rfl rfl s74)]
        clear hb hp
        clear hC
        clear h0
        have HP := Lib.hid hP
        have HWq := Lib.hid hW
        clear hP hW
        go_simp
        have hP := HP.out
        have hW := HWq.out
        clear HP HWq
        exact hK _ _ (AnyO.InvG.step (g := σ) hP rfl hW)
    · -- 12: Op.load 9 (Operand.tmp 75)
      refine AnyO.StepI.mk rfl [11, 10] (by kernel_rfl) ?_
      intro D vs u hI h0 hC hp ac hb K hK
      obtain ⟨σ, hP, hW⟩ := hI
      rcases q2 with _ | _
      · have s75 : ac.tmps[75]?.getD undef = undef := by rw [hb]; exact (show _ = vs 11 by kernel_rfl).trans (show vs 11 = undef from hP 11 (hp 11 (by decide)))
        have s74 : ac.tmps[74]?.getD undef = .bool false := by rw [hb]; exact (show _ = vs 10 by kernel_rfl).trans (show vs 10 = .bool false from hP 10 (hp 10 (by decide)))
        rw [if_neg (AnyO.wanted_not (g := 10) (t := 74) (want := true) rfl rfl s74 (fun e => by cases e))]
        exact hK undef _ (AnyO.InvG.step (g := σ) hP rfl hW)
      · have s75 : ac.tmps[75]?.getD undef = .pointer (some ⟨g11, 1, none⟩) := by rw [hb]; exact (show _ = vs 11 by kernel_rfl).trans (show vs 11 = .pointer (some ⟨g11, 1, none⟩) from hP 11 (hp 11 (by decide)))
        have s74 : ac.tmps[74]?.getD undef = .bool true := by rw [hb]; exact (show _ = vs 10 by kernel_rfl).trans (show vs 10 = .bool true from hP 10 (hp 10 (by decide)))
        rw [if_pos (AnyO.wanted_some (g := 10) (t := 74) (want := true) rfl rfl s74)]
        clear hb hp
        subst hLq
        have RR := hW.row (g := g11) (cs := cC c1) (ty := 45) (by with_reducible repeat (first | exact List.mem_cons_self | apply List.mem_cons_of_mem))
        have rr := RR.cell 1
        rw [show (cC c1)[1]? = some (.string c1.name) from rfl, HN.out.1] at rr
        clear RR
        clear hC
        clear h0
        have HP := Lib.hid hP
        have HWq := Lib.hid hW
        clear hP hW
        go_simp
        have hP := HP.out
        have hW := HWq.out
        clear HP HWq
        exact hK _ _ (AnyO.InvG.step (g := σ) hP rfl hW)
    · -- 13: Op.binOp BinOp.eql 9 (Operand.tmp 76) (Operand.const (Value.
      refine AnyO.StepI.mk rfl [12, 10] (by kernel_rfl) ?_
      intro D vs u hI h0 hC hp ac hb K hK
      obtain ⟨σ, hP, hW⟩ := hI
      rcases q2 with _ | _
      · have s76 : ac.tmps[76]?.getD undef = undef := by rw [hb]; exact (show _ = vs 12 by kernel_rfl).trans (show vs 12 = undef from hP 12 (hp 12 (by decide)))
        have s74 : ac.tmps[74]?.getD undef = .bool false := by rw [hb]; exact (show _ = vs 10 by kernel_rfl).trans (show vs 10 = .bool false from hP 10 (hp 10 (by decide)))
        rw [if_neg (AnyO.wanted_not (g := 10) (t := 74) (want := true) rfl rfl s74 (fun e => by cases e))]
        exact hK undef _ (AnyO.InvG.step (g := σ) hP rfl hW)
      · have s76 : ac.tmps[76]?.getD undef = .string ⟨#[]⟩ := by rw [hb]; exact (show _ = vs 12 by kernel_rfl).trans (show vs 12 = .string ⟨#[]⟩ from hP 12 (hp 12 (by decide)))
        have s74 : ac.tmps[74]?.getD undef = .bool true := by rw [hb]; exact (show _ = vs 10 by kernel_rfl).trans (show vs 10 = .bool true from hP 10 (hp 10 (by decide)))
        rw [if_pos (AnyO.wanted_some (g := 10) (t := 74) (want := true) rfl rfl s74)]
        clear hb hp
        clear hC
        clear h0
        have HP := Lib.hid hP
        have HWq := Lib.hid hW
        clear hP hW
        go_simp
        have hP := HP.out
        have hW := HWq.out
        clear HP HWq
        exact hK _ _ (AnyO.InvG.step (g := σ) hP rfl hW)
    · -- 14: Op.pick (Operand.tmp 74) (Operand.tmp 77) (Operand.const (Va
      refine AnyO.StepI.mk rfl [10, 13] (by kernel_rfl) ?_
      intro D vs u hI h0 hC hp ac hb K hK
      obtain ⟨σ, hP, hW⟩ := hI
      rcases q2 with _ | _
      · have s74 : ac.tmps[74]?.getD undef = .bool false := by rw [hb]; exact (show _ = vs 10 by kernel_rfl).trans (show vs 10 = .bool false from hP 10 (hp 10 (by decide)))
        have s77 : ac.tmps[77]?.getD undef = undef := by rw [hb]; exact (show _ = vs 13 by kernel_rfl).trans (show vs 13 = undef from hP 13 (hp 13 (by decide)))
        rw [if_pos (AnyO.wanted_none rfl)]
        clear hb hp
        clear hC
        clear h0
        have HP := Lib.hid hP
        have HWq := Lib.hid hW
        clear hP hW
        go_simp
        have hP := HP.out
        have hW := HWq.out
        clear HP HWq
        exact hK _ _ (AnyO.InvG.step (g := σ) hP rfl hW)
      · have s74 : ac.tmps[74]?.getD undef = .bool true := by rw [hb]; exact (show _ = vs 10 by kernel_rfl).trans (show vs 10 = .bool true from hP 10 (hp 10 (by decide)))
        have s77 : ac.tmps[77]?.getD undef = .bool true := by rw [hb]; exact (show _ = vs 13 by kernel_rfl).trans (show vs 13 = .bool true from hP 13 (hp 13 (by decide)))
        rw [if_pos (AnyO.wanted_none rfl)]
        clear hb hp
        clear hC
        clear h0
        have HP := Lib.hid hP
        have HWq := Lib.hid hW
        clear hP hW
        go_simp
        have hP := HP.out
        have hW := HWq.out
        clear HP HWq
        exact hK _ _ (AnyO.InvG.step (g := σ) hP rfl hW)
    · -- 15: Op.move (Operand.tmp 78)
      refine AnyO.StepI.mk rfl [14, 10] (by kernel_rfl) ?_
      intro D vs u hI h0 hC hp ac hb K hK
      obtain ⟨σ, hP, hW⟩ := hI
      have s78 : ac.tmps[78]?.getD undef = .bool q2 := by rw [hb]; exact (show _ = vs 14 by kernel_rfl).trans (show vs 14 = .bool q2 from hP 14 (hp 14 (by decide)))
      rw [if_pos (AnyO.wanted_none rfl)]
      clear hb hp
      clear hC
      clear h0
      have HP := Lib.hid hP
      have HWq := Lib.hid hW
      clear hP hW
      go_simp
      have hP := HP.out
      have hW := HWq.out
      clear HP HWq
      exact hK _ _ (AnyO.InvG.step (g := σ) hP rfl hW)
    · -- 16: Op.fieldAddr 45 (Operand.tmp 11) 5
      refine AnyO.StepI.mk rfl [15] (by kernel_rfl) ?_
      intro D vs u hI h0 hC hp ac hb K hK
      obtain ⟨σ, hP, hW⟩ := hI
      rcases q2 with _ | _
      · have s11 : ac.tmps[11]?.getD undef = .pointer (some ⟨g11, 0, none⟩) := by rw [hb]; kernel_rfl
        have s79 : ac.tmps[79]?.getD undef = .bool false := by rw [hb]; exact (show _ = vs 15 by kernel_rfl).trans (show vs 15 = .bool false from hP 15 (hp 15 (by decide)))
        rw [if_neg (AnyO.wanted_not (g := 15) (t := 79) (want := true) rfl rfl s79 (fun e => by cases e))]
        exact hK undef _ (AnyO.InvG.step (g := σ) hP rfl hW)
      · have s11 : ac.tmps[11]?.getD undef = .pointer (some ⟨g11, 0, none⟩) := by rw [hb]; kernel_rfl
        have s79 : ac.tmps[79]?.getD undef = .bool true := by rw [hb]; exact (show _ = vs 15 by kernel_rfl).trans (show vs 15 = .bool true from hP 15 (hp 15 (by decide)))
        rw [if_pos (AnyO.wanted_some (g := 15) (t := 79) (want := true) rfl rfl s79)]
        clear hb hp
        clear hC
        clear h0
        have HP := Lib.hid hP
        have HWq := Lib.hid hW
        clear hP hW
        go_simp
        have hP := HP.out
        have hW := HWq.out
        clear HP HWq
        exact hK _ _ (AnyO.InvG.step (g := σ) hP rfl hW)
    · -- 17: Op.load 3 (Operand.tmp 80)
      refine AnyO.StepI.mk rfl [16, 15] (by kernel_rfl) ?_
      intro D vs u hI h0 hC hp ac hb K hK
      obtain ⟨σ, hP, hW⟩ := hI
      rcases q2 with _ | _
      · have s80 : ac.tmps[80]?.getD undef = undef := by rw [hb]; exact (show _ = vs 16 by kernel_rfl).trans (show vs 16 = undef from hP 16 (hp 16 (by decide)))
        have s79 : ac.tmps[79]?.getD undef = .bool false := by rw [hb]; exact (show _ = vs 15 by kernel_rfl).trans (show vs 15 = .bool false from hP 15 (hp 15 (by decide)))
        rw [if_neg (AnyO.wanted_not (g := 15) (t := 79) (want := true) rfl rfl s79 (fun e => by cases e))]
        exact hK undef _ (AnyO.InvG.step (g := σ) hP rfl hW)
      · have s80 : ac.tmps[80]?.getD undef = .pointer (some ⟨g11, 36, none⟩) := by rw [hb]; exact (show _ = vs 16 by kernel_rfl).trans (show vs 16 = .pointer (some ⟨g11, 36, none⟩) from hP 16 (hp 16 (by decide)))
        have s79 : ac.tmps[79]?.getD undef = .bool true := by rw [hb]; exact (show _ = vs 15 by kernel_rfl).trans (show vs 15 = .bool true from hP 15 (hp 15 (by decide)))
        rw [if_pos (AnyO.wanted_some (g := 15) (t := 79) (want := true) rfl rfl s79)]
        clear hb hp
        subst hLq
        have RR := hW.row (g := g11) (cs := cC c1) (ty := 45) (by with_reducible repeat (first | exact List.mem_cons_self | apply List.mem_cons_of_mem))
        have rr := RR.cell 36
        rw [show (cC c1)[36]? = some (.int .i64 c1.count) from (List.getElem?_toArray ..).symm.trans (aC_36 c1), HN.out.2] at rr
        clear RR
        clear hC
        clear h0
        have HP := Lib.hid hP
        have HWq := Lib.hid hW
        clear hP hW
        go_simp
        have hP := HP.out
        have hW := HWq.out
        clear HP HWq
        exact hK _ _ (AnyO.InvG.step (g := σ) hP rfl hW)
    · -- 18: Op.binOp BinOp.eql 3 (Operand.tmp 81) (Operand.const (Value.
      refine AnyO.StepI.mk rfl [17, 15] (by kernel_rfl) ?_
      intro D vs u hI h0 hC hp ac hb K hK
      obtain ⟨σ, hP, hW⟩ := hI
      rcases q2 with _ | _
      · have s81 : ac.tmps[81]?.getD undef = undef := by rw [hb]; exact (show _ = vs 17 by kernel_rfl).trans (show vs 17 = undef from hP 17 (hp 17 (by decide)))
        have s79 : ac.tmps[79]?.getD undef = .bool false := by rw [hb]; exact (show _ = vs 15 by kernel_rfl).trans (show vs 15 = .bool false from hP 15 (hp 15 (by decide)))
        rw [if_neg (AnyO.wanted_not (g := 15) (t := 79) (want := true) rfl rfl s79 (fun e => by cases e))]
        exact hK undef _ (AnyO.InvG.step (g := σ) hP rfl hW)
      · have s81 : ac.tmps[81]?.getD undef = .int .i64 0 := by rw [hb]; exact (show _ = vs 17 by kernel_rfl).trans (show vs 17 = .int .i64 0 from hP 17 (hp 17 (by decide)))
        have s79 : ac.tmps[79]?.getD undef = .bool true := by rw [hb]; exact (show _ = vs 15 by kernel_rfl).trans (show vs 15 = .bool true from hP 15 (hp 15 (by decide)))
        rw [if_pos (AnyO.wanted_some (g := 15) (t := 79) (want := true) rfl rfl s79)]
        clear hb hp
        clear hC
        clear h0
        have HP := Lib.hid hP
        have HWq := Lib.hid hW
        clear hP hW
        go_simp
        have hP := HP.out
        have hW := HWq.out
        clear HP HWq
        exact hK _ _ (AnyO.InvG.step (g := σ) hP rfl hW)
    · -- 19: Op.pick (Operand.tmp 79) (Operand.tmp 82) (Operand.const (Va
      refine AnyO.StepI.mk rfl [15, 18] (by kernel_rfl) ?_
      intro D vs u hI h0 hC hp ac hb K hK
      obtain ⟨σ, hP, hW⟩ := hI
      rcases q2 with _ | _
      · have s79 : ac.tmps[79]?.getD undef = .bool false := by rw [hb]; exact (show _ = vs 15 by kernel_rfl).trans (show vs 15 = .bool false from hP 15 (hp 15 (by decide)))
        have s82 : ac.tmps[82]?.getD undef = undef := by rw [hb]; exact (show _ = vs 18 by kernel_rfl).trans (show vs 18 = undef from hP 18 (hp 18 (by decide)))
        rw [if_pos (AnyO.wanted_none rfl)]
        clear hb hp
        clear hC
        clear h0
        have HP := Lib.hid hP
        have HWq := Lib.hid hW
        clear hP hW
        go_simp
        have hP := HP.out
        have hW := HWq.out
        clear HP HWq
        exact hK _ _ (AnyO.InvG.step (g := σ) hP rfl hW)
      · have s79 : ac.tmps[79]?.getD undef = .bool true := by rw [hb]; exact (show _ = vs 15 by kernel_rfl).trans (show vs 15 = .bool true from hP 15 (hp 15 (by decide)))
        have s82 : ac.tmps[82]?.getD undef = .bool true := by rw [hb]; exact (show _ = vs 18 by kernel_rfl).trans (show vs 18 = .bool true from hP 18 (hp 18 (by decide)))
        rw [if_pos (AnyO.wanted_none rfl)]
        clear hb hp
        clear hC
        clear h0
        have HP := Lib.hid hP
        have HWq := Lib.hid hW
        clear hP hW
        go_simp
        have hP := HP.out
        have hW := HWq.out
        clear HP HWq
        exact hK _ _ (AnyO.InvG.step (g := σ) hP rfl hW)
    · -- 20: Op.move (Operand.tmp 83)
      refine AnyO.StepI.mk rfl [19, 15] (by kernel_rfl) ?_
      intro D vs u hI h0 hC hp ac hb K hK
      obtain ⟨σ, hP, hW⟩ := hI
      have s83 : ac.tmps[83]?.getD undef = .bool q2 := by rw [hb]; exact (show _ = vs 19 by kernel_rfl).trans (show vs 19 = .bool q2 from hP 19 (hp 19 (by decide)))
      rw [if_pos (AnyO.wanted_none rfl)]
      clear hb hp
      clear hC
      clear h0
      have HP := Lib.hid hP
      have HWq := Lib.hid hW
      clear hP hW
      go_simp
      have hP := HP.out
      have hW := HWq.out
      clear HP HWq
      exact hK _ _ (AnyO.InvG.step (g := σ) hP rfl hW)
    · -- 21: Op.move (Operand.tmp 12)
      refine AnyO.StepI.mk rfl [20] (by kernel_rfl) ?_
      intro D vs u hI h0 hC hp ac hb K hK
      obtain ⟨σ, hP, hW⟩ := hI
      rcases q2 with _ | _
      · have s12 : ac.tmps[12]?.getD undef = .bool b1 := by rw [hb]; kernel_rfl
        have s84 : ac.tmps[84]?.getD undef = .bool false := by rw [hb]; exact (show _ = vs 20 by kernel_rfl).trans (show vs 20 = .bool false from hP 20 (hp 20 (by decide)))
        rw [if_neg (AnyO.wanted_not (g := 20) (t := 84) (want := true) rfl rfl s84 (fun e => by cases e))]
        exact hK undef _ (AnyO.InvG.step (g := σ) hP rfl hW)
      · have s12 : ac.tmps[12]?.getD undef = .bool b1 := by rw [hb]; kernel_rfl
        have s84 : ac.tmps[84]?.getD undef = .bool true := by rw [hb]; exact (show _ = vs 20 by kernel_rfl).trans (show vs 20 = .bool true from hP 20 (hp 20 (by decide)))
        rw [if_pos (AnyO.wanted_some (g := 20) (t := 84) (want := true) rfl rfl s84)]
        clear hb hp
        clear hC
        clear h0
        have HP := Lib.hid hP
        have HWq := Lib.hid hW
        clear hP hW
        go_simp
        have hP := HP.out
        have hW := HWq.out
        clear HP HWq
        exact hK _ _ (AnyO.InvG.step (g := σ) hP rfl hW)
    · -- 22: Op.unOp UnOp.not 4 (Operand.tmp 85)
      refine AnyO.StepI.mk rfl [21, 20] (by kernel_rfl) ?_
      intro D vs u hI h0 hC hp ac hb K hK
      obtain ⟨σ, hP, hW⟩ := hI
      rcases q2 with _ | _
      · have s85 : ac.tmps[85]?.getD undef = undef := by rw [hb]; exact (show _ = vs 21 by kernel_rfl).trans (show vs 21 = undef from hP 21 (hp 21 (by decide)))
        have s84 : ac.tmps[84]?.getD undef = .bool false := by rw [hb]; exact (show _ = vs 20 by kernel_rfl).trans (show vs 20 = .bool false from hP 20 (hp 20 (by decide)))
        rw [if_neg (AnyO.wanted_not (g := 20) (t := 84) (want := true) rfl rfl s84 (fun e => by cases e))]
        exact hK undef _ (AnyO.InvG.step (g := σ) hP rfl hW)
      · have s85 : ac.tmps[85]?.getD undef = .bool b1 := by rw [hb]; exact (show _ = vs 21 by kernel_rfl).trans (show vs 21 = .bool b1 from hP 21 (hp 21 (by decide)))
        have s84 : ac.tmps[84]?.getD undef = .bool true := by rw [hb]; exact (show _ = vs 20 by kernel_rfl).trans (show vs 20 = .bool true from hP 20 (hp 20 (by decide)))
        rw [if_pos (AnyO.wanted_some (g := 20) (t := 84) (want := true) rfl rfl s84)]
        clear hb hp
        clear hC
        clear h0
        have HP := Lib.hid hP
        have HWq := Lib.hid hW
        clear hP hW
        go_simp
        have hP := HP.out
        have hW := HWq.out
        clear HP HWq
        exact hK _ _ (AnyO.InvG.step (g := σ) hP rfl hW)
    · -- 23: Op.move (Operand.tmp 86)
      refine AnyO.StepI.mk rfl [22, 20, 20] (by kernel_rfl) ?_
      intro D vs u hI h0 hC hp ac hb K hK
      obtain ⟨σ, hP, hW⟩ := hI
      rcases q2 with _ | _
      · have s86 : ac.tmps[86]?.getD undef = undef := by rw [hb]; exact (show _ = vs 22 by kernel_rfl).trans (show vs 22 = undef from hP 22 (hp 22 (by decide)))
        have s84 : ac.tmps[84]?.getD undef = .bool false := by rw [hb]; exact (show _ = vs 20 by kernel_rfl).trans (show vs 20 = .bool false from hP 20 (hp 20 (by decide)))
        rw [if_neg (AnyO.wanted_not (g := 20) (t := 84) (want := true) rfl rfl s84 (fun e => by cases e))]
        exact hK undef _ (AnyO.InvG.step (g := σ) hP rfl hW)
      · have s86 : ac.tmps[86]?.getD undef = .bool (!b1) := by rw [hb]; exact (show _ = vs 22 by kernel_rfl).trans (show vs 22 = .bool (!b1) from hP 22 (hp 22 (by decide)))
        have s84 : ac.tmps[84]?.getD undef = .bool true := by rw [hb]; exact (show _ = vs 20 by kernel_rfl).trans (show vs 20 = .bool true from hP 20 (hp 20 (by decide)))
        rw [if_pos (AnyO.wanted_some (g := 20) (t := 84) (want := true) rfl rfl s84)]
        clear hb hp
        clear hC
        clear h0
        have HP := Lib.hid hP
        have HWq := Lib.hid hW
        clear hP hW
        go_simp
        have hP := HP.out
        have hW := HWq.out
        clear HP HWq
        exact hK _ _ (AnyO.InvG.step (g := σ) hP rfl hW)
    · -- 24: Op.load 45 (Operand.tmp 11)
      refine AnyO.StepI.mk rfl [23] (by kernel_rfl) ?_
      intro D vs u hI h0 hC hp ac hb K hK
      obtain ⟨σ, hP, hW⟩ := hI
      rcases q2 with _ | _
      · rcases b1 with _ | _
        · have s11 : ac.tmps[11]?.getD undef = .pointer (some ⟨g11, 0, none⟩) := by rw [hb]; kernel_rfl
          have s87 : ac.tmps[87]?.getD undef = undef := by rw [hb]; exact (show _ = vs 23 by kernel_rfl).trans (show vs 23 = undef from hP 23 (hp 23 (by decide)))
          rw [if_neg (AnyO.wanted_not (g := 23) (t := 87) (want := false) rfl rfl s87 (fun e => by cases e))]
          exact hK undef _ (AnyO.InvG.step (g := σ) hP rfl hW)
        · have s11 : ac.tmps[11]?.getD undef = .pointer (some ⟨g11, 0, none⟩) := by rw [hb]; kernel_rfl
          have s87 : ac.tmps[87]?.getD undef = undef := by rw [hb]; exact (show _ = vs 23 by kernel_rfl).trans (show vs 23 = undef from hP 23 (hp 23 (by decide)))
          rw [if_neg (AnyO.wanted_not (g := 23) (t := 87) (want := false) rfl rfl s87 (fun e => by cases e))]
          exact hK undef _ (AnyO.InvG.step (g := σ) hP rfl hW)
      · rcases b1 with _ | _
        · have s11 : ac.tmps[11]?.getD undef = .pointer (some ⟨g11, 0, none⟩) := by rw [hb]; kernel_rfl
          have s87 : ac.tmps[87]?.getD undef = .bool (!false) := by rw [hb]; exact (show _ = vs 23 by kernel_rfl).trans (show vs 23 = .bool (!false) from hP 23 (hp 23 (by decide)))
          rw [if_neg (AnyO.wanted_not (g := 23) (t := 87) (want := false) rfl rfl s87 (fun e => by cases e))]
          exact hK undef _ (AnyO.InvG.step (g := σ) hP rfl hW)
        · have s11 : ac.tmps[11]?.getD undef = .pointer (some ⟨g11, 0, none⟩) := by rw [hb]; kernel_rfl
          have s87 : ac.tmps[87]?.getD undef = .bool (!true) := by rw [hb]; exact (show _ = vs 23 by kernel_rfl).trans (show vs 23 = .bool (!true) from hP 23 (hp 23 (by decide)))
          rw [if_pos (AnyO.wanted_some (g := 23) (t := 87) (want := false) rfl rfl s87)]
          clear hb hp
          subst hLq
          have RR := hW.row (g := g11) (cs := cC c1) (ty := 45) (by with_reducible repeat (first | exact List.mem_cons_self | apply List.mem_cons_of_mem))
          obtain ⟨rr1, rr2⟩ := RR.okw (cC_length _)
          change rdA _ _ _ = vC c1 at rr2
          clear RR
          clear hC
          clear h0
          have HP := Lib.hid hP
          have HWq := Lib.hid hW
          clear hP hW
          go_simp
          have hP := HP.out
          have hW := HWq.out
          clear HP HWq
          exact hK _ _ (AnyO.InvG.step (g := σ) hP rfl hW)
    · -- 25: Op.call { callee := Callee.value (Operand.func 41), args := 
      refine AnyO.StepI.mk rfl [24, 23, 23] (by kernel_rfl) ?_
      intro D vs u hI h0 hC hp ac hb K hK
      obtain ⟨σ, hP, hW⟩ := hI
      rcases q2 with _ | _
      · rcases b1 with _ | _
        · have s88 : ac.tmps[88]?.getD undef = undef := by rw [hb]; exact (show _ = vs 24 by kernel_rfl).trans (show vs 24 = undef from hP 24 (hp 24 (by decide)))
          have s87 : ac.tmps[87]?.getD undef = undef := by rw [hb]; exact (show _ = vs 23 by kernel_rfl).trans (show vs 23 = undef from hP 23 (hp 23 (by decide)))
          rw [if_neg (AnyO.wanted_not (g := 23) (t := 87) (want := false) rfl rfl s87 (fun e => by cases e))]
          exact hK undef _ (AnyO.InvG.step (g := σ) hP rfl hW)
        · have s88 : ac.tmps[88]?.getD undef = undef := by rw [hb]; exact (show _ = vs 24 by kernel_rfl).trans (show vs 24 = undef from hP 24 (hp 24 (by decide)))
          have s87 : ac.tmps[87]?.getD undef = undef := by rw [hb]; exact (show _ = vs 23 by kernel_rfl).trans (show vs 23 = undef from hP 23 (hp 23 (by decide)))
          rw [if_neg (AnyO.wanted_not (g := 23) (t := 87) (want := false) rfl rfl s87 (fun e => by cases e))]
          exact hK undef _ (AnyO.InvG.step (g := σ) hP rfl hW)
      · rcases b1 with _ | _
        · have s88 : ac.tmps[88]?.getD undef = undef := by rw [hb]; exact (show _ = vs 24 by kernel_rfl).trans (show vs 24 = undef from hP 24 (hp 24 (by decide)))
          have s87 : ac.tmps[87]?.getD undef = .bool (!false) := by rw [hb]; exact (show _ = vs 23 by kernel_rfl).trans (show vs 23 = .bool (!false) from hP 23 (hp 23 (by decide)))
          rw [if_neg (AnyO.wanted_not (g := 23) (t := 87) (want := false) rfl rfl s87 (fun e => by cases e))]
          exact hK undef _ (AnyO.InvG.step (g := σ) hP rfl hW)
        · have s88 : ac.tmps[88]?.getD undef = vC c1 := by rw [hb]; exact (show _ = vs 24 by kernel_rfl).trans (show vs 24 = vC c1 from hP 24 (hp 24 (by decide)))
          have s87 : ac.tmps[87]?.getD undef = .bool (!true) := by rw [hb]; exact (show _ = vs 23 by kernel_rfl).trans (show vs 23 = .bool (!true) from hP 23 (hp 23 (by decide)))
          rw [if_pos (AnyO.wanted_some (g := 23) (t := 87) (want := false) rfl rfl s87)]
          clear hb hp
          clear hC
          clear h0
          have HP := Lib.hid hP
          have HWq := Lib.hid hW
          clear hP hW
          go_simp
          have hP := HP.out
          have hW := HWq.out
          clear HP HWq
          go_at_call 41
          refine (check41 c1 u (HF.out.keep hW.bel) HN.out.1).mono ?_
          rintro e w2 ⟨rfl, hb⟩
          rw [HY.out rfl]
          exact hK _ _ (AnyO.InvG.step (g := σ) hP rfl (hW.below hb))
    · -- 26: Op.binOp BinOp.eql 24 (Operand.tmp 89) (Operand.const (Value
      refine AnyO.StepI.mk rfl [25, 23] (by kernel_rfl) ?_
      intro D vs u hI h0 hC hp ac hb K hK
      obtain ⟨σ, hP, hW⟩ := hI
      rcases q2 with _ | _
      · rcases b1 with _ | _
        · have s89 : ac.tmps[89]?.getD undef = undef := by rw [hb]; exact (show _ = vs 25 by kernel_rfl).trans (show vs 25 = undef from hP 25 (hp 25 (by decide)))
          have s87 : ac.tmps[87]?.getD undef = undef := by rw [hb]; exact (show _ = vs 23 by kernel_rfl).trans (show vs 23 = undef from hP 23 (hp 23 (by decide)))
          rw [if_neg (AnyO.wanted_not (g := 23) (t := 87) (want := false) rfl rfl s87 (fun e => by cases e))]
          exact hK undef _ (AnyO.InvG.step (g := σ) hP rfl hW)
        · have s89 : ac.tmps[89]?.getD undef = undef := by rw [hb]; exact (show _ = vs 25 by kernel_rfl).trans (show vs 25 = undef from hP 25 (hp 25 (by decide)))
          have s87 : ac.tmps[87]?.getD undef = undef := by rw [hb]; exact (show _ = vs 23 by kernel_rfl).trans (show vs 23 = undef from hP 23 (hp 23 (by decide)))
          rw [if_neg (AnyO.wanted_not (g := 23) (t := 87) (want := false) rfl rfl s87 (fun e => by cases e))]
          exact hK undef _ (AnyO.InvG.step (g := σ) hP rfl hW)
      · rcases b1 with _ | _
        · have s89 : ac.tmps[89]?.getD undef = undef := by rw [hb]; exact (show _ = vs 25 by kernel_rfl).trans (show vs 25 = undef from hP 25 (hp 25 (by decide)))
          have s87 : ac.tmps[87]?.getD undef = .bool (!false) := by rw [hb]; exact (show _ = vs 23 by kernel_rfl).trans (show vs 23 = .bool (!false) from hP 23 (hp 23 (by decide)))
          rw [if_neg (AnyO.wanted_not (g := 23) (t := 87) (want := false) rfl rfl s87 (fun e => by cases e))]
          exact hK undef _ (AnyO.InvG.step (g := σ) hP rfl hW)
        · have s89 : ac.tmps[89]?.getD undef = .int .i64 0 := by rw [hb]; exact (show _ = vs 25 by kernel_rfl).trans (show vs 25 = .int .i64 0 from hP 25 (hp 25 (by decide)))
          have s87 : ac.tmps[87]?.getD undef = .bool (!true) := by rw [hb]; exact (show _ = vs 23 by kernel_rfl).trans (show vs 23 = .bool (!true) from hP 23 (hp 23 (by decide)))
          rw [if_pos (AnyO.wanted_some (g := 23) (t := 87) (want := false) rfl rfl s87)]
          clear hb hp
          clear hC
          clear h0
          have HP := Lib.hid hP
          have HWq := Lib.hid hW
          clear hP hW
          go_simp
          have hP := HP.out
          have hW := HWq.out
          clear HP HWq
          exact hK _ _ (AnyO.InvG.step (g := σ) hP rfl hW)
    · -- 27: Op.pick (Operand.tmp 87) (Operand.const (Value.bool true)) (
      refine AnyO.StepI.mk rfl [23, 26, 20] (by kernel_rfl) ?_
      intro D vs u hI h0 hC hp ac hb K hK
      obtain ⟨σ, hP, hW⟩ := hI
      rcases q2 with _ | _
      · rcases b1 with _ | _
        · have s87 : ac.tmps[87]?.getD undef = undef := by rw [hb]; exact (show _ = vs 23 by kernel_rfl).trans (show vs 23 = undef from hP 23 (hp 23 (by decide)))
          have s90 : ac.tmps[90]?.getD undef = undef := by rw [hb]; exact (show _ = vs 26 by kernel_rfl).trans (show vs 26 = undef from hP 26 (hp 26 (by decide)))
          have s84 : ac.tmps[84]?.getD undef = .bool false := by rw [hb]; exact (show _ = vs 20 by kernel_rfl).trans (show vs 20 = .bool false from hP 20 (hp 20 (by decide)))
          rw [if_neg (AnyO.wanted_not (g := 20) (t := 84) (want := true) rfl rfl s84 (fun e => by cases e))]
          exact hK undef _ (AnyO.InvG.step (g := σ) hP rfl hW)
        · have s87 : ac.tmps[87]?.getD undef = undef := by rw [hb]; exact (show _ = vs 23 by kernel_rfl).trans (show vs 23 = undef from hP 23 (hp 23 (by decide)))
          have s90 : ac.tmps[90]?.getD undef = undef := by rw [hb]; exact (show _ = vs 26 by kernel_rfl).trans (show vs 26 = undef from hP 26 (hp 26 (by decide)))
          have s84 : ac.tmps[84]?.getD undef = .bool false := by rw [hb]; exact (show _ = vs 20 by kernel_rfl).trans (show vs 20 = .bool false from hP 20 (hp 20 (by decide)))
          rw [if_neg (AnyO.wanted_not (g := 20) (t := 84) (want := true) rfl rfl s84 (fun e => by cases e))]
          exact hK undef _ (AnyO.InvG.step (g := σ) hP rfl hW)
      · rcases b1 with _ | _
        · have s87 : ac.tmps[87]?.getD undef = .bool (!false) := by rw [hb]; exact (show _ = vs 23 by kernel_rfl).trans (show vs 23 = .bool (!false) from hP 23 (hp 23 (by decide)))
          have s90 : ac.tmps[90]?.getD undef = undef := by rw [hb]; exact (show _ = vs 26 by kernel_rfl).trans (show vs 26 = undef from hP 26 (hp 26 (by decide)))
          have s84 : ac.tmps[84]?.getD undef = .bool true := by rw [hb]; exact (show _ = vs 20 by kernel_rfl).trans (show vs 20 = .bool true from hP 20 (hp 20 (by decide)))
          rw [if_pos (AnyO.wanted_some (g := 20) (t := 84) (want := true) rfl rfl s84)]
          clear hb hp
          clear hC
          clear h0
          have HP := Lib.hid hP
          have HWq := Lib.hid hW
          clear hP hW
          go_simp
          have hP := HP.out
          have hW := HWq.out
          clear HP HWq
          exact hK _ _ (AnyO.InvG.step (g := σ) hP rfl hW)
        · have s87 : ac.tmps[87]?.getD undef = .bool (!true) := by rw [hb]; exact (show _ = vs 23 by kernel_rfl).trans (show vs 23 = .bool (!true) from hP 23 (hp 23 (by decide)))
          have s90 : ac.tmps[90]?.getD undef = .bool true := by rw [hb]; exact (show _ = vs 26 by kernel_rfl).trans (show vs 26 = .bool true from hP 26 (hp 26 (by decide)))
          have s84 : ac.tmps[84]?.getD undef = .bool true := by rw [hb]; exact (show _ = vs 20 by kernel_rfl).trans (show vs 20 = .bool true from hP 20 (hp 20 (by decide)))
          rw [if_pos (AnyO.wanted_some (g := 20) (t := 84) (want := true) rfl rfl s84)]
          clear hb hp
          clear hC
          clear h0
          have HP := Lib.hid hP
          have HWq := Lib.hid hW
          clear hP hW
          go_simp
          have hP := HP.out
          have hW := HWq.out
          clear HP HWq
          exact hK _ _ (AnyO.InvG.step (g := σ) hP rfl hW)
    · -- 28: Op.pick (Operand.tmp 84) (Operand.tmp 91) (Operand.const (Va
      refine AnyO.StepI.mk rfl [20, 27] (by kernel_rfl) ?_
      intro D vs u hI h0 hC hp ac hb K hK
      obtain ⟨σ, hP, hW⟩ := hI
      rcases q2 with _ | _
      · have s84 : ac.tmps[84]?.getD undef = .bool false := by rw [hb]; exact (show _ = vs 20 by kernel_rfl).trans (show vs 20 = .bool false from hP 20 (hp 20 (by decide)))
        have s91 : ac.tmps[91]?.getD undef = undef := by rw [hb]; exact (show _ = vs 27 by kernel_rfl).trans (show vs 27 = undef from hP 27 (hp 27 (by decide)))
        rw [if_pos (AnyO.wanted_none rfl)]
        clear hb hp
        clear hC
        clear h0
        have HP := Lib.hid hP
        have HWq := Lib.hid hW
        clear hP hW
        go_simp
        have hP := HP.out
        have hW := HWq.out
        clear HP HWq
        exact hK _ _ (AnyO.InvG.step (g := σ) hP rfl hW)
      · have s84 : ac.tmps[84]?.getD undef = .bool true := by rw [hb]; exact (show _ = vs 20 by kernel_rfl).trans (show vs 20 = .bool true from hP 20 (hp 20 (by decide)))
        have s91 : ac.tmps[91]?.getD undef = .bool true := by rw [hb]; exact (show _ = vs 27 by kernel_rfl).trans (show vs 27 = .bool true from hP 27 (hp 27 (by decide)))
        rw [if_pos (AnyO.wanted_none rfl)]
        clear hb hp
        clear hC
        clear h0
        have HP := Lib.hid hP
        have HWq := Lib.hid hW
        clear hP hW
        go_simp
        have hP := HP.out
        have hW := HWq.out
        clear HP HWq
        exact hK _ _ (AnyO.InvG.step (g := σ) hP rfl hW)
    · -- 29: Op.store 32 (Operand.tmp 6) (Operand.tmp 64)
      refine AnyO.StepI.mk rfl [0, 25, 0] (by kernel_rfl) ?_
      intro D vs u hI h0 hC hp ac hb K hK
      obtain ⟨σ, hP, hW⟩ := hI
      have s6 : ac.tmps[6]?.getD undef = .pointer (some ⟨g6, 0, none⟩) := by rw [hb]; kernel_rfl
      have s64 : ac.tmps[64]?.getD undef = vR r2 := by rw [hb]; exact (show _ = vs 0 by kernel_rfl).trans (show vs 0 = vR r2 from hP 0 (hp 0 (by decide)))
      rw [if_pos (AnyO.wanted_none rfl)]
      clear hb hp
      have RR := hW.row (g := g6) (cs := cR zR) (ty := 32) (by rw [h0]; exact List.mem_cons_self)
      have rr := RR.rok (cR_length zR)
      clear RR
      clear hC
      have HP := Lib.hid hP
      have HWq := Lib.hid hW
      clear hP hW
      go_simp
      have hP := HP.out
      have hW := HWq.out
      clear HP HWq
      rw [h0] at hW
      refine hK undef _ (AnyO.InvG.step (g := σ) hP trivial ?_)
      exact InvR.setRow (cs := cR zR) hW HG.out.1 HG.out.2 (cR r2)
    · -- 30: Op.assign (Operand.tmp 92)
      refine AnyO.StepI.mk rfl [28, 29, 0, 1, 2, 3, 4, 5, 6, 7, 8, 9, 10, 11, 12, 13, 14, 15, 16, 17, 18, 19, 20, 21, 22, 23, 24, 25, 26, 27, 28, 29] (by kernel_rfl) ?_
      intro D vs u hI h0 hC hp ac hb K hK
      obtain ⟨σ, hP, hW⟩ := hI
      have s92 : ac.tmps[92]?.getD undef = .bool q2 := by rw [hb]; exact (show _ = vs 28 by kernel_rfl).trans (show vs 28 = .bool q2 from hP 28 (hp 28 (by decide)))
      rw [if_pos (AnyO.wanted_none rfl)]
      clear hb hp
      clear hC
      clear h0
      have HP := Lib.hid hP
      have HWq := Lib.hid hW
      clear hP hW
      go_simp
      have hP := HP.out
      have hW := HWq.out
      clear HP HWq
      exact hK _ _ (AnyO.InvG.step (g := σ) hP rfl hW)
  · intro D vs u hI hD
    obtain ⟨σ, hP, hW⟩ := hI
    have e0 : vs 0 = vR r2 := hP 0 (hD 0 (by decide))
    have e1 : vs 1 = .bool b1 := hP 1 (hD 1 (by decide))
    have e2 : vs 2 = .bool b2 := hP 2 (hD 2 (by decide))
    have e3 : vs 3 = .bool q1 := hP 3 (hD 3 (by decide))
    have e4 : vs 4 = .bool q1 := hP 4 (hD 4 (by decide))
    have e5 : vs 5 = (bif q1 then vC c1 else undef) := hP 5 (hD 5 (by decide))
    have e6 : vs 6 = (bif q1 then vK (ofS c1) else undef) := hP 6 (hD 6 (by decide))
    have e7 : vs 7 = (bif q1 then vK k2 else undef) := hP 7 (hD 7 (by decide))
    have e8 : vs 8 = (bif q1 then .bool x1 else undef) := hP 8 (hD 8 (by decide))
    have e9 : vs 9 = .bool q2 := hP 9 (hD 9 (by decide))
    have e10 : vs 10 = .bool q2 := hP 10 (hD 10 (by decide))
    have e11 : vs 11 = (bif q2 then .pointer (some ⟨g11, 1, none⟩) else undef) := hP 11 (hD 11 (by decide))
    have e12 : vs 12 = (bif q2 then .string ⟨#[]⟩ else undef) := hP 12 (hD 12 (by decide))
    have e13 : vs 13 = (bif q2 then .bool true else undef) := hP 13 (hD 13 (by decide))
    have e14 : vs 14 = .bool q2 := hP 14 (hD 14 (by decide))
    have e15 : vs 15 = .bool q2 := hP 15 (hD 15 (by decide))
    have e16 : vs 16 = (bif q2 then .pointer (some ⟨g11, 36, none⟩) else undef) := hP 16 (hD 16 (by decide))
    have e17 : vs 17 = (bif q2 then .int .i64 0 else undef) := hP 17 (hD 17 (by decide))
    have e18 : vs 18 = (bif q2 then .bool true else undef) := hP 18 (hD 18 (by decide))
    have e19 : vs 19 = .bool q2 := hP 19 (hD 19 (by decide))
    have e20 : vs 20 = .bool q2 := hP 20 (hD 20 (by decide))
    have e21 : vs 21 = (bif q2 then .bool b1 else undef) := hP 21 (hD 21 (by decide))
    have e22 : vs 22 = (bif q2 then .bool (!b1) else undef) := hP 22 (hD 22 (by decide))
    have e23 : vs 23 = (bif q2 then .bool (!b1) else undef) := hP 23 (hD 23 (by decide))
    have e24 : vs 24 = (bif (q2 && b1) then vC c1 else undef) := hP 24 (hD 24 (by decide))
    have e25 : vs 25 = (bif (q2 && b1) then .int .i64 0 else undef) := hP 25 (hD 25 (by decide))
    have e26 : vs 26 = (bif (q2 && b1) then .bool true else undef) := hP 26 (hD 26 (by decide))
    have e27 : vs 27 = (bif q2 then .bool true else undef) := hP 27 (hD 27 (by decide))
    have e28 : vs 28 = .bool q2 := hP 28 (hD 28 (by decide))
    have e30 : vs 30 = .bool q2 := hP 30 (hD 30 (by decide))
    rw [hD 29 (by decide)] at hW
    change InvR w0 b ch s1 s2 r2 ((g6, cR r2, 32) :: Lq) u at hW
    have HW := Lib.hid hW
    clear hW hP hD
    rw [puts_range [some 64, some 65, some 66, some 67, some 68, some 69, some 70, some 71, some 72, some 73, some 74, some 75, some 76, some 77, some 78, some 79, some 80, some 81, some 82, some 83, some 84, some 85, some 86, some 87, some 88, some 89, some 90, some 91, some 92, none, some 7] (by kernel_rfl)]
    simp only [putL, Nat.reduceAdd, e0, e1, e2, e3, e4, e5, e6, e7, e8, e9, e10, e11, e12, e13, e14, e15, e16, e17, e18, e19, e20, e21, e22, e23, e24, e25, e26, e27, e28, e30]
    clear e0 e1 e2 e3 e4 e5 e6 e7 e8 e9 e10 e11 e12 e13 e14 e15 e16 e17 e18 e19 e20 e21 e22 e23 e24 e25 e26 e27 e28 e30
    go_simp
    go_wp2
    exact bodyPost_ret (v := .tuple #[vR r2, .bool q2]) (results_c2 (ad := ⟨g6, 0, none⟩) rfl rfl (load_R (HW.out.row List.mem_cons_self)) rfl) rfl ⟨r2, q2, rfl, HE.out, HW.out.sub (by rw [hLq]; exact fun y hy => List.mem_cons_of_mem _ (List.mem_cons_of_mem _ (List.mem_cons_of_mem _ (List.mem_cons_of_mem _ hy))))⟩

end Go.Proofs.YtlelecnafdddhaaDoor
