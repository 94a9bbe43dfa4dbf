/- Equal of two senders. -/
import Derived.Test.YtlelecnafdddhaaDoorCmp2
namespace Go.Proofs.YtlelecnafdddhaaDoor
open Go.RowKit
def eqS (s t : St) : Bool := ((((s.state == t.state) && decide (s.cur = t.cur)) && (sentS s == sentS t)) && decide (s.wait = t.wait)) && decide (s.outs = t.outs)
theorem Rp.sent {b : Nat} {ch : Int} {s : St} {F : List Nat} {vw vo : Value} {q : Option Addr} {w : World} (h : Rp b ch s F vw vo q w) : Calls Tryd.prog 47 #[.pointer q] w fun e w' => e = .returned (.int .i64 (sentS s)) ∧ w' = w := by
  cases hs : s.snd with
  | none =>
    rw [h.none_ hs, show sentS s = 0 by unfold sentS; rw [hs]; rfl]
    exact sent47_nil w
  | some t =>
    obtain ⟨g, rfl, _, _, hr, _⟩ := h.some_ t hs
    rw [show sentS s = t.1 by unfold sentS; rw [hs]; rfl]
    exact sent47 g _ _ _ _ w hr
set_option maxRecDepth 100000 in
set_option maxHeartbeats 3200000 in
theorem equal27 (b d : Nat) (ch : Int) (s t : St) (F G : List Nat) (w : World) (hs : Rep b ch s F w) (ht : Rep d ch t G w) (hm : s.wait.length ≤ 100000) (hm2 : s.outs.length ≤ 100000) : Calls Tryd.prog 27 #[.pointer (some ⟨b, 0, none⟩), .pointer (some ⟨d, 0, none⟩)] w fun e w' => e = .returned (.bool (eqS s t)) ∧ Below w.heap.size w w' := by
  obtain ⟨vw, vo, p1, h1⟩ := hs
  obtain ⟨vx, vy, p2, h2⟩ := ht
  obtain ⟨A1, c1, rfl, _, sl1⟩ := h1.ow.sl
  obtain ⟨A2, c2, rfl, _, sl2⟩ := h2.ow.sl
  obtain ⟨A3, c3, rfl, _, sl3⟩ := h1.oo.sl
  obtain ⟨A4, c4, rfl, _, sl4⟩ := h2.oo.sl
  obtain ⟨l1, hl1⟩ : ∃ l, s.wait.length = l := ⟨_, rfl⟩
  obtain ⟨l2, hl2⟩ : ∃ l, t.wait.length = l := ⟨_, rfl⟩
  obtain ⟨l3, hl3⟩ : ∃ l, s.outs.length = l := ⟨_, rfl⟩
  obtain ⟨l4, hl4⟩ : ∃ l, t.outs.length = l := ⟨_, rfl⟩
  rw [hl1, hl3] at h1
  rw [hl2, hl4] at h2
  rw [hl1] at hm
  rw [hl3] at hm2
  obtain ⟨st, hst⟩ : ∃ x, s.state = x := ⟨_, rfl⟩
  obtain ⟨su, hsu⟩ : ∃ x, t.state = x := ⟨_, rfl⟩
  obtain ⟨ca, hca⟩ : ∃ x, s.cur = x := ⟨_, rfl⟩
  obtain ⟨cb, hcb⟩ : ∃ x, t.cur = x := ⟨_, rfl⟩
  obtain ⟨n1, hn1⟩ : ∃ x, sentS s = x := ⟨_, rfl⟩
  obtain ⟨n2, hn2⟩ : ∃ x, sentS t = x := ⟨_, rfl⟩
  obtain ⟨q2, e2⟩ : ∃ q, (st == su) = q := ⟨_, rfl⟩
  obtain ⟨x3, e3⟩ : ∃ q, decide (ca = cb) = q := ⟨_, rfl⟩
  obtain ⟨x4, e4⟩ : ∃ q, (n1 == n2) = q := ⟨_, rfl⟩
  obtain ⟨x5, e5⟩ : ∃ q, decide (s.wait = t.wait) = q := ⟨_, rfl⟩
  obtain ⟨x6, e6⟩ : ∃ q, decide (s.outs = t.outs) = q := ⟨_, rfl⟩
  obtain ⟨q3, f3⟩ : ∃ q, (q2 && x3) = q := ⟨_, rfl⟩
  obtain ⟨q4, f4⟩ : ∃ q, (q3 && x4) = q := ⟨_, rfl⟩
  obtain ⟨q5, f5⟩ : ∃ q, (q4 && x5) = q := ⟨_, rfl⟩
  obtain ⟨q6, f6⟩ : ∃ q, (q5 && x6) = q := ⟨_, rfl⟩
  have hq : eqS s t = q6 := by unfold eqS; rw [hst, hsu, hca, hcb, hn1, hn2, e2, e3, e4, e5, e6, f3, f4, f5, f6]
  have HE := Lib.hid (And.intro e2 (And.intro e3 (And.intro e4 (And.intro e5 (And.intro e6 hq)))))
  have HQ3 := Lib.hid f3
  have HQ4 := Lib.hid f4
  have HQ5 := Lib.hid f5
  have HQ6 := Lib.hid f6
  have HV := Lib.hid (And.intro hst (And.intro hsu (And.intro hca (And.intro hcb (And.intro hn1 hn2)))))
  have H1 := Lib.hid h1
  have H2 := Lib.hid h2
  have HS := Lib.hid (And.intro (And.intro hl1 (And.intro sl1 hm)) (And.intro (And.intro hl2 (And.intro sl2 trivial)) (And.intro (And.intro hl3 (And.intro sl3 hm2)) (And.intro hl4 sl4))))
  clear e2 e3 e4 e5 e6 hq f3 f4 f5 f6 hst hsu hca hcb hn1 hn2 h1 h2 hl1 hl2 hl3 hl4 sl1 sl2 sl3 sl4 hm hm2
  go_enter Tryd.func27, Tryd.ntmps27
  go_wp2
  refine AnyO.wp_anyI (by kernel_rfl) (by kernel_rfl) (AnyO.InvG (σ := Unit) (fun σ => AnyO.pvL [some (.pointer (some ⟨b, 0, none⟩)), some (.pointer (some ⟨b, 0, none⟩)), some (.pointer (some ⟨b, 0, none⟩)), some (.int .i64 ch), some (.pointer (some ⟨d, 0, none⟩)), some (.pointer (some ⟨d, 0, none⟩)), some (.pointer (some ⟨d, 0, none⟩)), some (.int .i64 ch), some (.bool true), some (.bool true), some (.pointer (some ⟨b, 0, none⟩)), some (.pointer (some ⟨b, 0, none⟩)), some (.pointer (some ⟨b, 2, none⟩)), some (.int .i64 st), some (.pointer (some ⟨d, 0, none⟩)), some (.pointer (some ⟨d, 0, none⟩)), some (.pointer (some ⟨d, 2, none⟩)), some (.int .i64 su), some (.bool q2), some (.bool q2), some (.bool q2), some (bif q2 then .pointer (some ⟨b, 0, none⟩) else undef), some (bif q2 then .pointer (some ⟨b, 0, none⟩) else undef), some (bif q2 then .pointer (some ⟨b, 3, none⟩) else undef), some (bif q2 then .pointer (some ⟨b, 3, none⟩) else undef), some (bif q2 then vA ca else undef), some (bif q2 then .pointer (some ⟨d, 0, none⟩) else undef), some (bif q2 then .pointer (some ⟨d, 0, none⟩) else undef), some (bif q2 then .pointer (some ⟨d, 3, none⟩) else undef), some (bif q2 then .pointer (some ⟨d, 3, none⟩) else undef), some (bif q2 then vA cb else undef), some (bif q2 then .bool x3 else undef), some (.bool q3), some (.bool q3), some (bif q3 then .pointer (some ⟨b, 0, none⟩) else undef), some (bif q3 then .pointer (some ⟨b, 0, none⟩) else undef), some (bif q3 then .pointer (some ⟨b, 3, none⟩) else undef), some (bif q3 then .pointer (some ⟨b, 36, none⟩) else undef), some (bif q3 then .pointer p1 else undef), some (bif q3 then .int .i64 n1 else undef), some (bif q3 then .pointer (some ⟨d, 0, none⟩) else undef), some (bif q3 then .pointer (some ⟨d, 0, none⟩) else undef), some (bif q3 then .pointer (some ⟨d, 3, none⟩) else undef), some (bif q3 then .pointer (some ⟨d, 36, none⟩) else undef), some (bif q3 then .pointer p2 else undef), some (bif q3 then .int .i64 n2 else undef), some (bif q3 then .bool x4 else undef), some (.bool q4), some (.bool q4), some (bif q4 then .pointer (some ⟨b, 0, none⟩) else undef), some (bif q4 then .pointer (some ⟨b, 0, none⟩) else undef), some (bif q4 then .pointer (some ⟨b, 1, none⟩) else undef), some (bif q4 then .slice A1 l1 c1 else undef), some (bif q4 then .pointer (some ⟨d, 0, none⟩) else undef), some (bif q4 then .pointer (some ⟨d, 0, none⟩) else undef), some (bif q4 then .pointer (some ⟨d, 1, none⟩) else undef), some (bif q4 then .slice A2 l2 c2 else undef), some (bif q4 then .bool x5 else undef), some (.bool q5), some (.bool q5), some (bif q5 then .pointer (some ⟨b, 0, none⟩) else undef), some (bif q5 then .pointer (some ⟨b, 0, none⟩) else undef), some (bif q5 then .pointer (some ⟨b, 37, none⟩) else undef), some (bif q5 then .slice A3 l3 c3 else undef), some (bif q5 then .pointer (some ⟨d, 0, none⟩) else undef), some (bif q5 then .pointer (some ⟨d, 0, none⟩) else undef), some (bif q5 then .pointer (some ⟨d, 37, none⟩) else undef), some (bif q5 then .slice A4 l4 c4 else undef), some (bif q5 then .bool x6 else undef), some (.bool q6), some (.bool q6)]) (fun _ _ u => Below w.heap.size w u)) (AnyO.InvG.start (g := ()) ((Below.refl _ _).drew)) ?_ ?_
  · intro i hi
    have hi2 : i = 0 ∨ i = 1 ∨ i = 2 ∨ i = 3 ∨ i = 4 ∨ i = 5 ∨ i = 6 ∨ i = 7 ∨ i = 8 ∨ i = 9 ∨ i = 10 ∨ i = 11 ∨ i = 12 ∨ i = 13 ∨ i = 14 ∨ i = 15 ∨ i = 16 ∨ i = 17 ∨ i = 18 ∨ i = 19 ∨ i = 20 ∨ i = 21 ∨ i = 22 ∨ i = 23 ∨ i = 24 ∨ i = 25 ∨ i = 26 ∨ i = 27 ∨ i = 28 ∨ i = 29 ∨ i = 30 ∨ i = 31 ∨ i = 32 ∨ i = 33 ∨ i = 34 ∨ i = 35 ∨ i = 36 ∨ i = 37 ∨ i = 38 ∨ i = 39 ∨ i = 40 ∨ i = 41 ∨ i = 42 ∨ i = 43 ∨ i = 44 ∨ i = 45 ∨ i = 46 ∨ i = 47 ∨ i = 48 ∨ i = 49 ∨ i = 50 ∨ i = 51 ∨ i = 52 ∨ i = 53 ∨ i = 54 ∨ i = 55 ∨ i = 56 ∨ i = 57 ∨ i = 58 ∨ i = 59 ∨ i = 60 ∨ i = 61 ∨ i = 62 ∨ i = 63 ∨ i = 64 ∨ i = 65 ∨ i = 66 ∨ i = 67 ∨ i = 68 ∨ i = 69 ∨ i = 70 := by simp only [List.size_toArray, List.append_eq, List.length_append, List.length_cons, List.length_nil] at hi; omega
    clear hi
    rcases hi2 with rfl | rfl | rfl | rfl | rfl | rfl | rfl | rfl | rfl | rfl | rfl | rfl | rfl | rfl | rfl | rfl | rfl | rfl | rfl | rfl | rfl | rfl | rfl | rfl | rfl | rfl | rfl | rfl | rfl | rfl | rfl | rfl | rfl | rfl | rfl | rfl | rfl | rfl | rfl | rfl | rfl | rfl | rfl | rfl | rfl | rfl | rfl | rfl | rfl | rfl | rfl | rfl | rfl | rfl | rfl | rfl | rfl | rfl | rfl | rfl | rfl | rfl | rfl | rfl | rfl | rfl | rfl | rfl | rfl | rfl | rfl
    · -- 0: Op.move (Operand.tmp 0)
      refine AnyO.StepI.mk rfl [] (by kernel_rfl) ?_
      intro D vs u hI h0 hC hp ac hb K hK
      obtain ⟨σ, hP, hW⟩ := hI
      have s0 : ac.tmps[0]?.getD undef = .pointer (some ⟨b, 0, none⟩) := by rw [hb]; kernel_rfl
      rw [if_pos (AnyO.wanted_none rfl)]
      clear hb hp
      clear hC
      clear h0
      have HP := Lib.hid hP
      have HWq := Lib.hid hW
      clear hP hW
      go_simp
      have hP := HP.out
      have hW := HWq.out
      clear HP HWq
      exact hK _ _ (AnyO.InvG.step (g := σ) hP rfl hW)
    · -- 1: Op.nilCheck (Operand.tmp 17)
      refine AnyO.StepI.mk rfl [0] (by kernel_rfl) ?_
      intro D vs u hI h0 hC hp ac hb K hK
      obtain ⟨σ, hP, hW⟩ := hI
      have s17 : ac.tmps[17]?.getD undef = .pointer (some ⟨b, 0, none⟩) := by rw [hb]; exact (show _ = vs 0 by kernel_rfl).trans (show vs 0 = .pointer (some ⟨b, 0, none⟩) from hP 0 (hp 0 (by decide)))
      rw [if_pos (AnyO.wanted_none rfl)]
      clear hb hp
      clear hC
      clear h0
      have HP := Lib.hid hP
      have HWq := Lib.hid hW
      clear hP hW
      go_simp
      have hP := HP.out
      have hW := HWq.out
      clear HP HWq
      exact hK _ _ (AnyO.InvG.step (g := σ) hP rfl hW)
    · -- 2: Op.fieldAddr 91 (Operand.tmp 18) 0
      refine AnyO.StepI.mk rfl [1] (by kernel_rfl) ?_
      intro D vs u hI h0 hC hp ac hb K hK
      obtain ⟨σ, hP, hW⟩ := hI
      have s18 : ac.tmps[18]?.getD undef = .pointer (some ⟨b, 0, none⟩) := by rw [hb]; exact (show _ = vs 1 by kernel_rfl).trans (show vs 1 = .pointer (some ⟨b, 0, none⟩) from hP 1 (hp 1 (by decide)))
      rw [if_pos (AnyO.wanted_none rfl)]
      clear hb hp
      clear hC
      clear h0
      have HP := Lib.hid hP
      have HWq := Lib.hid hW
      clear hP hW
      go_simp
      have hP := HP.out
      have hW := HWq.out
      clear HP HWq
      exact hK _ _ (AnyO.InvG.step (g := σ) hP rfl hW)
    · -- 3: Op.load 3 (Operand.tmp 19)
      refine AnyO.StepI.mk rfl [2] (by kernel_rfl) ?_
      intro D vs u hI h0 hC hp ac hb K hK
      obtain ⟨σ, hP, hW⟩ := hI
      have s19 : ac.tmps[19]?.getD undef = .pointer (some ⟨b, 0, none⟩) := by rw [hb]; exact (show _ = vs 2 by kernel_rfl).trans (show vs 2 = .pointer (some ⟨b, 0, none⟩) from hP 2 (hp 2 (by decide)))
      rw [if_pos (AnyO.wanted_none rfl)]
      clear hb hp
      have rr := (H1.out.keep hW).c0
      clear hC
      clear h0
      have HP := Lib.hid hP
      have HWq := Lib.hid hW
      clear hP hW
      go_simp
      have hP := HP.out
      have hW := HWq.out
      clear HP HWq
      exact hK _ _ (AnyO.InvG.step (g := σ) hP rfl hW)
    · -- 4: Op.move (Operand.tmp 1)
      refine AnyO.StepI.mk rfl [] (by kernel_rfl) ?_
      intro D vs u hI h0 hC hp ac hb K hK
      obtain ⟨σ, hP, hW⟩ := hI
      have s1 : ac.tmps[1]?.getD undef = .pointer (some ⟨d, 0, none⟩) := by rw [hb]; kernel_rfl
      rw [if_pos (AnyO.wanted_none rfl)]
      clear hb hp
      clear hC
      clear h0
      have HP := Lib.hid hP
      have HWq := Lib.hid hW
      clear hP hW
      go_simp
      have hP := HP.out
      have hW := HWq.out
      clear HP HWq
      exact hK _ _ (AnyO.InvG.step (g := σ) hP rfl hW)
    · -- 5: Op.nilCheck (Operand.tmp 21)
      refine AnyO.StepI.mk rfl [4] (by kernel_rfl) ?_
      intro D vs u hI h0 hC hp ac hb K hK
      obtain ⟨σ, hP, hW⟩ := hI
      have s21 : ac.tmps[21]?.getD undef = .pointer (some ⟨d, 0, none⟩) := by rw [hb]; exact (show _ = vs 4 by kernel_rfl).trans (show vs 4 = .pointer (some ⟨d, 0, none⟩) from hP 4 (hp 4 (by decide)))
      rw [if_pos (AnyO.wanted_none rfl)]
      clear hb hp
      clear hC
      clear h0
      have HP := Lib.hid hP
      have HWq := Lib.hid hW
      clear hP hW
      go_simp
      have hP := HP.out
      have hW := HWq.out
      clear HP HWq
      exact hK _ _ (AnyO.InvG.step (g := σ) hP rfl hW)
    · -- 6: Op.fieldAddr 91 (Operand.tmp 22) 0
      refine AnyO.StepI.mk rfl [5] (by kernel_rfl) ?_
      intro D vs u hI h0 hC hp ac hb K hK
      obtain ⟨σ, hP, hW⟩ := hI
      have s22 : ac.tmps[22]?.getD undef = .pointer (some ⟨d, 0, none⟩) := by rw [hb]; exact (show _ = vs 5 by kernel_rfl).trans (show vs 5 = .pointer (some ⟨d, 0, none⟩) from hP 5 (hp 5 (by decide)))
      rw [if_pos (AnyO.wanted_none rfl)]
      clear hb hp
      clear hC
      clear h0
      have HP := Lib.hid hP
      have HWq := Lib.hid hW
      clear hP hW
      go_simp
      have hP := HP.out
      have hW := HWq.out
      clear HP HWq
      exact hK _ _ (AnyO.InvG.step (g := σ) hP rfl hW)
    · -- 7: Op.load 3 (Operand.tmp 23)
      refine AnyO.StepI.mk rfl [6] (by kernel_rfl) ?_
      intro D vs u hI h0 hC hp ac hb K hK
      obtain ⟨σ, hP, hW⟩ := hI
      have s23 : ac.tmps[23]?.getD undef = .pointer (some ⟨d, 0, none⟩) := by rw [hb]; exact (show _ = vs 6 by kernel_rfl).trans (show vs 6 = .pointer (some ⟨d, 0, none⟩) from hP 6 (hp 6 (by decide)))
      rw [if_pos (AnyO.wanted_none rfl)]
      clear hb hp
      have rr := (H2.out.keep hW).c0
      clear hC
      clear h0
      have HP := Lib.hid hP
      have HWq := Lib.hid hW
      clear hP hW
      go_simp
      have hP := HP.out
      have hW := HWq.out
      clear HP HWq
      exact hK _ _ (AnyO.InvG.step (g := σ) hP rfl hW)
    · -- 8: Op.binOp BinOp.eql 3 (Operand.tmp 20) (Operand.tmp 24) 3
      refine AnyO.StepI.mk rfl [3, 7] (by kernel_rfl) ?_
      intro D vs u hI h0 hC hp ac hb K hK
      obtain ⟨σ, hP, hW⟩ := hI
      have s20 : ac.tmps[20]?.getD undef = .int .i64 ch := by rw [hb]; exact (show _ = vs 3 by kernel_rfl).trans (show vs 3 = .int .i64 ch from hP 3 (hp 3 (by decide)))
      have s24 : ac.tmps[24]?.getD undef = .int .i64 ch := by rw [hb]; exact (show _ = vs 7 by kernel_rfl).trans (show vs 7 = .int .i64 ch from hP 7 (hp 7 (by decide)))
      rw [if_pos (AnyO.wanted_none rfl)]
      clear hb hp
      clear hC
      clear h0
      have HP := Lib.hid hP
      have HWq := Lib.hid hW
      clear hP hW
      go_simp
      have hP := HP.out
      have hW := HWq.out
      clear HP HWq
      exact hK _ _ (AnyO.InvG.step (g := σ) hP rfl hW)
    · -- 9: Op.move (Operand.tmp 25)
      refine AnyO.StepI.mk rfl [8] (by kernel_rfl) ?_
      intro D vs u hI h0 hC hp ac hb K hK
      obtain ⟨σ, hP, hW⟩ := hI
      have s25 : ac.tmps[25]?.getD undef = .bool true := by rw [hb]; exact (show _ = vs 8 by kernel_rfl).trans (show vs 8 = .bool true from hP 8 (hp 8 (by decide)))
      rw [if_pos (AnyO.wanted_none rfl)]
      clear hb hp
      clear hC
      clear h0
      have HP := Lib.hid hP
      have HWq := Lib.hid hW
      clear hP hW
      go_simp
      have hP := HP.out
      have hW := HWq.out
      clear HP HWq
      exact hK _ _ (AnyO.InvG.step (g := σ) hP rfl hW)
    · -- 10: Op.move (Operand.tmp 0)
      refine AnyO.StepI.mk rfl [9] (by kernel_rfl) ?_
      intro D vs u hI h0 hC hp ac hb K hK
      obtain ⟨σ, hP, hW⟩ := hI
      have s0 : ac.tmps[0]?.getD undef = .pointer (some ⟨b, 0, none⟩) := by rw [hb]; kernel_rfl
      have s26 : ac.tmps[26]?.getD undef = .bool true := by rw [hb]; exact (show _ = vs 9 by kernel_rfl).trans (show vs 9 = .bool true from hP 9 (hp 9 (by decide)))
      rw [if_pos (AnyO.wanted_some (g := 9) (t := 26) (want := true) rfl rfl s26)]
      clear hb hp
      clear hC
      clear h0
      have HP := Lib.hid hP
      have HWq := Lib.hid hW
      clear hP hW
      go_simp
      have hP := HP.out
      have hW := HWq.out
      clear HP HWq
      exact hK _ _ (AnyO.InvG.step (g := σ) hP rfl hW)
    · -- 11: Op.nilCheck (Operand.tmp 27)
      refine AnyO.StepI.mk rfl [10, 9] (by kernel_rfl) ?_
      intro D vs u hI h0 hC hp ac hb K hK
      obtain ⟨σ, hP, hW⟩ := hI
      have s27 : ac.tmps[27]?.getD undef = .pointer (some ⟨b, 0, none⟩) := by rw [hb]; exact (show _ = vs 10 by kernel_rfl).trans (show vs 10 = .pointer (some ⟨b, 0, none⟩) from hP 10 (hp 10 (by decide)))
      have s26 : ac.tmps[26]?.getD undef = .bool true := by rw [hb]; exact (show _ = vs 9 by kernel_rfl).trans (show vs 9 = .bool true from hP 9 (hp 9 (by decide)))
      rw [if_pos (AnyO.wanted_some (g := 9) (t := 26) (want := true) rfl rfl s26)]
      clear hb hp
      clear hC
      clear h0
      have HP := Lib.hid hP
      have HWq := Lib.hid hW
      clear hP hW
      go_simp
      have hP := HP.out
      have hW := HWq.out
      clear HP HWq
      exact hK _ _ (AnyO.InvG.step (g := σ) hP rfl hW)
    · -- 12: Op.fieldAddr 91 (Operand.tmp 28) 2
      refine AnyO.StepI.mk rfl [11, 9] (by kernel_rfl) ?_
      intro D vs u hI h0 hC hp ac hb K hK
      obtain ⟨σ, hP, hW⟩ := hI
      have s28 : ac.tmps[28]?.getD undef = .pointer (some ⟨b, 0, none⟩) := by rw [hb]; exact (show _ = vs 11 by kernel_rfl).trans (show vs 11 = .pointer (some ⟨b, 0, none⟩) from hP 11 (hp 11 (by decide)))
      have s26 : ac.tmps[26]?.getD undef = .bool true := by rw [hb]; exact (show _ = vs 9 by kernel_rfl).trans (show vs 9 = .bool true from hP 9 (hp 9 (by decide)))
      rw [if_pos (AnyO.wanted_some (g := 9) (t := 26) (want := true) rfl rfl s26)]
      clear hb hp
      clear hC
      clear h0
      have HP := Lib.hid hP
      have HWq := Lib.hid hW
      clear hP hW
      go_simp
      have hP := HP.out
      have hW := HWq.out
      clear HP HWq
      exact hK _ _ (AnyO.InvG.step (g := σ) hP rfl hW)
    · -- 13: Op.load 3 (Operand.tmp 29)
      refine AnyO.StepI.mk rfl [12, 9] (by kernel_rfl) ?_
      intro D vs u hI h0 hC hp ac hb K hK
      obtain ⟨σ, hP, hW⟩ := hI
      have s29 : ac.tmps[29]?.getD undef = .pointer (some ⟨b, 2, none⟩) := by rw [hb]; exact (show _ = vs 12 by kernel_rfl).trans (show vs 12 = .pointer (some ⟨b, 2, none⟩) from hP 12 (hp 12 (by decide)))
      have s26 : ac.tmps[26]?.getD undef = .bool true := by rw [hb]; exact (show _ = vs 9 by kernel_rfl).trans (show vs 9 = .bool true from hP 9 (hp 9 (by decide)))
      rw [if_pos (AnyO.wanted_some (g := 9) (t := 26) (want := true) rfl rfl s26)]
      clear hb hp
      have rr := (H1.out.keep hW).c2
      rw [HV.out.1] at rr
      clear hC
      clear h0
      have HP := Lib.hid hP
      have HWq := Lib.hid hW
      clear hP hW
      go_simp
      have hP := HP.out
      have hW := HWq.out
      clear HP HWq
      exact hK _ _ (AnyO.InvG.step (g := σ) hP rfl hW)
    · -- 14: Op.move (Operand.tmp 1)
      refine AnyO.StepI.mk rfl [9] (by kernel_rfl) ?_
      intro D vs u hI h0 hC hp ac hb K hK
      obtain ⟨σ, hP, hW⟩ := hI
      have s1 : ac.tmps[1]?.getD undef = .pointer (some ⟨d, 0, none⟩) := by rw [hb]; kernel_rfl
      have s26 : ac.tmps[26]?.getD undef = .bool true := by rw [hb]; exact (show _ = vs 9 by kernel_rfl).trans (show vs 9 = .bool true from hP 9 (hp 9 (by decide)))
      rw [if_pos (AnyO.wanted_some (g := 9) (t := 26) (want := true) rfl rfl s26)]
      clear hb hp
      clear hC
      clear h0
      have HP := Lib.hid hP
      have HWq := Lib.hid hW
      clear hP hW
      go_simp
      have hP := HP.out
      have hW := HWq.out
      clear HP HWq
      exact hK _ _ (AnyO.InvG.step (g := σ) hP rfl hW)
    · -- 15: Op.nilCheck (Operand.tmp 31)
      refine AnyO.StepI.mk rfl [14, 9] (by kernel_rfl) ?_
      intro D vs u hI h0 hC hp ac hb K hK
      obtain ⟨σ, hP, hW⟩ := hI
      have s31 : ac.tmps[31]?.getD undef = .pointer (some ⟨d, 0, none⟩) := by rw [hb]; exact (show _ = vs 14 by kernel_rfl).trans (show vs 14 = .pointer (some ⟨d, 0, none⟩) from hP 14 (hp 14 (by decide)))
      have s26 : ac.tmps[26]?.getD undef = .bool true := by rw [hb]; exact (show _ = vs 9 by kernel_rfl).trans (show vs 9 = .bool true from hP 9 (hp 9 (by decide)))
      rw [if_pos (AnyO.wanted_some (g := 9) (t := 26) (want := true) rfl rfl s26)]
      clear hb hp
      clear hC
      clear h0
      have HP := Lib.hid hP
      have HWq := Lib.hid hW
      clear hP hW
      go_simp
      have hP := HP.out
      have hW := HWq.out
      clear HP HWq
      exact hK _ _ (AnyO.InvG.step (g := σ) hP rfl hW)
    · -- 16: Op.fieldAddr 91 (Operand.tmp 32) 2
      refine AnyO.StepI.mk rfl [15, 9] (by kernel_rfl) ?_
      intro D vs u hI h0 hC hp ac hb K hK
      obtain ⟨σ, hP, hW⟩ := hI
      have s32 : ac.tmps[32]?.getD undef = .pointer (some ⟨d, 0, none⟩) := by rw [hb]; exact (show _ = vs 15 by kernel_rfl).trans (show vs 15 = .pointer (some ⟨d, 0, none⟩) from hP 15 (hp 15 (by decide)))
      have s26 : ac.tmps[26]?.getD undef = .bool true := by rw [hb]; exact (show _ = vs 9 by kernel_rfl).trans (show vs 9 = .bool true from hP 9 (hp 9 (by decide)))
      rw [if_pos (AnyO.wanted_some (g := 9) (t := 26) (want := true) rfl rfl s26)]
      clear hb hp
      clear hC
      clear h0
      have HP := Lib.hid hP
      have HWq := Lib.hid hW
      clear hP hW
      go_simp
      have hP := HP.out
      have hW := HWq.out
      clear HP HWq
      exact hK _ _ (AnyO.InvG.step (g := σ) hP rfl hW)
    · -- 17: Op.load 3 (Operand.tmp 33)
      refine AnyO.StepI.mk rfl [16, 9] (by kernel_rfl) ?_
      intro D vs u hI h0 hC hp ac hb K hK
      obtain ⟨σ, hP, hW⟩ := hI
      have s33 : ac.tmps[33]?.getD undef = .pointer (some ⟨d, 2, none⟩) := by rw [hb]; exact (show _ = vs 16 by kernel_rfl).trans (show vs 16 = .pointer (some ⟨d, 2, none⟩) from hP 16 (hp 16 (by decide)))
      have s26 : ac.tmps[26]?.getD undef = .bool true := by rw [hb]; exact (show _ = vs 9 by kernel_rfl).trans (show vs 9 = .bool true from hP 9 (hp 9 (by decide)))
      rw [if_pos (AnyO.wanted_some (g := 9) (t := 26) (want := true) rfl rfl s26)]
      clear hb hp
      have rr := (H2.out.keep hW).c2
      rw [HV.out.2.1] at rr
      clear hC
      clear h0
      have HP := Lib.hid hP
      have HWq := Lib.hid hW
      clear hP hW
      go_simp
      have hP := HP.out
      have hW := HWq.out
      clear HP HWq
      exact hK _ _ (AnyO.InvG.step (g := σ) hP rfl hW)
    · -- 18: Op.binOp BinOp.eql 3 (Operand.tmp 30) (Operand.tmp 34) 3
      refine AnyO.StepI.mk rfl [13, 17, 9] (by kernel_rfl) ?_
      intro D vs u hI h0 hC hp ac hb K hK
      obtain ⟨σ, hP, hW⟩ := hI
      have s30 : ac.tmps[30]?.getD undef = .int .i64 st := by rw [hb]; exact (show _ = vs 13 by kernel_rfl).trans (show vs 13 = .int .i64 st from hP 13 (hp 13 (by decide)))
      have s34 : ac.tmps[34]?.getD undef = .int .i64 su := by rw [hb]; exact (show _ = vs 17 by kernel_rfl).trans (show vs 17 = .int .i64 su from hP 17 (hp 17 (by decide)))
      have s26 : ac.tmps[26]?.getD undef = .bool true := by rw [hb]; exact (show _ = vs 9 by kernel_rfl).trans (show vs 9 = .bool true from hP 9 (hp 9 (by decide)))
      rw [if_pos (AnyO.wanted_some (g := 9) (t := 26) (want := true) rfl rfl s26)]
      clear hb hp
      have e := HE.out.1
      clear hC
      clear h0
      have HP := Lib.hid hP
      have HWq := Lib.hid hW
      clear hP hW
      go_simp
      have hP := HP.out
      have hW := HWq.out
      clear HP HWq
      exact hK _ _ (AnyO.InvG.step (g := σ) hP rfl hW)
    · -- 19: Op.pick (Operand.tmp 26) (Operand.tmp 35) (Operand.const (Va
      refine AnyO.StepI.mk rfl [9, 18] (by kernel_rfl) ?_
      intro D vs u hI h0 hC hp ac hb K hK
      obtain ⟨σ, hP, hW⟩ := hI
      have s26 : ac.tmps[26]?.getD undef = .bool true := by rw [hb]; exact (show _ = vs 9 by kernel_rfl).trans (show vs 9 = .bool true from hP 9 (hp 9 (by decide)))
      have s35 : ac.tmps[35]?.getD undef = .bool q2 := by rw [hb]; exact (show _ = vs 18 by kernel_rfl).trans (show vs 18 = .bool q2 from hP 18 (hp 18 (by decide)))
      rw [if_pos (AnyO.wanted_none rfl)]
      clear hb hp
      clear hC
      clear h0
      have HP := Lib.hid hP
      have HWq := Lib.hid hW
      clear hP hW
      go_simp
      have hP := HP.out
      have hW := HWq.out
      clear HP HWq
      exact hK _ _ (AnyO.InvG.step (g := σ) hP rfl hW)
    · -- 20: Op.move (Operand.tmp 36)
      refine AnyO.StepI.mk rfl [19, 9] (by kernel_rfl) ?_
      intro D vs u hI h0 hC hp ac hb K hK
      obtain ⟨σ, hP, hW⟩ := hI
      have s36 : ac.tmps[36]?.getD undef = .bool q2 := by rw [hb]; exact (show _ = vs 19 by kernel_rfl).trans (show vs 19 = .bool q2 from hP 19 (hp 19 (by decide)))
      rw [if_pos (AnyO.wanted_none rfl)]
      clear hb hp
      clear hC
      clear h0
      have HP := Lib.hid hP
      have HWq := Lib.hid hW
      clear hP hW
      go_simp
      have hP := HP.out
      have hW := HWq.out
      clear HP HWq
      exact hK _ _ (AnyO.InvG.step (g := σ) hP rfl hW)
    · -- 21: Op.move (Operand.tmp 0)
      refine AnyO.StepI.mk rfl [20] (by kernel_rfl) ?_
      intro D vs u hI h0 hC hp ac hb K hK
      obtain ⟨σ, hP, hW⟩ := hI
      rcases q2 with _ | _
      · have s0 : ac.tmps[0]?.getD undef = .pointer (some ⟨b, 0, none⟩) := by rw [hb]; kernel_rfl
        have s37 : ac.tmps[37]?.getD undef = .bool false := by rw [hb]; exact (show _ = vs 20 by kernel_rfl).trans (show vs 20 = .bool false from hP 20 (hp 20 (by decide)))
        rw [if_neg (AnyO.wanted_not (g := 20) (t := 37) (want := true) rfl rfl s37 (fun e => by cases e))]
        exact hK undef _ (AnyO.InvG.step (g := σ) hP rfl hW)
      · have s0 : ac.tmps[0]?.getD undef = .pointer (some ⟨b, 0, none⟩) := by rw [hb]; kernel_rfl
        have s37 : ac.tmps[37]?.getD undef = .bool true := by rw [hb]; exact (show _ = vs 20 by kernel_rfl).trans (show vs 20 = .bool true from hP 20 (hp 20 (by decide)))
        rw [if_pos (AnyO.wanted_some (g := 20) (t := 37) (want := true) rfl rfl s37)]
        clear hb hp
        clear hC
        clear h0
        have HP := Lib.hid hP
        have HWq := Lib.hid hW
        clear hP hW
        go_simp
        have hP := HP.out
        have hW := HWq.out
        clear HP HWq
        exact hK _ _ (AnyO.InvG.step (g := σ) hP rfl hW)
    · -- 22: Op.nilCheck (Operand.tmp 38)
      refine AnyO.StepI.mk rfl [21, 20] (by kernel_rfl) ?_
      intro D vs u hI h0 hC hp ac hb K hK
      obtain ⟨σ, hP, hW⟩ := hI
      rcases q2 with _ | _
      · have s38 : ac.tmps[38]?.getD undef = undef := by rw [hb]; exact (show _ = vs 21 by kernel_rfl).trans (show vs 21 = undef from hP 21 (hp 21 (by decide)))
        have s37 : ac.tmps[37]?.getD undef = .bool false := by rw [hb]; exact (show _ = vs 20 by kernel_rfl).trans (show vs 20 = .bool false from hP 20 (hp 20 (by decide)))
        rw [if_neg (AnyO.wanted_not (g := 20) (t := 37) (want := true) rfl rfl s37 (fun e => by cases e))]
        exact hK undef _ (AnyO.InvG.step (g := σ) hP rfl hW)
      · have s38 : ac.tmps[38]?.getD undef = .pointer (some ⟨b, 0, none⟩) := by rw [hb]; exact (show _ = vs 21 by kernel_rfl).trans (show vs 21 = .pointer (some ⟨b, 0, none⟩) from hP 21 (hp 21 (by decide)))
        have s37 : ac.tmps[37]?.getD undef = .bool true := by rw [hb]; exact (show _ = vs 20 by kernel_rfl).trans (show vs 20 = .bool true from hP 20 (hp 20 (by decide)))
        rw [if_pos (AnyO.wanted_some (g := 20) (t := 37) (want := true) rfl rfl s37)]
        clear hb hp
        clear hC
        clear h0
        have HP := Lib.hid hP
        have HWq := Lib.hid hW
        clear hP hW
        go_simp
        have hP := HP.out
        have hW := HWq.out
        clear HP HWq
        exact hK _ _ (AnyO.InvG.step (g := σ) hP rfl hW)
    · -- 23: Op.fieldAddr 91 (Operand.tmp 39) 3
      refine AnyO.StepI.mk rfl [22, 20] (by kernel_rfl) ?_
      intro D vs u hI h0 hC hp ac hb K hK
      obtain ⟨σ, hP, hW⟩ := hI
      rcases q2 with _ | _
      · have s39 : ac.tmps[39]?.getD undef = undef := by rw [hb]; exact (show _ = vs 22 by kernel_rfl).trans (show vs 22 = undef from hP 22 (hp 22 (by decide)))
        have s37 : ac.tmps[37]?.getD undef = .bool false := by rw [hb]; exact (show _ = vs 20 by kernel_rfl).trans (show vs 20 = .bool false from hP 20 (hp 20 (by decide)))
        rw [if_neg (AnyO.wanted_not (g := 20) (t := 37) (want := true) rfl rfl s37 (fun e => by cases e))]
        exact hK undef _ (AnyO.InvG.step (g := σ) hP rfl hW)
      · have s39 : ac.tmps[39]?.getD undef = .pointer (some ⟨b, 0, none⟩) := by rw [hb]; exact (show _ = vs 22 by kernel_rfl).trans (show vs 22 = .pointer (some ⟨b, 0, none⟩) from hP 22 (hp 22 (by decide)))
        have s37 : ac.tmps[37]?.getD undef = .bool true := by rw [hb]; exact (show _ = vs 20 by kernel_rfl).trans (show vs 20 = .bool true from hP 20 (hp 20 (by decide)))
        rw [if_pos (AnyO.wanted_some (g := 20) (t := 37) (want := true) rfl rfl s37)]
        clear hb hp
        clear hC
        clear h0
        have HP := Lib.hid hP
        have HWq := Lib.hid hW
        clear hP hW
        go_simp
        have hP := HP.out
        have hW := HWq.out
        clear HP HWq
        exact hK _ _ (AnyO.InvG.step (g := σ) hP rfl hW)
    · -- 24: Op.fieldAddr 89 (Operand.tmp 40) 0
      refine AnyO.StepI.mk rfl [23, 20] (by kernel_rfl) ?_
      intro D vs u hI h0 hC hp ac hb K hK
      obtain ⟨σ, hP, hW⟩ := hI
      rcases q2 with _ | _
      · have s40 : ac.tmps[40]?.getD undef = undef := by rw [hb]; exact (show _ = vs 23 by kernel_rfl).trans (show vs 23 = undef from hP 23 (hp 23 (by decide)))
        have s37 : ac.tmps[37]?.getD undef = .bool false := by rw [hb]; exact (show _ = vs 20 by kernel_rfl).trans (show vs 20 = .bool false from hP 20 (hp 20 (by decide)))
        rw [if_neg (AnyO.wanted_not (g := 20) (t := 37) (want := true) rfl rfl s37 (fun e => by cases e))]
        exact hK undef _ (AnyO.InvG.step (g := σ) hP rfl hW)
      · have s40 : ac.tmps[40]?.getD undef = .pointer (some ⟨b, 3, none⟩) := by rw [hb]; exact (show _ = vs 23 by kernel_rfl).trans (show vs 23 = .pointer (some ⟨b, 3, none⟩) from hP 23 (hp 23 (by decide)))
        have s37 : ac.tmps[37]?.getD undef = .bool true := by rw [hb]; exact (show _ = vs 20 by kernel_rfl).trans (show vs 20 = .bool true from hP 20 (hp 20 (by decide)))
        rw [if_pos (AnyO.wanted_some (g := 20) (t := 37) (want := true) rfl rfl s37)]
        clear hb hp
        clear hC
        clear h0
        have HP := Lib.hid hP
        have HWq := Lib.hid hW
        clear hP hW
        go_simp
        have hP := HP.out
        have hW := HWq.out
        clear HP HWq
        exact hK _ _ (AnyO.InvG.step (g := σ) hP rfl hW)
    · -- 25: Op.load 86 (Operand.tmp 41)
      refine AnyO.StepI.mk rfl [24, 20] (by kernel_rfl) ?_
      intro D vs u hI h0 hC hp ac hb K hK
      obtain ⟨σ, hP, hW⟩ := hI
      rcases q2 with _ | _
      · have s41 : ac.tmps[41]?.getD undef = undef := by rw [hb]; exact (show _ = vs 24 by kernel_rfl).trans (show vs 24 = undef from hP 24 (hp 24 (by decide)))
        have s37 : ac.tmps[37]?.getD undef = .bool false := by rw [hb]; exact (show _ = vs 20 by kernel_rfl).trans (show vs 20 = .bool false from hP 20 (hp 20 (by decide)))
        rw [if_neg (AnyO.wanted_not (g := 20) (t := 37) (want := true) rfl rfl s37 (fun e => by cases e))]
        exact hK undef _ (AnyO.InvG.step (g := σ) hP rfl hW)
      · have s41 : ac.tmps[41]?.getD undef = .pointer (some ⟨b, 3, none⟩) := by rw [hb]; exact (show _ = vs 24 by kernel_rfl).trans (show vs 24 = .pointer (some ⟨b, 3, none⟩) from hP 24 (hp 24 (by decide)))
        have s37 : ac.tmps[37]?.getD undef = .bool true := by rw [hb]; exact (show _ = vs 20 by kernel_rfl).trans (show vs 20 = .bool true from hP 20 (hp 20 (by decide)))
        rw [if_pos (AnyO.wanted_some (g := 20) (t := 37) (want := true) rfl rfl s37)]
        clear hb hp
        obtain ⟨rr1, rr2⟩ := (H1.out.keep hW).art
        rw [HV.out.2.2.1] at rr2
        clear hC
        clear h0
        have HP := Lib.hid hP
        have HWq := Lib.hid hW
        clear hP hW
        go_simp
        have hP := HP.out
        have hW := HWq.out
        clear HP HWq
        exact hK _ _ (AnyO.InvG.step (g := σ) hP rfl hW)
    · -- 26: Op.move (Operand.tmp 1)
      refine AnyO.StepI.mk rfl [20] (by kernel_rfl) ?_
      intro D vs u hI h0 hC hp ac hb K hK
      obtain ⟨σ, hP, hW⟩ := hI
      rcases q2 with _ | _
      · have s1 : ac.tmps[1]?.getD undef = .pointer (some ⟨d, 0, none⟩) := by rw [hb]; kernel_rfl
        have s37 : ac.tmps[37]?.getD undef = .bool false := by rw [hb]; exact (show _ = vs 20 by kernel_rfl).trans (show vs 20 = .bool false from hP 20 (hp 20 (by decide)))
        rw [if_neg (AnyO.wanted_not (g := 20) (t := 37) (want := true) rfl rfl s37 (fun e => by cases e))]
        exact hK undef _ (AnyO.InvG.step (g := σ) hP rfl hW)
      · have s1 : ac.tmps[1]?.getD undef = .pointer (some ⟨d, 0, none⟩) := by rw [hb]; kernel_rfl
        have s37 : ac.tmps[37]?.getD undef = .bool true := by rw [hb]; exact (show _ = vs 20 by kernel_rfl).trans (show vs 20 = .bool true from hP 20 (hp 20 (by decide)))
        rw [if_pos (AnyO.wanted_some (g := 20) (t := 37) (want := true) rfl rfl s37)]
        clear hb hp
        clear hC
        clear h0
        have HP := Lib.hid hP
        have HWq := Lib.hid hW
        clear hP hW
        go_simp
        have hP := HP.out
        have hW := HWq.out
        clear HP HWq
        exact hK _ _ (AnyO.InvG.step (g := σ) hP rfl hW)
    · -- 27: Op.nilCheck (Operand.tmp 43)
      refine AnyO.StepI.mk rfl [26, 20] (by kernel_rfl) ?_
      intro D vs u hI h0 hC hp ac hb K hK
      obtain ⟨σ, hP, hW⟩ := hI
      rcases q2 with _ | _
      · have s43 : ac.tmps[43]?.getD undef = undef := by rw [hb]; exact (show _ = vs 26 by kernel_rfl).trans (show vs 26 = undef from hP 26 (hp 26 (by decide)))
        have s37 : ac.tmps[37]?.getD undef = .bool false := by rw [hb]; exact (show _ = vs 20 by kernel_rfl).trans (show vs 20 = .bool false from hP 20 (hp 20 (by decide)))
        rw [if_neg (AnyO.wanted_not (g := 20) (t := 37) (want := true) rfl rfl s37 (fun e => by cases e))]
        exact hK undef _ (AnyO.InvG.step (g := σ) hP rfl hW)
      · have s43 : ac.tmps[43]?.getD undef = .pointer (some ⟨d, 0, none⟩) := by rw [hb]; exact (show _ = vs 26 by kernel_rfl).trans (show vs 26 = .pointer (some ⟨d, 0, none⟩) from hP 26 (hp 26 (by decide)))
        have s37 : ac.tmps[37]?.getD undef = .bool true := by rw [hb]; exact (show _ = vs 20 by kernel_rfl).trans (show vs 20 = .bool true from hP 20 (hp 20 (by decide)))
        rw [if_pos (AnyO.wanted_some (g := 20) (t := 37) (want := true) rfl rfl s37)]
        clear hb hp
        clear hC
        clear h0
        have HP := Lib.hid hP
        have HWq := Lib.hid hW
        clear hP hW
        go_simp
        have hP := HP.out
        have hW := HWq.out
        clear HP HWq
        exact hK _ _ (AnyO.InvG.step (g := σ) hP rfl hW)
    · -- 28: Op.fieldAddr 91 (Operand.tmp 44) 3
      refine AnyO.StepI.mk rfl [27, 20] (by kernel_rfl) ?_
      intro D vs u hI h0 hC hp ac hb K hK
      obtain ⟨σ, hP, hW⟩ := hI
      rcases q2 with _ | _
      · have s44 : ac.tmps[44]?.getD undef = undef := by rw [hb]; exact (show _ = vs 27 by kernel_rfl).trans (show vs 27 = undef from hP 27 (hp 27 (by decide)))
        have s37 : ac.tmps[37]?.getD undef = .bool false := by rw [hb]; exact (show _ = vs 20 by kernel_rfl).trans (show vs 20 = .bool false from hP 20 (hp 20 (by decide)))
        rw [if_neg (AnyO.wanted_not (g := 20) (t := 37) (want := true) rfl rfl s37 (fun e => by cases e))]
        exact hK undef _ (AnyO.InvG.step (g := σ) hP rfl hW)
      · have s44 : ac.tmps[44]?.getD undef = .pointer (some ⟨d, 0, none⟩) := by rw [hb]; exact (show _ = vs 27 by kernel_rfl).trans (show vs 27 = .pointer (some ⟨d, 0, none⟩) from hP 27 (hp 27 (by decide)))
        have s37 : ac.tmps[37]?.getD undef = .bool true := by rw [hb]; exact (show _ = vs 20 by kernel_rfl).trans (show vs 20 = .bool true from hP 20 (hp 20 (by decide)))
        rw [if_pos (AnyO.wanted_some (g := 20) (t := 37) (want := true) rfl rfl s37)]
        clear hb hp
        clear hC
        clear h0
        have HP := Lib.hid hP
        have HWq := Lib.hid hW
        clear hP hW
        go_simp
        have hP := HP.out
        have hW := HWq.out
        clear HP HWq
        exact hK _ _ (AnyO.InvG.step (g := σ) hP rfl hW)
    · -- 29: Op.fieldAddr 89 (Operand.tmp 45) 0
      refine AnyO.StepI.mk rfl [28, 20] (by kernel_rfl) ?_
      intro D vs u hI h0 hC hp ac hb K hK
      obtain ⟨σ, hP, hW⟩ := hI
      rcases q2 with _ | _
      · have s45 : ac.tmps[45]?.getD undef = undef := by rw [hb]; exact (show _ = vs 28 by kernel_rfl).trans (show vs 28 = undef from hP 28 (hp 28 (by decide)))
        have s37 : ac.tmps[37]?.getD undef = .bool false := by rw [hb]; exact (show _ = vs 20 by kernel_rfl).trans (show vs 20 = .bool false from hP 20 (hp 20 (by decide)))
        rw [if_neg (AnyO.wanted_not (g := 20) (t := 37) (want := true) rfl rfl s37 (fun e => by cases e))]
        exact hK undef _ (AnyO.InvG.step (g := σ) hP rfl hW)
      · have s45 : ac.tmps[45]?.getD undef = .pointer (some ⟨d, 3, none⟩) := by rw [hb]; exact (show _ = vs 28 by kernel_rfl).trans (show vs 28 = .pointer (some ⟨d, 3, none⟩) from hP 28 (hp 28 (by decide)))
        have s37 : ac.tmps[37]?.getD undef = .bool true := by rw [hb]; exact (show _ = vs 20 by kernel_rfl).trans (show vs 20 = .bool true from hP 20 (hp 20 (by decide)))
        rw [if_pos (AnyO.wanted_some (g := 20) (t := 37) (want := true) rfl rfl s37)]
        clear hb hp
        clear hC
        clear h0
        have HP := Lib.hid hP
        have HWq := Lib.hid hW
        clear hP hW
        go_simp
        have hP := HP.out
        have hW := HWq.out
        clear HP HWq
        exact hK _ _ (AnyO.InvG.step (g := σ) hP rfl hW)
    · -- 30: Op.load 86 (Operand.tmp 46)
      refine AnyO.StepI.mk rfl [29, 20] (by kernel_rfl) ?_
      intro D vs u hI h0 hC hp ac hb K hK
      obtain ⟨σ, hP, hW⟩ := hI
      rcases q2 with _ | _
      · have s46 : ac.tmps[46]?.getD undef = undef := by rw [hb]; exact (show _ = vs 29 by kernel_rfl).trans (show vs 29 = undef from hP 29 (hp 29 (by decide)))
        have s37 : ac.tmps[37]?.getD undef = .bool false := by rw [hb]; exact (show _ = vs 20 by kernel_rfl).trans (show vs 20 = .bool false from hP 20 (hp 20 (by decide)))
        rw [if_neg (AnyO.wanted_not (g := 20) (t := 37) (want := true) rfl rfl s37 (fun e => by cases e))]
        exact hK undef _ (AnyO.InvG.step (g := σ) hP rfl hW)
      · have s46 : ac.tmps[46]?.getD undef = .pointer (some ⟨d, 3, none⟩) := by rw [hb]; exact (show _ = vs 29 by kernel_rfl).trans (show vs 29 = .pointer (some ⟨d, 3, none⟩) from hP 29 (hp 29 (by decide)))
        have s37 : ac.tmps[37]?.getD undef = .bool true := by rw [hb]; exact (show _ = vs 20 by kernel_rfl).trans (show vs 20 = .bool true from hP 20 (hp 20 (by decide)))
        rw [if_pos (AnyO.wanted_some (g := 20) (t := 37) (want := true) rfl rfl s37)]
        clear hb hp
        obtain ⟨rr1, rr2⟩ := (H2.out.keep hW).art
        rw [HV.out.2.2.2.1] at rr2
        clear hC
        clear h0
        have HP := Lib.hid hP
        have HWq := Lib.hid hW
        clear hP hW
        go_simp
        have hP := HP.out
        have hW := HWq.out
        clear HP HWq
        exact hK _ _ (AnyO.InvG.step (g := σ) hP rfl hW)
    · -- 31: Op.binOp BinOp.eql 86 (Operand.tmp 42) (Operand.tmp 47) 86
      refine AnyO.StepI.mk rfl [25, 30, 20] (by kernel_rfl) ?_
      intro D vs u hI h0 hC hp ac hb K hK
      obtain ⟨σ, hP, hW⟩ := hI
      rcases q2 with _ | _
      · have s42 : ac.tmps[42]?.getD undef = undef := by rw [hb]; exact (show _ = vs 25 by kernel_rfl).trans (show vs 25 = undef from hP 25 (hp 25 (by decide)))
        have s47 : ac.tmps[47]?.getD undef = undef := by rw [hb]; exact (show _ = vs 30 by kernel_rfl).trans (show vs 30 = undef from hP 30 (hp 30 (by decide)))
        have s37 : ac.tmps[37]?.getD undef = .bool false := by rw [hb]; exact (show _ = vs 20 by kernel_rfl).trans (show vs 20 = .bool false from hP 20 (hp 20 (by decide)))
        rw [if_neg (AnyO.wanted_not (g := 20) (t := 37) (want := true) rfl rfl s37 (fun e => by cases e))]
        exact hK undef _ (AnyO.InvG.step (g := σ) hP rfl hW)
      · have s42 : ac.tmps[42]?.getD undef = vA ca := by rw [hb]; exact (show _ = vs 25 by kernel_rfl).trans (show vs 25 = vA ca from hP 25 (hp 25 (by decide)))
        have s47 : ac.tmps[47]?.getD undef = vA cb := by rw [hb]; exact (show _ = vs 30 by kernel_rfl).trans (show vs 30 = vA cb from hP 30 (hp 30 (by decide)))
        have s37 : ac.tmps[37]?.getD undef = .bool true := by rw [hb]; exact (show _ = vs 20 by kernel_rfl).trans (show vs 20 = .bool true from hP 20 (hp 20 (by decide)))
        rw [if_pos (AnyO.wanted_some (g := 20) (t := 37) (want := true) rfl rfl s37)]
        clear hb hp
        have e := HE.out.2.1
        clear hC
        clear h0
        have HP := Lib.hid hP
        have HWq := Lib.hid hW
        clear hP hW
        go_simp
        have hP := HP.out
        have hW := HWq.out
        clear HP HWq
        exact hK _ _ (AnyO.InvG.step (g := σ) hP rfl hW)
    · -- 32: Op.pick (Operand.tmp 37) (Operand.tmp 48) (Operand.const (Va
      refine AnyO.StepI.mk rfl [20, 31] (by kernel_rfl) ?_
      intro D vs u hI h0 hC hp ac hb K hK
      obtain ⟨σ, hP, hW⟩ := hI
      rcases q2 with _ | _
      · have s37 : ac.tmps[37]?.getD undef = .bool false := by rw [hb]; exact (show _ = vs 20 by kernel_rfl).trans (show vs 20 = .bool false from hP 20 (hp 20 (by decide)))
        have s48 : ac.tmps[48]?.getD undef = undef := by rw [hb]; exact (show _ = vs 31 by kernel_rfl).trans (show vs 31 = undef from hP 31 (hp 31 (by decide)))
        rw [if_pos (AnyO.wanted_none rfl)]
        clear hb hp
        clear hC
        clear h0
        have HP := Lib.hid hP
        have HWq := Lib.hid hW
        clear hP hW
        go_simp
        have hP := HP.out
        have hW := HWq.out
        clear HP HWq
        obtain rfl : q3 = false := HQ3.out.symm
        exact hK _ _ (AnyO.InvG.step (g := σ) hP rfl hW)
      · have s37 : ac.tmps[37]?.getD undef = .bool true := by rw [hb]; exact (show _ = vs 20 by kernel_rfl).trans (show vs 20 = .bool true from hP 20 (hp 20 (by decide)))
        have s48 : ac.tmps[48]?.getD undef = .bool x3 := by rw [hb]; exact (show _ = vs 31 by kernel_rfl).trans (show vs 31 = .bool x3 from hP 31 (hp 31 (by decide)))
        rw [if_pos (AnyO.wanted_none rfl)]
        clear hb hp
        clear hC
        clear h0
        have HP := Lib.hid hP
        have HWq := Lib.hid hW
        clear hP hW
        go_simp
        have hP := HP.out
        have hW := HWq.out
        clear HP HWq
        obtain rfl : q3 = x3 := HQ3.out.symm
        exact hK _ _ (AnyO.InvG.step (g := σ) hP rfl hW)
    · -- 33: Op.move (Operand.tmp 49)
      refine AnyO.StepI.mk rfl [32, 20] (by kernel_rfl) ?_
      intro D vs u hI h0 hC hp ac hb K hK
      obtain ⟨σ, hP, hW⟩ := hI
      have s49 : ac.tmps[49]?.getD undef = .bool q3 := by rw [hb]; exact (show _ = vs 32 by kernel_rfl).trans (show vs 32 = .bool q3 from hP 32 (hp 32 (by decide)))
      rw [if_pos (AnyO.wanted_none rfl)]
      clear hb hp
      clear hC
      clear h0
      have HP := Lib.hid hP
      have HWq := Lib.hid hW
      clear hP hW
      go_simp
      have hP := HP.out
      have hW := HWq.out
      clear HP HWq
      exact hK _ _ (AnyO.InvG.step (g := σ) hP rfl hW)
    · -- 34: Op.move (Operand.tmp 0)
      refine AnyO.StepI.mk rfl [33] (by kernel_rfl) ?_
      intro D vs u hI h0 hC hp ac hb K hK
      obtain ⟨σ, hP, hW⟩ := hI
      rcases q3 with _ | _
      · have s0 : ac.tmps[0]?.getD undef = .pointer (some ⟨b, 0, none⟩) := by rw [hb]; kernel_rfl
        have s50 : ac.tmps[50]?.getD undef = .bool false := by rw [hb]; exact (show _ = vs 33 by kernel_rfl).trans (show vs 33 = .bool false from hP 33 (hp 33 (by decide)))
        rw [if_neg (AnyO.wanted_not (g := 33) (t := 50) (want := true) rfl rfl s50 (fun e => by cases e))]
        exact hK undef _ (AnyO.InvG.step (g := σ) hP rfl hW)
      · have s0 : ac.tmps[0]?.getD undef = .pointer (some ⟨b, 0, none⟩) := by rw [hb]; kernel_rfl
        have s50 : ac.tmps[50]?.getD undef = .bool true := by rw [hb]; exact (show _ = vs 33 by kernel_rfl).trans (show vs 33 = .bool true from hP 33 (hp 33 (by decide)))
        rw [if_pos (AnyO.wanted_some (g := 33) (t := 50) (want := true) rfl rfl s50)]
        clear hb hp
        clear hC
        clear h0
        have HP := Lib.hid hP
        have HWq := Lib.hid hW
        clear hP hW
        go_simp
        have hP := HP.out
        have hW := HWq.out
        clear HP HWq
        exact hK _ _ (AnyO.InvG.step (g := σ) hP rfl hW)
    · -- 35: Op.nilCheck (Operand.tmp 51)
      refine AnyO.StepI.mk rfl [34, 33] (by kernel_rfl) ?_
      intro D vs u hI h0 hC hp ac hb K hK
      obtain ⟨σ, hP, hW⟩ := hI
      rcases q3 with _ | _
      · have s51 : ac.tmps[51]?.getD undef = undef := by rw [hb]; exact (show _ = vs 34 by kernel_rfl).trans (show vs 34 = undef from hP 34 (hp 34 (by decide)))
        have s50 : ac.tmps[50]?.getD undef = .bool false := by rw [hb]; exact (show _ = vs 33 by kernel_rfl).trans (show vs 33 = .bool false from hP 33 (hp 33 (by decide)))
        rw [if_neg (AnyO.wanted_not (g := 33) (t := 50) (want := true) rfl rfl s50 (fun e => by cases e))]
        exact hK undef _ (AnyO.InvG.step (g := σ) hP rfl hW)
      · have s51 : ac.tmps[51]?.getD undef = .pointer (some ⟨b, 0, none⟩) := by rw [hb]; exact (show _ = vs 34 by kernel_rfl).trans (show vs 34 = .pointer (some ⟨b, 0, none⟩) from hP 34 (hp 34 (by decide)))
        have s50 : ac.tmps[50]?.getD undef = .bool true := by rw [hb]; exact (show _ = vs 33 by kernel_rfl).trans (show vs 33 = .bool true from hP 33 (hp 33 (by decide)))
        rw [if_pos (AnyO.wanted_some (g := 33) (t := 50) (want := true) rfl rfl s50)]
        clear hb hp
        clear hC
        clear h0
        have HP := Lib.hid hP
        have HWq := Lib.hid hW
        clear hP hW
        go_simp
        have hP := HP.out
        have hW := HWq.out
        clear HP HWq
        exact hK _ _ (AnyO.InvG.step (g := σ) hP rfl hW)
    · -- 36: Op.fieldAddr 91 (Operand.tmp 52) 3
      refine AnyO.StepI.mk rfl [35, 33] (by kernel_rfl) ?_
      intro D vs u hI h0 hC hp ac hb K hK
      obtain ⟨σ, hP, hW⟩ := hI
      rcases q3 with _ | _
      · have s52 : ac.tmps[52]?.getD undef = undef := by rw [hb]; exact (show _ = vs 35 by kernel_rfl).trans (show vs 35 = undef from hP 35 (hp 35 (by decide)))
        have s50 : ac.tmps[50]?.getD undef = .bool false := by rw [hb]; exact (show _ = vs 33 by kernel_rfl).trans (show vs 33 = .bool false from hP 33 (hp 33 (by decide)))
        rw [if_neg (AnyO.wanted_not (g := 33) (t := 50) (want := true) rfl rfl s50 (fun e => by cases e))]
        exact hK undef _ (AnyO.InvG.step (g := σ) hP rfl hW)
      · have s52 : ac.tmps[52]?.getD undef = .pointer (some ⟨b, 0, none⟩) := by rw [hb]; exact (show _ = vs 35 by kernel_rfl).trans (show vs 35 = .pointer (some ⟨b, 0, none⟩) from hP 35 (hp 35 (by decide)))
        have s50 : ac.tmps[50]?.getD undef = .bool true := by rw [hb]; exact (show _ = vs 33 by kernel_rfl).trans (show vs 33 = .bool true from hP 33 (hp 33 (by decide)))
        rw [if_pos (AnyO.wanted_some (g := 33) (t := 50) (want := true) rfl rfl s50)]
        clear hb hp
        clear hC
        clear h0
        have HP := Lib.hid hP
        have HWq := Lib.hid hW
        clear hP hW
        go_simp
        have hP := HP.out
        have hW := HWq.out
        clear HP HWq
        exact hK _ _ (AnyO.InvG.step (g := σ) hP rfl hW)
    · -- 37: Op.fieldAddr 89 (Operand.tmp 53) 1
      refine AnyO.StepI.mk rfl [36, 33] (by kernel_rfl) ?_
      intro D vs u hI h0 hC hp ac hb K hK
      obtain ⟨σ, hP, hW⟩ := hI
      rcases q3 with _ | _
      · have s53 : ac.tmps[53]?.getD undef = undef := by rw [hb]; exact (show _ = vs 36 by kernel_rfl).trans (show vs 36 = undef from hP 36 (hp 36 (by decide)))
        have s50 : ac.tmps[50]?.getD undef = .bool false := by rw [hb]; exact (show _ = vs 33 by kernel_rfl).trans (show vs 33 = .bool false from hP 33 (hp 33 (by decide)))
        rw [if_neg (AnyO.wanted_not (g := 33) (t := 50) (want := true) rfl rfl s50 (fun e => by cases e))]
        exact hK undef _ (AnyO.InvG.step (g := σ) hP rfl hW)
      · have s53 : ac.tmps[53]?.getD undef = .pointer (some ⟨b, 3, none⟩) := by rw [hb]; exact (show _ = vs 36 by kernel_rfl).trans (show vs 36 = .pointer (some ⟨b, 3, none⟩) from hP 36 (hp 36 (by decide)))
        have s50 : ac.tmps[50]?.getD undef = .bool true := by rw [hb]; exact (show _ = vs 33 by kernel_rfl).trans (show vs 33 = .bool true from hP 33 (hp 33 (by decide)))
        rw [if_pos (AnyO.wanted_some (g := 33) (t := 50) (want := true) rfl rfl s50)]
        clear hb hp
        clear hC
        clear h0
        have HP := Lib.hid hP
        have HWq := Lib.hid hW
        clear hP hW
        go_simp
        have hP := HP.out
        have hW := HWq.out
        clear HP HWq
        exact hK _ _ (AnyO.InvG.step (g := σ) hP rfl hW)
    · -- 38: Op.load 87 (Operand.tmp 54)
      refine AnyO.StepI.mk rfl [37, 33] (by kernel_rfl) ?_
      intro D vs u hI h0 hC hp ac hb K hK
      obtain ⟨σ, hP, hW⟩ := hI
      rcases q3 with _ | _
      · have s54 : ac.tmps[54]?.getD undef = undef := by rw [hb]; exact (show _ = vs 37 by kernel_rfl).trans (show vs 37 = undef from hP 37 (hp 37 (by decide)))
        have s50 : ac.tmps[50]?.getD undef = .bool false := by rw [hb]; exact (show _ = vs 33 by kernel_rfl).trans (show vs 33 = .bool false from hP 33 (hp 33 (by decide)))
        rw [if_neg (AnyO.wanted_not (g := 33) (t := 50) (want := true) rfl rfl s50 (fun e => by cases e))]
        exact hK undef _ (AnyO.InvG.step (g := σ) hP rfl hW)
      · have s54 : ac.tmps[54]?.getD undef = .pointer (some ⟨b, 36, none⟩) := by rw [hb]; exact (show _ = vs 37 by kernel_rfl).trans (show vs 37 = .pointer (some ⟨b, 36, none⟩) from hP 37 (hp 37 (by decide)))
        have s50 : ac.tmps[50]?.getD undef = .bool true := by rw [hb]; exact (show _ = vs 33 by kernel_rfl).trans (show vs 33 = .bool true from hP 33 (hp 33 (by decide)))
        rw [if_pos (AnyO.wanted_some (g := 33) (t := 50) (want := true) rfl rfl s50)]
        clear hb hp
        have rr := (H1.out.keep hW).c36
        clear hC
        clear h0
        have HP := Lib.hid hP
        have HWq := Lib.hid hW
        clear hP hW
        go_simp
        have hP := HP.out
        have hW := HWq.out
        clear HP HWq
        exact hK _ _ (AnyO.InvG.step (g := σ) hP rfl hW)
    · -- 39: Op.call { callee := Callee.value (Operand.func 47), args := 
      refine AnyO.StepI.mk rfl [38, 33, 33] (by kernel_rfl) ?_
      intro D vs u hI h0 hC hp ac hb K hK
      obtain ⟨σ, hP, hW⟩ := hI
      rcases q3 with _ | _
      · have s55 : ac.tmps[55]?.getD undef = undef := by rw [hb]; exact (show _ = vs 38 by kernel_rfl).trans (show vs 38 = undef from hP 38 (hp 38 (by decide)))
        have s50 : ac.tmps[50]?.getD undef = .bool false := by rw [hb]; exact (show _ = vs 33 by kernel_rfl).trans (show vs 33 = .bool false from hP 33 (hp 33 (by decide)))
        rw [if_neg (AnyO.wanted_not (g := 33) (t := 50) (want := true) rfl rfl s50 (fun e => by cases e))]
        exact hK undef _ (AnyO.InvG.step (g := σ) hP rfl hW)
      · have s55 : ac.tmps[55]?.getD undef = .pointer p1 := by rw [hb]; exact (show _ = vs 38 by kernel_rfl).trans (show vs 38 = .pointer p1 from hP 38 (hp 38 (by decide)))
        have s50 : ac.tmps[50]?.getD undef = .bool true := by rw [hb]; exact (show _ = vs 33 by kernel_rfl).trans (show vs 33 = .bool true from hP 33 (hp 33 (by decide)))
        rw [if_pos (AnyO.wanted_some (g := 33) (t := 50) (want := true) rfl rfl s50)]
        clear hb hp
        clear hC
        clear h0
        have HP := Lib.hid hP
        have HWq := Lib.hid hW
        clear hP hW
        go_simp
        have hP := HP.out
        have hW := HWq.out
        clear HP HWq
        go_at_call 47
        refine (H1.out.keep hW).sent.mono ?_
        rintro e w2 ⟨rfl, rfl⟩
        rw [HV.out.2.2.2.2.1]
        exact hK _ _ (AnyO.InvG.step (g := σ) hP rfl hW)
    · -- 40: Op.move (Operand.tmp 1)
      refine AnyO.StepI.mk rfl [33] (by kernel_rfl) ?_
      intro D vs u hI h0 hC hp ac hb K hK
      obtain ⟨σ, hP, hW⟩ := hI
      rcases q3 with _ | _
      · have s1 : ac.tmps[1]?.getD undef = .pointer (some ⟨d, 0, none⟩) := by rw [hb]; kernel_rfl
        have s50 : ac.tmps[50]?.getD undef = .bool false := by rw [hb]; exact (show _ = vs 33 by kernel_rfl).trans (show vs 33 = .bool false from hP 33 (hp 33 (by decide)))
        rw [if_neg (AnyO.wanted_not (g := 33) (t := 50) (want := true) rfl rfl s50 (fun e => by cases e))]
        exact hK undef _ (AnyO.InvG.step (g := σ) hP rfl hW)
      · have s1 : ac.tmps[1]?.getD undef = .pointer (some ⟨d, 0, none⟩) := by rw [hb]; kernel_rfl
        have s50 : ac.tmps[50]?.getD undef = .bool true := by rw [hb]; exact (show _ = vs 33 by kernel_rfl).trans (show vs 33 = .bool true from hP 33 (hp 33 (by decide)))
        rw [if_pos (AnyO.wanted_some (g := 33) (t := 50) (want := true) rfl rfl s50)]
        clear hb hp
        clear hC
        clear h0
        have HP := Lib.hid hP
        have HWq := Lib.hid hW
        clear hP hW
        go_simp
        have hP := HP.out
        have hW := HWq.out
        clear HP HWq
        exact hK _ _ (AnyO.InvG.step (g := σ) hP rfl hW)
    · -- 41: Op.nilCheck (Operand.tmp 57)
      refine AnyO.StepI.mk rfl [40, 33] (by kernel_rfl) ?_
      intro D vs u hI h0 hC hp ac hb K hK
      obtain ⟨σ, hP, hW⟩ := hI
      rcases q3 with _ | _
      · have s57 : ac.tmps[57]?.getD undef = undef := by rw [hb]; exact (show _ = vs 40 by kernel_rfl).trans (show vs 40 = undef from hP 40 (hp 40 (by decide)))
        have s50 : ac.tmps[50]?.getD undef = .bool false := by rw [hb]; exact (show _ = vs 33 by kernel_rfl).trans (show vs 33 = .bool false from hP 33 (hp 33 (by decide)))
        rw [if_neg (AnyO.wanted_not (g := 33) (t := 50) (want := true) rfl rfl s50 (fun e => by cases e))]
        exact hK undef _ (AnyO.InvG.step (g := σ) hP rfl hW)
      · have s57 : ac.tmps[57]?.getD undef = .pointer (some ⟨d, 0, none⟩) := by rw [hb]; exact (show _ = vs 40 by kernel_rfl).trans (show vs 40 = .pointer (some ⟨d, 0, none⟩) from hP 40 (hp 40 (by decide)))
        have s50 : ac.tmps[50]?.getD undef = .bool true := by rw [hb]; exact (show _ = vs 33 by kernel_rfl).trans (show vs 33 = .bool true from hP 33 (hp 33 (by decide)))
        rw [if_pos (AnyO.wanted_some (g := 33) (t := 50) (want := true) rfl rfl s50)]
        clear hb hp
        clear hC
        clear h0
        have HP := Lib.hid hP
        have HWq := Lib.hid hW
        clear hP hW
        go_simp
        have hP := HP.out
        have hW := HWq.out
        clear HP HWq
        exact hK _ _ (AnyO.InvG.step (g := σ) hP rfl hW)
    · -- 42: Op.fieldAddr 91 (Operand.tmp 58) 3
      refine AnyO.StepI.mk rfl [41, 33] (by kernel_rfl) ?_
      intro D vs u hI h0 hC hp ac hb K hK
      obtain ⟨σ, hP, hW⟩ := hI
      rcases q3 with _ | _
      · have s58 : ac.tmps[58]?.getD undef = undef := by rw [hb]; exact (show _ = vs 41 by kernel_rfl).trans (show vs 41 = undef from hP 41 (hp 41 (by decide)))
        have s50 : ac.tmps[50]?.getD undef = .bool false := by rw [hb]; exact (show _ = vs 33 by kernel_rfl).trans (show vs 33 = .bool false from hP 33 (hp 33 (by decide)))
        rw [if_neg (AnyO.wanted_not (g := 33) (t := 50) (want := true) rfl rfl s50 (fun e => by cases e))]
        exact hK undef _ (AnyO.InvG.step (g := σ) hP rfl hW)
      · have s58 : ac.tmps[58]?.getD undef = .pointer (some ⟨d, 0, none⟩) := by rw [hb]; exact (show _ = vs 41 by kernel_rfl).trans (show vs 41 = .pointer (some ⟨d, 0, none⟩) from hP 41 (hp 41 (by decide)))
        have s50 : ac.tmps[50]?.getD undef = .bool true := by rw [hb]; exact (show _ = vs 33 by kernel_rfl).trans (show vs 33 = .bool true from hP 33 (hp 33 (by decide)))
        rw [if_pos (AnyO.wanted_some (g := 33) (t := 50) (want := true) rfl rfl s50)]
        clear hb hp
        clear hC
        clear h0
        have HP := Lib.hid hP
        have HWq := Lib.hid hW
        clear hP hW
        go_simp
        have hP := HP.out
        have hW := HWq.out
        clear HP HWq
        exact hK _ _ (AnyO.InvG.step (g := σ) hP rfl hW)
    · -- 43: Op.fieldAddr 89 (Operand.tmp 59) 1
      refine AnyO.StepI.mk rfl [42, 33] (by kernel_rfl) ?_
      intro D vs u hI h0 hC hp ac hb K hK
      obtain ⟨σ, hP, hW⟩ := hI
      rcases q3 with _ | _
      · have s59 : ac.tmps[59]?.getD undef = undef := by rw [hb]; exact (show _ = vs 42 by kernel_rfl).trans (show vs 42 = undef from hP 42 (hp 42 (by decide)))
        have s50 : ac.tmps[50]?.getD undef = .bool false := by rw [hb]; exact (show _ = vs 33 by kernel_rfl).trans (show vs 33 = .bool false from hP 33 (hp 33 (by decide)))
        rw [if_neg (AnyO.wanted_not (g := 33) (t := 50) (want := true) rfl rfl s50 (fun e => by cases e))]
        exact hK undef _ (AnyO.InvG.step (g := σ) hP rfl hW)
      · have s59 : ac.tmps[59]?.getD undef = .pointer (some ⟨d, 3, none⟩) := by rw [hb]; exact (show _ = vs 42 by kernel_rfl).trans (show vs 42 = .pointer (some ⟨d, 3, none⟩) from hP 42 (hp 42 (by decide)))
        have s50 : ac.tmps[50]?.getD undef = .bool true := by rw [hb]; exact (show _ = vs 33 by kernel_rfl).trans (show vs 33 = .bool true from hP 33 (hp 33 (by decide)))
        rw [if_pos (AnyO.wanted_some (g := 33) (t := 50) (want := true) rfl rfl s50)]
        clear hb hp
        clear hC
        clear h0
        have HP := Lib.hid hP
        have HWq := Lib.hid hW
        clear hP hW
        go_simp
        have hP := HP.out
        have hW := HWq.out
        clear HP HWq
        exact hK _ _ (AnyO.InvG.step (g := σ) hP rfl hW)
    · -- 44: Op.load 87 (Operand.tmp 60)
      refine AnyO.StepI.mk rfl [43, 33] (by kernel_rfl) ?_
      intro D vs u hI h0 hC hp ac hb K hK
      obtain ⟨σ, hP, hW⟩ := hI
      rcases q3 with _ | _
      · have s60 : ac.tmps[60]?.getD undef = undef := by rw [hb]; exact (show _ = vs 43 by kernel_rfl).trans (show vs 43 = undef from hP 43 (hp 43 (by decide)))
        have s50 : ac.tmps[50]?.getD undef = .bool false := by rw [hb]; exact (show _ = vs 33 by kernel_rfl).trans (show vs 33 = .bool false from hP 33 (hp 33 (by decide)))
        rw [if_neg (AnyO.wanted_not (g := 33) (t := 50) (want := true) rfl rfl s50 (fun e => by cases e))]
        exact hK undef _ (AnyO.InvG.step (g := σ) hP rfl hW)
      · have s60 : ac.tmps[60]?.getD undef = .pointer (some ⟨d, 36, none⟩) := by rw [hb]; exact (show _ = vs 43 by kernel_rfl).trans (show vs 43 = .pointer (some ⟨d, 36, none⟩) from hP 43 (hp 43 (by decide)))
        have s50 : ac.tmps[50]?.getD undef = .bool true := by rw [hb]; exact (show _ = vs 33 by kernel_rfl).trans (show vs 33 = .bool true from hP 33 (hp 33 (by decide)))
        rw [if_pos (AnyO.wanted_some (g := 33) (t := 50) (want := true) rfl rfl s50)]
        clear hb hp
        have rr := (H2.out.keep hW).c36
        clear hC
        clear h0
        have HP := Lib.hid hP
        have HWq := Lib.hid hW
        clear hP hW
        go_simp
        have hP := HP.out
        have hW := HWq.out
        clear HP HWq
        exact hK _ _ (AnyO.InvG.step (g := σ) hP rfl hW)
    · -- 45: Op.call { callee := Callee.value (Operand.func 47), args := 
      refine AnyO.StepI.mk rfl [44, 39, 33] (by kernel_rfl) ?_
      intro D vs u hI h0 hC hp ac hb K hK
      obtain ⟨σ, hP, hW⟩ := hI
      rcases q3 with _ | _
      · have s61 : ac.tmps[61]?.getD undef = undef := by rw [hb]; exact (show _ = vs 44 by kernel_rfl).trans (show vs 44 = undef from hP 44 (hp 44 (by decide)))
        have s50 : ac.tmps[50]?.getD undef = .bool false := by rw [hb]; exact (show _ = vs 33 by kernel_rfl).trans (show vs 33 = .bool false from hP 33 (hp 33 (by decide)))
        rw [if_neg (AnyO.wanted_not (g := 33) (t := 50) (want := true) rfl rfl s50 (fun e => by cases e))]
        exact hK undef _ (AnyO.InvG.step (g := σ) hP rfl hW)
      · have s61 : ac.tmps[61]?.getD undef = .pointer p2 := by rw [hb]; exact (show _ = vs 44 by kernel_rfl).trans (show vs 44 = .pointer p2 from hP 44 (hp 44 (by decide)))
        have s50 : ac.tmps[50]?.getD undef = .bool true := by rw [hb]; exact (show _ = vs 33 by kernel_rfl).trans (show vs 33 = .bool true from hP 33 (hp 33 (by decide)))
        rw [if_pos (AnyO.wanted_some (g := 33) (t := 50) (want := true) rfl rfl s50)]
        clear hb hp
        clear hC
        clear h0
        have HP := Lib.hid hP
        have HWq := Lib.hid hW
        clear hP hW
        go_simp
        have hP := HP.out
        have hW := HWq.out
        clear HP HWq
        go_at_call 47
        refine (H2.out.keep hW).sent.mono ?_
        rintro e w2 ⟨rfl, rfl⟩
        rw [HV.out.2.2.2.2.2]
        exact hK _ _ (AnyO.InvG.step (g := σ) hP rfl hW)
    · -- 46: Op.binOp BinOp.eql 3 (Operand.tmp 56) (Operand.tmp 62) 3
      refine AnyO.StepI.mk rfl [39, 45, 33] (by kernel_rfl) ?_
      intro D vs u hI h0 hC hp ac hb K hK
      obtain ⟨σ, hP, hW⟩ := hI
      rcases q3 with _ | _
      · have s56 : ac.tmps[56]?.getD undef = undef := by rw [hb]; exact (show _ = vs 39 by kernel_rfl).trans (show vs 39 = undef from hP 39 (hp 39 (by decide)))
        have s62 : ac.tmps[62]?.getD undef = undef := by rw [hb]; exact (show _ = vs 45 by kernel_rfl).trans (show vs 45 = undef from hP 45 (hp 45 (by decide)))
        have s50 : ac.tmps[50]?.getD undef = .bool false := by rw [hb]; exact (show _ = vs 33 by kernel_rfl).trans (show vs 33 = .bool false from hP 33 (hp 33 (by decide)))
        rw [if_neg (AnyO.wanted_not (g := 33) (t := 50) (want := true) rfl rfl s50 (fun e => by cases e))]
        exact hK undef _ (AnyO.InvG.step (g := σ) hP rfl hW)
      · have s56 : ac.tmps[56]?.getD undef = .int .i64 n1 := by rw [hb]; exact (show _ = vs 39 by kernel_rfl).trans (show vs 39 = .int .i64 n1 from hP 39 (hp 39 (by decide)))
        have s62 : ac.tmps[62]?.getD undef = .int .i64 n2 := by rw [hb]; exact (show _ = vs 45 by kernel_rfl).trans (show vs 45 = .int .i64 n2 from hP 45 (hp 45 (by decide)))
        have s50 : ac.tmps[50]?.getD undef = .bool true := by rw [hb]; exact (show _ = vs 33 by kernel_rfl).trans (show vs 33 = .bool true from hP 33 (hp 33 (by decide)))
        rw [if_pos (AnyO.wanted_some (g := 33) (t := 50) (want := true) rfl rfl s50)]
        clear hb hp
        have e := HE.out.2.2.1
        clear hC
        clear h0
        have HP := Lib.hid hP
        have HWq := Lib.hid hW
        clear hP hW
        go_simp
        have hP := HP.out
        have hW := HWq.out
        clear HP HWq
        exact hK _ _ (AnyO.InvG.step (g := σ) hP rfl hW)
    · -- 47: Op.pick (Operand.tmp 50) (Operand.tmp 63) (Operand.const (Va
      refine AnyO.StepI.mk rfl [33, 46] (by kernel_rfl) ?_
      intro D vs u hI h0 hC hp ac hb K hK
      obtain ⟨σ, hP, hW⟩ := hI
      rcases q3 with _ | _
      · have s50 : ac.tmps[50]?.getD undef = .bool false := by rw [hb]; exact (show _ = vs 33 by kernel_rfl).trans (show vs 33 = .bool false from hP 33 (hp 33 (by decide)))
        have s63 : ac.tmps[63]?.getD undef = undef := by rw [hb]; exact (show _ = vs 46 by kernel_rfl).trans (show vs 46 = undef from hP 46 (hp 46 (by decide)))
        rw [if_pos (AnyO.wanted_none rfl)]
        clear hb hp
        clear hC
        clear h0
        have HP := Lib.hid hP
        have HWq := Lib.hid hW
        clear hP hW
        go_simp
        have hP := HP.out
        have hW := HWq.out
        clear HP HWq
        obtain rfl : q4 = false := HQ4.out.symm
        exact hK _ _ (AnyO.InvG.step (g := σ) hP rfl hW)
      · have s50 : ac.tmps[50]?.getD undef = .bool true := by rw [hb]; exact (show _ = vs 33 by kernel_rfl).trans (show vs 33 = .bool true from hP 33 (hp 33 (by decide)))
        have s63 : ac.tmps[63]?.getD undef = .bool x4 := by rw [hb]; exact (show _ = vs 46 by kernel_rfl).trans (show vs 46 = .bool x4 from hP 46 (hp 46 (by decide)))
        rw [if_pos (AnyO.wanted_none rfl)]
        clear hb hp
        clear hC
        clear h0
        have HP := Lib.hid hP
        have HWq := Lib.hid hW
        clear hP hW
        go_simp
        have hP := HP.out
        have hW := HWq.out
        clear HP HWq
        obtain rfl : q4 = x4 := HQ4.out.symm
        exact hK _ _ (AnyO.InvG.step (g := σ) hP rfl hW)
    · -- 48: Op.move (Operand.tmp 64)
      refine AnyO.StepI.mk rfl [47, 45] (by kernel_rfl) ?_
      intro D vs u hI h0 hC hp ac hb K hK
      obtain ⟨σ, hP, hW⟩ := hI
      have s64 : ac.tmps[64]?.getD undef = .bool q4 := by rw [hb]; exact (show _ = vs 47 by kernel_rfl).trans (show vs 47 = .bool q4 from hP 47 (hp 47 (by decide)))
      rw [if_pos (AnyO.wanted_none rfl)]
      clear hb hp
      clear hC
      clear h0
      have HP := Lib.hid hP
      have HWq := Lib.hid hW
      clear hP hW
      go_simp
      have hP := HP.out
      have hW := HWq.out
      clear HP HWq
      exact hK _ _ (AnyO.InvG.step (g := σ) hP rfl hW)
    · -- 49: Op.move (Operand.tmp 0)
      refine AnyO.StepI.mk rfl [48] (by kernel_rfl) ?_
      intro D vs u hI h0 hC hp ac hb K hK
      obtain ⟨σ, hP, hW⟩ := hI
      rcases q4 with _ | _
      · have s0 : ac.tmps[0]?.getD undef = .pointer (some ⟨b, 0, none⟩) := by rw [hb]; kernel_rfl
        have s65 : ac.tmps[65]?.getD undef = .bool false := by rw [hb]; exact (show _ = vs 48 by kernel_rfl).trans (show vs 48 = .bool false from hP 48 (hp 48 (by decide)))
        rw [if_neg (AnyO.wanted_not (g := 48) (t := 65) (want := true) rfl rfl s65 (fun e => by cases e))]
        exact hK undef _ (AnyO.InvG.step (g := σ) hP rfl hW)
      · have s0 : ac.tmps[0]?.getD undef = .pointer (some ⟨b, 0, none⟩) := by rw [hb]; kernel_rfl
        have s65 : ac.tmps[65]?.getD undef = .bool true := by rw [hb]; exact (show _ = vs 48 by kernel_rfl).trans (show vs 48 = .bool true from hP 48 (hp 48 (by decide)))
        rw [if_pos (AnyO.wanted_some (g := 48) (t := 65) (want := true) rfl rfl s65)]
        clear hb hp
        clear hC
        clear h0
        have HP := Lib.hid hP
        have HWq := Lib.hid hW
        clear hP hW
        go_simp
        have hP := HP.out
        have hW := HWq.out
        clear HP HWq
        exact hK _ _ (AnyO.InvG.step (g := σ) hP rfl hW)
    · -- 50: Op.nilCheck (Operand.tmp 66)
      refine AnyO.StepI.mk rfl [49, 48] (by kernel_rfl) ?_
      intro D vs u hI h0 hC hp ac hb K hK
      obtain ⟨σ, hP, hW⟩ := hI
      rcases q4 with _ | _
      · have s66 : ac.tmps[66]?.getD undef = undef := by rw [hb]; exact (show _ = vs 49 by kernel_rfl).trans (show vs 49 = undef from hP 49 (hp 49 (by decide)))
        have s65 : ac.tmps[65]?.getD undef = .bool false := by rw [hb]; exact (show _ = vs 48 by kernel_rfl).trans (show vs 48 = .bool false from hP 48 (hp 48 (by decide)))
        rw [if_neg (AnyO.wanted_not (g := 48) (t := 65) (want := true) rfl rfl s65 (fun e => by cases e))]
        exact hK undef _ (AnyO.InvG.step (g := σ) hP rfl hW)
      · have s66 : ac.tmps[66]?.getD undef = .pointer (some ⟨b, 0, none⟩) := by rw [hb]; exact (show _ = vs 49 by kernel_rfl).trans (show vs 49 = .pointer (some ⟨b, 0, none⟩) from hP 49 (hp 49 (by decide)))
        have s65 : ac.tmps[65]?.getD undef = .bool true := by rw [hb]; exact (show _ = vs 48 by kernel_rfl).trans (show vs 48 = .bool true from hP 48 (hp 48 (by decide)))
        rw [if_pos (AnyO.wanted_some (g := 48) (t := 65) (want := true) rfl rfl s65)]
        clear hb hp
        clear hC
        clear h0
        have HP := Lib.hid hP
        have HWq := Lib.hid hW
        clear hP hW
        go_simp
        have hP := HP.out
        have hW := HWq.out
        clear HP HWq
        exact hK _ _ (AnyO.InvG.step (g := σ) hP rfl hW)
    · -- 51: Op.fieldAddr 91 (Operand.tmp 67) 1
      refine AnyO.StepI.mk rfl [50, 48] (by kernel_rfl) ?_
      intro D vs u hI h0 hC hp ac hb K hK
      obtain ⟨σ, hP, hW⟩ := hI
      rcases q4 with _ | _
      · have s67 : ac.tmps[67]?.getD undef = undef := by rw [hb]; exact (show _ = vs 50 by kernel_rfl).trans (show vs 50 = undef from hP 50 (hp 50 (by decide)))
        have s65 : ac.tmps[65]?.getD undef = .bool false := by rw [hb]; exact (show _ = vs 48 by kernel_rfl).trans (show vs 48 = .bool false from hP 48 (hp 48 (by decide)))
        rw [if_neg (AnyO.wanted_not (g := 48) (t := 65) (want := true) rfl rfl s65 (fun e => by cases e))]
        exact hK undef _ (AnyO.InvG.step (g := σ) hP rfl hW)
      · have s67 : ac.tmps[67]?.getD undef = .pointer (some ⟨b, 0, none⟩) := by rw [hb]; exact (show _ = vs 50 by kernel_rfl).trans (show vs 50 = .pointer (some ⟨b, 0, none⟩) from hP 50 (hp 50 (by decide)))
        have s65 : ac.tmps[65]?.getD undef = .bool true := by rw [hb]; exact (show _ = vs 48 by kernel_rfl).trans (show vs 48 = .bool true from hP 48 (hp 48 (by decide)))
        rw [if_pos (AnyO.wanted_some (g := 48) (t := 65) (want := true) rfl rfl s65)]
        clear hb hp
        clear hC
        clear h0
        have HP := Lib.hid hP
        have HWq := Lib.hid hW
        clear hP hW
        go_simp
        have hP := HP.out
        have hW := HWq.out
        clear HP HWq
        exact hK _ _ (AnyO.InvG.step (g := σ) hP rfl hW)
    · -- 52: Op.load 84 (Operand.tmp 68)
      refine AnyO.StepI.mk rfl [51, 48] (by kernel_rfl) ?_
      intro D vs u hI h0 hC hp ac hb K hK
      obtain ⟨σ, hP, hW⟩ := hI
      rcases q4 with _ | _
      · have s68 : ac.tmps[68]?.getD undef = undef := by rw [hb]; exact (show _ = vs 51 by kernel_rfl).trans (show vs 51 = undef from hP 51 (hp 51 (by decide)))
        have s65 : ac.tmps[65]?.getD undef = .bool false := by rw [hb]; exact (show _ = vs 48 by kernel_rfl).trans (show vs 48 = .bool false from hP 48 (hp 48 (by decide)))
        rw [if_neg (AnyO.wanted_not (g := 48) (t := 65) (want := true) rfl rfl s65 (fun e => by cases e))]
        exact hK undef _ (AnyO.InvG.step (g := σ) hP rfl hW)
      · have s68 : ac.tmps[68]?.getD undef = .pointer (some ⟨b, 1, none⟩) := by rw [hb]; exact (show _ = vs 51 by kernel_rfl).trans (show vs 51 = .pointer (some ⟨b, 1, none⟩) from hP 51 (hp 51 (by decide)))
        have s65 : ac.tmps[65]?.getD undef = .bool true := by rw [hb]; exact (show _ = vs 48 by kernel_rfl).trans (show vs 48 = .bool true from hP 48 (hp 48 (by decide)))
        rw [if_pos (AnyO.wanted_some (g := 48) (t := 65) (want := true) rfl rfl s65)]
        clear hb hp
        have rr := (H1.out.keep hW).c1
        clear hC
        clear h0
        have HP := Lib.hid hP
        have HWq := Lib.hid hW
        clear hP hW
        go_simp
        have hP := HP.out
        have hW := HWq.out
        clear HP HWq
        exact hK _ _ (AnyO.InvG.step (g := σ) hP rfl hW)
    · -- 53: Op.move (Operand.tmp 1)
      refine AnyO.StepI.mk rfl [48] (by kernel_rfl) ?_
      intro D vs u hI h0 hC hp ac hb K hK
      obtain ⟨σ, hP, hW⟩ := hI
      rcases q4 with _ | _
      · have s1 : ac.tmps[1]?.getD undef = .pointer (some ⟨d, 0, none⟩) := by rw [hb]; kernel_rfl
        have s65 : ac.tmps[65]?.getD undef = .bool false := by rw [hb]; exact (show _ = vs 48 by kernel_rfl).trans (show vs 48 = .bool false from hP 48 (hp 48 (by decide)))
        rw [if_neg (AnyO.wanted_not (g := 48) (t := 65) (want := true) rfl rfl s65 (fun e => by cases e))]
        exact hK undef _ (AnyO.InvG.step (g := σ) hP rfl hW)
      · have s1 : ac.tmps[1]?.getD undef = .pointer (some ⟨d, 0, none⟩) := by rw [hb]; kernel_rfl
        have s65 : ac.tmps[65]?.getD undef = .bool true := by rw [hb]; exact (show _ = vs 48 by kernel_rfl).trans (show vs 48 = .bool true from hP 48 (hp 48 (by decide)))
        rw [if_pos (AnyO.wanted_some (g := 48) (t := 65) (want := true) rfl rfl s65)]
        clear hb hp
        clear hC
        clear h0
        have HP := Lib.hid hP
        have HWq := Lib.hid hW
        clear hP hW
        go_simp
        have hP := HP.out
        have hW := HWq.out
        clear HP HWq
        exact hK _ _ (AnyO.InvG.step (g := σ) hP rfl hW)
    · -- 54: Op.nilCheck (Operand.tmp 70)
      refine AnyO.StepI.mk rfl [53, 48] (by kernel_rfl) ?_
      intro D vs u hI h0 hC hp ac hb K hK
      obtain ⟨σ, hP, hW⟩ := hI
      rcases q4 with _ | _
      · have s70 : ac.tmps[70]?.getD undef = undef := by rw [hb]; exact (show _ = vs 53 by kernel_rfl).trans (show vs 53 = undef from hP 53 (hp 53 (by decide)))
        have s65 : ac.tmps[65]?.getD undef = .bool false := by rw [hb]; exact (show _ = vs 48 by kernel_rfl).trans (show vs 48 = .bool false from hP 48 (hp 48 (by decide)))
        rw [if_neg (AnyO.wanted_not (g := 48) (t := 65) (want := true) rfl rfl s65 (fun e => by cases e))]
        exact hK undef _ (AnyO.InvG.step (g := σ) hP rfl hW)
      · have s70 : ac.tmps[70]?.getD undef = .pointer (some ⟨d, 0, none⟩) := by rw [hb]; exact (show _ = vs 53 by kernel_rfl).trans (show vs 53 = .pointer (some ⟨d, 0, none⟩) from hP 53 (hp 53 (by decide)))
        have s65 : ac.tmps[65]?.getD undef = .bool true := by rw [hb]; exact (show _ = vs 48 by kernel_rfl).trans (show vs 48 = .bool true from hP 48 (hp 48 (by decide)))
        rw [if_pos (AnyO.wanted_some (g := 48) (t := 65) (want := true) rfl rfl s65)]
        clear hb hp
        clear hC
        clear h0
        have HP := Lib.hid hP
        have HWq := Lib.hid hW
        clear hP hW
        go_simp
        have hP := HP.out
        have hW := HWq.out
        clear HP HWq
        exact hK _ _ (AnyO.InvG.step (g := σ) hP rfl hW)
    · -- 55: Op.fieldAddr 91 (Operand.tmp 71) 1
      refine AnyO.StepI.mk rfl [54, 48] (by kernel_rfl) ?_
      intro D vs u hI h0 hC hp ac hb K hK
      obtain ⟨σ, hP, hW⟩ := hI
      rcases q4 with _ | _
      · have s71 : ac.tmps[71]?.getD undef = undef := by rw [hb]; exact (show _ = vs 54 by kernel_rfl).trans (show vs 54 = undef from hP 54 (hp 54 (by decide)))
        have s65 : ac.tmps[65]?.getD undef = .bool false := by rw [hb]; exact (show _ = vs 48 by kernel_rfl).trans (show vs 48 = .bool false from hP 48 (hp 48 (by decide)))
        rw [if_neg (AnyO.wanted_not (g := 48) (t := 65) (want := true) rfl rfl s65 (fun e => by cases e))]
        exact hK undef _ (AnyO.InvG.step (g := σ) hP rfl hW)
      · have s71 : ac.tmps[71]?.getD undef = .pointer (some ⟨d, 0, none⟩) := by rw [hb]; exact (show _ = vs 54 by kernel_rfl).trans (show vs 54 = .pointer (some ⟨d, 0, none⟩) from hP 54 (hp 54 (by decide)))
        have s65 : ac.tmps[65]?.getD undef = .bool true := by rw [hb]; exact (show _ = vs 48 by kernel_rfl).trans (show vs 48 = .bool true from hP 48 (hp 48 (by decide)))
        rw [if_pos (AnyO.wanted_some (g := 48) (t := 65) (want := true) rfl rfl s65)]
        clear hb hp
        clear hC
        clear h0
        have HP := Lib.hid hP
        have HWq := Lib.hid hW
        clear hP hW
        go_simp
        have hP := HP.out
        have hW := HWq.out
        clear HP HWq
        exact hK _ _ (AnyO.InvG.step (g := σ) hP rfl hW)
    · -- 56: Op.load 84 (Operand.tmp 72)
      refine AnyO.StepI.mk rfl [55, 48] (by kernel_rfl) ?_
      intro D vs u hI h0 hC hp ac hb K hK
      obtain ⟨σ, hP, hW⟩ := hI
      rcases q4 with _ | _
      · have s72 : ac.tmps[72]?.getD undef = undef := by rw [hb]; exact (show _ = vs 55 by kernel_rfl).trans (show vs 55 = undef from hP 55 (hp 55 (by decide)))
        have s65 : ac.tmps[65]?.getD undef = .bool false := by rw [hb]; exact (show _ = vs 48 by kernel_rfl).trans (show vs 48 = .bool false from hP 48 (hp 48 (by decide)))
        rw [if_neg (AnyO.wanted_not (g := 48) (t := 65) (want := true) rfl rfl s65 (fun e => by cases e))]
        exact hK undef _ (AnyO.InvG.step (g := σ) hP rfl hW)
      · have s72 : ac.tmps[72]?.getD undef = .pointer (some ⟨d, 1, none⟩) := by rw [hb]; exact (show _ = vs 55 by kernel_rfl).trans (show vs 55 = .pointer (some ⟨d, 1, none⟩) from hP 55 (hp 55 (by decide)))
        have s65 : ac.tmps[65]?.getD undef = .bool true := by rw [hb]; exact (show _ = vs 48 by kernel_rfl).trans (show vs 48 = .bool true from hP 48 (hp 48 (by decide)))
        rw [if_pos (AnyO.wanted_some (g := 48) (t := 65) (want := true) rfl rfl s65)]
        clear hb hp
        have rr := (H2.out.keep hW).c1
        clear hC
        clear h0
        have HP := Lib.hid hP
        have HWq := Lib.hid hW
        clear hP hW
        go_simp
        have hP := HP.out
        have hW := HWq.out
        clear HP HWq
        exact hK _ _ (AnyO.InvG.step (g := σ) hP rfl hW)
    · -- 57: Op.call { callee := Callee.value (Operand.func 48), args := 
      refine AnyO.StepI.mk rfl [52, 56, 48, 48] (by kernel_rfl) ?_
      intro D vs u hI h0 hC hp ac hb K hK
      obtain ⟨σ, hP, hW⟩ := hI
      rcases q4 with _ | _
      · have s69 : ac.tmps[69]?.getD undef = undef := by rw [hb]; exact (show _ = vs 52 by kernel_rfl).trans (show vs 52 = undef from hP 52 (hp 52 (by decide)))
        have s73 : ac.tmps[73]?.getD undef = undef := by rw [hb]; exact (show _ = vs 56 by kernel_rfl).trans (show vs 56 = undef from hP 56 (hp 56 (by decide)))
        have s65 : ac.tmps[65]?.getD undef = .bool false := by rw [hb]; exact (show _ = vs 48 by kernel_rfl).trans (show vs 48 = .bool false from hP 48 (hp 48 (by decide)))
        rw [if_neg (AnyO.wanted_not (g := 48) (t := 65) (want := true) rfl rfl s65 (fun e => by cases e))]
        exact hK undef _ (AnyO.InvG.step (g := σ) hP rfl hW)
      · have s69 : ac.tmps[69]?.getD undef = .slice A1 l1 c1 := by rw [hb]; exact (show _ = vs 52 by kernel_rfl).trans (show vs 52 = .slice A1 l1 c1 from hP 52 (hp 52 (by decide)))
        have s73 : ac.tmps[73]?.getD undef = .slice A2 l2 c2 := by rw [hb]; exact (show _ = vs 56 by kernel_rfl).trans (show vs 56 = .slice A2 l2 c2 from hP 56 (hp 56 (by decide)))
        have s65 : ac.tmps[65]?.getD undef = .bool true := by rw [hb]; exact (show _ = vs 48 by kernel_rfl).trans (show vs 48 = .bool true from hP 48 (hp 48 (by decide)))
        rw [if_pos (AnyO.wanted_some (g := 48) (t := 65) (want := true) rfl rfl s65)]
        clear hb hp
        clear hC
        clear h0
        have HP := Lib.hid hP
        have HWq := Lib.hid hW
        clear hP hW
        go_simp
        have hP := HP.out
        have hW := HWq.out
        clear HP HWq
        go_at_call 48
        refine (equal48 A1 A2 l1 l2 c1 c2 s.wait t.wait u HS.out.1.1 HS.out.2.1.1 (HS.out.1.2.1.keep hW) (HS.out.2.1.2.1.keep hW) HS.out.1.2.2).mono ?_
        rintro e w2 ⟨rfl, hb⟩
        rw [HE.out.2.2.2.1]
        exact hK _ _ (AnyO.InvG.step (g := σ) hP rfl (Below.step hW hb))
    · -- 58: Op.pick (Operand.tmp 65) (Operand.tmp 74) (Operand.const (Va
      refine AnyO.StepI.mk rfl [48, 57] (by kernel_rfl) ?_
      intro D vs u hI h0 hC hp ac hb K hK
      obtain ⟨σ, hP, hW⟩ := hI
      rcases q4 with _ | _
      · have s65 : ac.tmps[65]?.getD undef = .bool false := by rw [hb]; exact (show _ = vs 48 by kernel_rfl).trans (show vs 48 = .bool false from hP 48 (hp 48 (by decide)))
        have s74 : ac.tmps[74]?.getD undef = undef := by rw [hb]; exact (show _ = vs 57 by kernel_rfl).trans (show vs 57 = undef from hP 57 (hp 57 (by decide)))
        rw [if_pos (AnyO.wanted_none rfl)]
        clear hb hp
        clear hC
        clear h0
        have HP := Lib.hid hP
        have HWq := Lib.hid hW
        clear hP hW
        go_simp
        have hP := HP.out
        have hW := HWq.out
        clear HP HWq
        obtain rfl : q5 = false := HQ5.out.symm
        exact hK _ _ (AnyO.InvG.step (g := σ) hP rfl hW)
      · have s65 : ac.tmps[65]?.getD undef = .bool true := by rw [hb]; exact (show _ = vs 48 by kernel_rfl).trans (show vs 48 = .bool true from hP 48 (hp 48 (by decide)))
        have s74 : ac.tmps[74]?.getD undef = .bool x5 := by rw [hb]; exact (show _ = vs 57 by kernel_rfl).trans (show vs 57 = .bool x5 from hP 57 (hp 57 (by decide)))
        rw [if_pos (AnyO.wanted_none rfl)]
        clear hb hp
        clear hC
        clear h0
        have HP := Lib.hid hP
        have HWq := Lib.hid hW
        clear hP hW
        go_simp
        have hP := HP.out
        have hW := HWq.out
        clear HP HWq
        obtain rfl : q5 = x5 := HQ5.out.symm
        exact hK _ _ (AnyO.InvG.step (g := σ) hP rfl hW)
    · -- 59: Op.move (Operand.tmp 75)
      refine AnyO.StepI.mk rfl [58, 57] (by kernel_rfl) ?_
      intro D vs u hI h0 hC hp ac hb K hK
      obtain ⟨σ, hP, hW⟩ := hI
      have s75 : ac.tmps[75]?.getD undef = .bool q5 := by rw [hb]; exact (show _ = vs 58 by kernel_rfl).trans (show vs 58 = .bool q5 from hP 58 (hp 58 (by decide)))
      rw [if_pos (AnyO.wanted_none rfl)]
      clear hb hp
      clear hC
      clear h0
      have HP := Lib.hid hP
      have HWq := Lib.hid hW
      clear hP hW
      go_simp
      have hP := HP.out
      have hW := HWq.out
      clear HP HWq
      exact hK _ _ (AnyO.InvG.step (g := σ) hP rfl hW)
    · -- 60: Op.move (Operand.tmp 0)
      refine AnyO.StepI.mk rfl [59] (by kernel_rfl) ?_
      intro D vs u hI h0 hC hp ac hb K hK
      obtain ⟨σ, hP, hW⟩ := hI
      rcases q5 with _ | _
      · have s0 : ac.tmps[0]?.getD undef = .pointer (some ⟨b, 0, none⟩) := by rw [hb]; kernel_rfl
        have s76 : ac.tmps[76]?.getD undef = .bool false := by rw [hb]; exact (show _ = vs 59 by kernel_rfl).trans (show vs 59 = .bool false from hP 59 (hp 59 (by decide)))
        rw [if_neg (AnyO.wanted_not (g := 59) (t := 76) (want := true) rfl rfl s76 (fun e => by cases e))]
        exact hK undef _ (AnyO.InvG.step (g := σ) hP rfl hW)
      · have s0 : ac.tmps[0]?.getD undef = .pointer (some ⟨b, 0, none⟩) := by rw [hb]; kernel_rfl
        have s76 : ac.tmps[76]?.getD undef = .bool true := by rw [hb]; exact (show _ = vs 59 by kernel_rfl).trans (show vs 59 = .bool true from hP 59 (hp 59 (by decide)))
        rw [if_pos (AnyO.wanted_some (g := 59) (t := 76) (want := true) rfl rfl s76)]
        clear hb hp
        clear hC
        clear h0
        have HP := Lib.hid hP
        have HWq := Lib.hid hW
        clear hP hW
        go_simp
        have hP := HP.out
        have hW := HWq.out
        clear HP HWq
        exact hK _ _ (AnyO.InvG.step (g := σ) hP rfl hW)
    · -- 61: Op.nilCheck (Operand.tmp 77)
      refine AnyO.StepI.mk rfl [60, 59] (by kernel_rfl) ?_
      intro D vs u hI h0 hC hp ac hb K hK
      obtain ⟨σ, hP, hW⟩ := hI
      rcases q5 with _ | _
      · have s77 : ac.tmps[77]?.getD undef = undef := by rw [hb]; exact (show _ = vs 60 by kernel_rfl).trans (show vs 60 = undef from hP 60 (hp 60 (by decide)))
        have s76 : ac.tmps[76]?.getD undef = .bool false := by rw [hb]; exact (show _ = vs 59 by kernel_rfl).trans (show vs 59 = .bool false from hP 59 (hp 59 (by decide)))
        rw [if_neg (AnyO.wanted_not (g := 59) (t := 76) (want := true) rfl rfl s76 (fun e => by cases e))]
        exact hK undef _ (AnyO.InvG.step (g := σ) hP rfl hW)
      · have s77 : ac.tmps[77]?.getD undef = .pointer (some ⟨b, 0, none⟩) := by rw [hb]; exact (show _ = vs 60 by kernel_rfl).trans (show vs 60 = .pointer (some ⟨b, 0, none⟩) from hP 60 (hp 60 (by decide)))
        have s76 : ac.tmps[76]?.getD undef = .bool true := by rw [hb]; exact (show _ = vs 59 by kernel_rfl).trans (show vs 59 = .bool true from hP 59 (hp 59 (by decide)))
        rw [if_pos (AnyO.wanted_some (g := 59) (t := 76) (want := true) rfl rfl s76)]
        clear hb hp
        clear hC
        clear h0
        have HP := Lib.hid hP
        have HWq := Lib.hid hW
        clear hP hW
        go_simp
        have hP := HP.out
        have hW := HWq.out
        clear HP HWq
        exact hK _ _ (AnyO.InvG.step (g := σ) hP rfl hW)
    · -- 62: Op.fieldAddr 91 (Operand.tmp 78) 4
      refine AnyO.StepI.mk rfl [61, 59] (by kernel_rfl) ?_
      intro D vs u hI h0 hC hp ac hb K hK
      obtain ⟨σ, hP, hW⟩ := hI
      rcases q5 with _ | _
      · have s78 : ac.tmps[78]?.getD undef = undef := by rw [hb]; exact (show _ = vs 61 by kernel_rfl).trans (show vs 61 = undef from hP 61 (hp 61 (by decide)))
        have s76 : ac.tmps[76]?.getD undef = .bool false := by rw [hb]; exact (show _ = vs 59 by kernel_rfl).trans (show vs 59 = .bool false from hP 59 (hp 59 (by decide)))
        rw [if_neg (AnyO.wanted_not (g := 59) (t := 76) (want := true) rfl rfl s76 (fun e => by cases e))]
        exact hK undef _ (AnyO.InvG.step (g := σ) hP rfl hW)
      · have s78 : ac.tmps[78]?.getD undef = .pointer (some ⟨b, 0, none⟩) := by rw [hb]; exact (show _ = vs 61 by kernel_rfl).trans (show vs 61 = .pointer (some ⟨b, 0, none⟩) from hP 61 (hp 61 (by decide)))
        have s76 : ac.tmps[76]?.getD undef = .bool true := by rw [hb]; exact (show _ = vs 59 by kernel_rfl).trans (show vs 59 = .bool true from hP 59 (hp 59 (by decide)))
        rw [if_pos (AnyO.wanted_some (g := 59) (t := 76) (want := true) rfl rfl s76)]
        clear hb hp
        clear hC
        clear h0
        have HP := Lib.hid hP
        have HWq := Lib.hid hW
        clear hP hW
        go_simp
        have hP := HP.out
        have hW := HWq.out
        clear HP HWq
        exact hK _ _ (AnyO.InvG.step (g := σ) hP rfl hW)
    · -- 63: Op.load 65 (Operand.tmp 79)
      refine AnyO.StepI.mk rfl [62, 59] (by kernel_rfl) ?_
      intro D vs u hI h0 hC hp ac hb K hK
      obtain ⟨σ, hP, hW⟩ := hI
      rcases q5 with _ | _
      · have s79 : ac.tmps[79]?.getD undef = undef := by rw [hb]; exact (show _ = vs 62 by kernel_rfl).trans (show vs 62 = undef from hP 62 (hp 62 (by decide)))
        have s76 : ac.tmps[76]?.getD undef = .bool false := by rw [hb]; exact (show _ = vs 59 by kernel_rfl).trans (show vs 59 = .bool false from hP 59 (hp 59 (by decide)))
        rw [if_neg (AnyO.wanted_not (g := 59) (t := 76) (want := true) rfl rfl s76 (fun e => by cases e))]
        exact hK undef _ (AnyO.InvG.step (g := σ) hP rfl hW)
      · have s79 : ac.tmps[79]?.getD undef = .pointer (some ⟨b, 37, none⟩) := by rw [hb]; exact (show _ = vs 62 by kernel_rfl).trans (show vs 62 = .pointer (some ⟨b, 37, none⟩) from hP 62 (hp 62 (by decide)))
        have s76 : ac.tmps[76]?.getD undef = .bool true := by rw [hb]; exact (show _ = vs 59 by kernel_rfl).trans (show vs 59 = .bool true from hP 59 (hp 59 (by decide)))
        rw [if_pos (AnyO.wanted_some (g := 59) (t := 76) (want := true) rfl rfl s76)]
        clear hb hp
        have rr := (H1.out.keep hW).c37
        clear hC
        clear h0
        have HP := Lib.hid hP
        have HWq := Lib.hid hW
        clear hP hW
        go_simp
        have hP := HP.out
        have hW := HWq.out
        clear HP HWq
        exact hK _ _ (AnyO.InvG.step (g := σ) hP rfl hW)
    · -- 64: Op.move (Operand.tmp 1)
      refine AnyO.StepI.mk rfl [59] (by kernel_rfl) ?_
      intro D vs u hI h0 hC hp ac hb K hK
      obtain ⟨σ, hP, hW⟩ := hI
      rcases q5 with _ | _
      · have s1 : ac.tmps[1]?.getD undef = .pointer (some ⟨d, 0, none⟩) := by rw [hb]; kernel_rfl
        have s76 : ac.tmps[76]?.getD undef = .bool false := by rw [hb]; exact (show _ = vs 59 by kernel_rfl).trans (show vs 59 = .bool false from hP 59 (hp 59 (by decide)))
        rw [if_neg (AnyO.wanted_not (g := 59) (t := 76) (want := true) rfl rfl s76 (fun e => by cases e))]
        exact hK undef _ (AnyO.InvG.step (g := σ) hP rfl hW)
      · have s1 : ac.tmps[1]?.getD undef = .pointer (some ⟨d, 0, none⟩) := by rw [hb]; kernel_rfl
        have s76 : ac.tmps[76]?.getD undef = .bool true := by rw [hb]; exact (show _ = vs 59 by kernel_rfl).trans (show vs 59 = .bool true from hP 59 (hp 59 (by decide)))
        rw [if_pos (AnyO.wanted_some (g := 59) (t := 76) (want := true) rfl rfl s76)]
        clear hb hp
        clear hC
        clear h0
        have HP := Lib.hid hP
        have HWq := Lib.hid hW
        clear hP hW
        go_simp
        have hP := HP.out
        have hW := HWq.out
        clear HP HWq
        exact hK _ _ (AnyO.InvG.step (g := σ) hP rfl hW)
    · -- 65: Op.nilCheck (Operand.tmp 81)
      refine AnyO.StepI.mk rfl [64, 59] (by kernel_rfl) ?_
      intro D vs u hI h0 hC hp ac hb K hK
      obtain ⟨σ, hP, hW⟩ := hI
      rcases q5 with _ | _
      · have s81 : ac.tmps[81]?.getD undef = undef := by rw [hb]; exact (show _ = vs 64 by kernel_rfl).trans (show vs 64 = undef from hP 64 (hp 64 (by decide)))
        have s76 : ac.tmps[76]?.getD undef = .bool false := by rw [hb]; exact (show _ = vs 59 by kernel_rfl).trans (show vs 59 = .bool false from hP 59 (hp 59 (by decide)))
        rw [if_neg (AnyO.wanted_not (g := 59) (t := 76) (want := true) rfl rfl s76 (fun e => by cases e))]
        exact hK undef _ (AnyO.InvG.step (g := σ) hP rfl hW)
      · have s81 : ac.tmps[81]?.getD undef = .pointer (some ⟨d, 0, none⟩) := by rw [hb]; exact (show _ = vs 64 by kernel_rfl).trans (show vs 64 = .pointer (some ⟨d, 0, none⟩) from hP 64 (hp 64 (by decide)))
        have s76 : ac.tmps[76]?.getD undef = .bool true := by rw [hb]; exact (show _ = vs 59 by kernel_rfl).trans (show vs 59 = .bool true from hP 59 (hp 59 (by decide)))
        rw [if_pos (AnyO.wanted_some (g := 59) (t := 76) (want := true) rfl rfl s76)]
        clear hb hp
        clear hC
        clear h0
        have HP := Lib.hid hP
        have HWq := Lib.hid hW
        clear hP hW
        go_simp
        have hP := HP.out
        have hW := HWq.out
        clear HP HWq
        exact hK _ _ (AnyO.InvG.step (g := σ) hP rfl hW)
    · -- 66: Op.fieldAddr 91 (Operand.tmp 82) 4
      refine AnyO.StepI.mk rfl [65, 59] (by kernel_rfl) ?_
      intro D vs u hI h0 hC hp ac hb K hK
      obtain ⟨σ, hP, hW⟩ := hI
      rcases q5 with _ | _
      · have s82 : ac.tmps[82]?.getD undef = undef := by rw [hb]; exact (show _ = vs 65 by kernel_rfl).trans (show vs 65 = undef from hP 65 (hp 65 (by decide)))
        have s76 : ac.tmps[76]?.getD undef = .bool false := by rw [hb]; exact (show _ = vs 59 by kernel_rfl).trans (show vs 59 = .bool false from hP 59 (hp 59 (by decide)))
        rw [if_neg (AnyO.wanted_not (g := 59) (t := 76) (want := true) rfl rfl s76 (fun e => by cases e))]
        exact hK undef _ (AnyO.InvG.step (g := σ) hP rfl hW)
      · have s82 : ac.tmps[82]?.getD undef = .pointer (some ⟨d, 0, none⟩) := by rw [hb]; exact (show _ = vs 65 by kernel_rfl).trans (show vs 65 = .pointer (some ⟨d, 0, none⟩) from hP 65 (hp 65 (by decide)))
        have s76 : ac.tmps[76]?.getD undef = .bool true := by rw [hb]; exact (show _ = vs 59 by kernel_rfl).trans (show vs 59 = .bool true from hP 59 (hp 59 (by decide)))
        rw [if_pos (AnyO.wanted_some (g := 59) (t := 76) (want := true) rfl rfl s76)]
        clear hb hp
        clear hC
        clear h0
        have HP := Lib.hid hP
        have HWq := Lib.hid hW
        clear hP hW
        go_simp
        have hP := HP.out
        have hW := HWq.out
        clear HP HWq
        exact hK _ _ (AnyO.InvG.step (g := σ) hP rfl hW)
    · -- 67: Op.load 65 (Operand.tmp 83)
      refine AnyO.StepI.mk rfl [66, 59] (by kernel_rfl) ?_
      intro D vs u hI h0 hC hp ac hb K hK
      obtain ⟨σ, hP, hW⟩ := hI
      rcases q5 with _ | _
      · have s83 : ac.tmps[83]?.getD undef = undef := by rw [hb]; exact (show _ = vs 66 by kernel_rfl).trans (show vs 66 = undef from hP 66 (hp 66 (by decide)))
        have s76 : ac.tmps[76]?.getD undef = .bool false := by rw [hb]; exact (show _ = vs 59 by kernel_rfl).trans (show vs 59 = .bool false from hP 59 (hp 59 (by decide)))
        rw [if_neg (AnyO.wanted_not (g := 59) (t := 76) (want := true) rfl rfl s76 (fun e => by cases e))]
        exact hK undef _ (AnyO.InvG.step (g := σ) hP rfl hW)
      · have s83 : ac.tmps[83]?.getD undef = .pointer (some ⟨d, 37, none⟩) := by rw [hb]; exact (show _ = vs 66 by kernel_rfl).trans (show vs 66 = .pointer (some ⟨d, 37, none⟩) from hP 66 (hp 66 (by decide)))
        have s76 : ac.tmps[76]?.getD undef = .bool true := by rw [hb]; exact (show _ = vs 59 by kernel_rfl).trans (show vs 59 = .bool true from hP 59 (hp 59 (by decide)))
        rw [if_pos (AnyO.wanted_some (g := 59) (t := 76) (want := true) rfl rfl s76)]
        clear hb hp
        have rr := (H2.out.keep hW).c37
        clear hC
        clear h0
        have HP := Lib.hid hP
        have HWq := Lib.hid hW
        clear hP hW
        go_simp
        have hP := HP.out
        have hW := HWq.out
        clear HP HWq
        exact hK _ _ (AnyO.InvG.step (g := σ) hP rfl hW)
    · -- 68: Op.call { callee := Callee.value (Operand.func 49), args := 
      refine AnyO.StepI.mk rfl [63, 67, 59, 59] (by kernel_rfl) ?_
      intro D vs u hI h0 hC hp ac hb K hK
      obtain ⟨σ, hP, hW⟩ := hI
      rcases q5 with _ | _
      · have s80 : ac.tmps[80]?.getD undef = undef := by rw [hb]; exact (show _ = vs 63 by kernel_rfl).trans (show vs 63 = undef from hP 63 (hp 63 (by decide)))
        have s84 : ac.tmps[84]?.getD undef = undef := by rw [hb]; exact (show _ = vs 67 by kernel_rfl).trans (show vs 67 = undef from hP 67 (hp 67 (by decide)))
        have s76 : ac.tmps[76]?.getD undef = .bool false := by rw [hb]; exact (show _ = vs 59 by kernel_rfl).trans (show vs 59 = .bool false from hP 59 (hp 59 (by decide)))
        rw [if_neg (AnyO.wanted_not (g := 59) (t := 76) (want := true) rfl rfl s76 (fun e => by cases e))]
        exact hK undef _ (AnyO.InvG.step (g := σ) hP rfl hW)
      · have s80 : ac.tmps[80]?.getD undef = .slice A3 l3 c3 := by rw [hb]; exact (show _ = vs 63 by kernel_rfl).trans (show vs 63 = .slice A3 l3 c3 from hP 63 (hp 63 (by decide)))
        have s84 : ac.tmps[84]?.getD undef = .slice A4 l4 c4 := by rw [hb]; exact (show _ = vs 67 by kernel_rfl).trans (show vs 67 = .slice A4 l4 c4 from hP 67 (hp 67 (by decide)))
        have s76 : ac.tmps[76]?.getD undef = .bool true := by rw [hb]; exact (show _ = vs 59 by kernel_rfl).trans (show vs 59 = .bool true from hP 59 (hp 59 (by decide)))
        rw [if_pos (AnyO.wanted_some (g := 59) (t := 76) (want := true) rfl rfl s76)]
        clear hb hp
        clear hC
        clear h0
        have HP := Lib.hid hP
        have HWq := Lib.hid hW
        clear hP hW
        go_simp
        have hP := HP.out
        have hW := HWq.out
        clear HP HWq
        go_at_call 49
        refine (equal49 A3 A4 l3 l4 c3 c4 s.outs t.outs u HS.out.2.2.1.1 HS.out.2.2.2.1 (HS.out.2.2.1.2.1.keep hW) (HS.out.2.2.2.2.keep hW) HS.out.2.2.1.2.2).mono ?_
        rintro e w2 ⟨rfl, hb⟩
        rw [HE.out.2.2.2.2.1]
        exact hK _ _ (AnyO.InvG.step (g := σ) hP rfl (Below.step hW hb))
    · -- 69: Op.pick (Operand.tmp 76) (Operand.tmp 85) (Operand.const (Va
      refine AnyO.StepI.mk rfl [59, 68] (by kernel_rfl) ?_
      intro D vs u hI h0 hC hp ac hb K hK
      obtain ⟨σ, hP, hW⟩ := hI
      rcases q5 with _ | _
      · have s76 : ac.tmps[76]?.getD undef = .bool false := by rw [hb]; exact (show _ = vs 59 by kernel_rfl).trans (show vs 59 = .bool false from hP 59 (hp 59 (by decide)))
        have s85 : ac.tmps[85]?.getD undef = undef := by rw [hb]; exact (show _ = vs 68 by kernel_rfl).trans (show vs 68 = undef from hP 68 (hp 68 (by decide)))
        rw [if_pos (AnyO.wanted_none rfl)]
        clear hb hp
        clear hC
        clear h0
        have HP := Lib.hid hP
        have HWq := Lib.hid hW
        clear hP hW
        go_simp
        have hP := HP.out
        have hW := HWq.out
        clear HP HWq
        obtain rfl : q6 = false := HQ6.out.symm
        exact hK _ _ (AnyO.InvG.step (g := σ) hP rfl hW)
      · have s76 : ac.tmps[76]?.getD undef = .bool true := by rw [hb]; exact (show _ = vs 59 by kernel_rfl).trans (show vs 59 = .bool true from hP 59 (hp 59 (by decide)))
        have s85 : ac.tmps[85]?.getD undef = .bool x6 := by rw [hb]; exact (show _ = vs 68 by kernel_rfl).trans (show vs 68 = .bool x6 from hP 68 (hp 68 (by decide)))
        rw [if_pos (AnyO.wanted_none rfl)]
        clear hb hp
        clear hC
        clear h0
        have HP := Lib.hid hP
        have HWq := Lib.hid hW
        clear hP hW
        go_simp
        have hP := HP.out
        have hW := HWq.out
        clear HP HWq
        obtain rfl : q6 = x6 := HQ6.out.symm
        exact hK _ _ (AnyO.InvG.step (g := σ) hP rfl hW)
    · -- 70: Op.assign (Operand.tmp 86)
      refine AnyO.StepI.mk rfl [69, 68, 0, 1, 2, 3, 4, 5, 6, 7, 8, 9, 10, 11, 12, 13, 14, 15, 16, 17, 18, 19, 20, 21, 22, 23, 24, 25, 26, 27, 28, 29, 30, 31, 32, 33, 34, 35, 36, 37, 38, 39, 40, 41, 42, 43, 44, 45, 46, 47, 48, 49, 50, 51, 52, 53, 54, 55, 56, 57, 58, 59, 60, 61, 62, 63, 64, 65, 66, 67, 68, 69] (by kernel_rfl) ?_
      intro D vs u hI h0 hC hp ac hb K hK
      obtain ⟨σ, hP, hW⟩ := hI
      have s86 : ac.tmps[86]?.getD undef = .bool q6 := by rw [hb]; exact (show _ = vs 69 by kernel_rfl).trans (show vs 69 = .bool q6 from hP 69 (hp 69 (by decide)))
      rw [if_pos (AnyO.wanted_none rfl)]
      clear hb hp
      clear hC
      clear h0
      have HP := Lib.hid hP
      have HWq := Lib.hid hW
      clear hP hW
      go_simp
      have hP := HP.out
      have hW := HWq.out
      clear HP HWq
      exact hK _ _ (AnyO.InvG.step (g := σ) hP rfl hW)
  · intro D vs u hI hD
    obtain ⟨σ, hP, hW⟩ := hI
    have e0 : vs 0 = .pointer (some ⟨b, 0, none⟩) := hP 0 (hD 0 (by decide))
    have e1 : vs 1 = .pointer (some ⟨b, 0, none⟩) := hP 1 (hD 1 (by decide))
    have e2 : vs 2 = .pointer (some ⟨b, 0, none⟩) := hP 2 (hD 2 (by decide))
    have e3 : vs 3 = .int .i64 ch := hP 3 (hD 3 (by decide))
    have e4 : vs 4 = .pointer (some ⟨d, 0, none⟩) := hP 4 (hD 4 (by decide))
    have e5 : vs 5 = .pointer (some ⟨d, 0, none⟩) := hP 5 (hD 5 (by decide))
    have e6 : vs 6 = .pointer (some ⟨d, 0, none⟩) := hP 6 (hD 6 (by decide))
    have e7 : vs 7 = .int .i64 ch := hP 7 (hD 7 (by decide))
    have e8 : vs 8 = .bool true := hP 8 (hD 8 (by decide))
    have e9 : vs 9 = .bool true := hP 9 (hD 9 (by decide))
    have e10 : vs 10 = .pointer (some ⟨b, 0, none⟩) := hP 10 (hD 10 (by decide))
    have e11 : vs 11 = .pointer (some ⟨b, 0, none⟩) := hP 11 (hD 11 (by decide))
    have e12 : vs 12 = .pointer (some ⟨b, 2, none⟩) := hP 12 (hD 12 (by decide))
    have e13 : vs 13 = .int .i64 st := hP 13 (hD 13 (by decide))
    have e14 : vs 14 = .pointer (some ⟨d, 0, none⟩) := hP 14 (hD 14 (by decide))
    have e15 : vs 15 = .pointer (some ⟨d, 0, none⟩) := hP 15 (hD 15 (by decide))
    have e16 : vs 16 = .pointer (some ⟨d, 2, none⟩) := hP 16 (hD 16 (by decide))
    have e17 : vs 17 = .int .i64 su := hP 17 (hD 17 (by decide))
    have e18 : vs 18 = .bool q2 := hP 18 (hD 18 (by decide))
    have e19 : vs 19 = .bool q2 := hP 19 (hD 19 (by decide))
    have e20 : vs 20 = .bool q2 := hP 20 (hD 20 (by decide))
    have e21 : vs 21 = (bif q2 then .pointer (some ⟨b, 0, none⟩) else undef) := hP 21 (hD 21 (by decide))
    have e22 : vs 22 = (bif q2 then .pointer (some ⟨b, 0, none⟩) else undef) := hP 22 (hD 22 (by decide))
    have e23 : vs 23 = (bif q2 then .pointer (some ⟨b, 3, none⟩) else undef) := hP 23 (hD 23 (by decide))
    have e24 : vs 24 = (bif q2 then .pointer (some ⟨b, 3, none⟩) else undef) := hP 24 (hD 24 (by decide))
    have e25 : vs 25 = (bif q2 then vA ca else undef) := hP 25 (hD 25 (by decide))
    have e26 : vs 26 = (bif q2 then .pointer (some ⟨d, 0, none⟩) else undef) := hP 26 (hD 26 (by decide))
    have e27 : vs 27 = (bif q2 then .pointer (some ⟨d, 0, none⟩) else undef) := hP 27 (hD 27 (by decide))
    have e28 : vs 28 = (bif q2 then .pointer (some ⟨d, 3, none⟩) else undef) := hP 28 (hD 28 (by decide))
    have e29 : vs 29 = (bif q2 then .pointer (some ⟨d, 3, none⟩) else undef) := hP 29 (hD 29 (by decide))
    have e30 : vs 30 = (bif q2 then vA cb else undef) := hP 30 (hD 30 (by decide))
    have e31 : vs 31 = (bif q2 then .bool x3 else undef) := hP 31 (hD 31 (by decide))
    have e32 : vs 32 = .bool q3 := hP 32 (hD 32 (by decide))
    have e33 : vs 33 = .bool q3 := hP 33 (hD 33 (by decide))
    have e34 : vs 34 = (bif q3 then .pointer (some ⟨b, 0, none⟩) else undef) := hP 34 (hD 34 (by decide))
    have e35 : vs 35 = (bif q3 then .pointer (some ⟨b, 0, none⟩) else undef) := hP 35 (hD 35 (by decide))
    have e36 : vs 36 = (bif q3 then .pointer (some ⟨b, 3, none⟩) else undef) := hP 36 (hD 36 (by decide))
    have e37 : vs 37 = (bif q3 then .pointer (some ⟨b, 36, none⟩) else undef) := hP 37 (hD 37 (by decide))
    have e38 : vs 38 = (bif q3 then .pointer p1 else undef) := hP 38 (hD 38 (by decide))
    have e39 : vs 39 = (bif q3 then .int .i64 n1 else undef) := hP 39 (hD 39 (by decide))
    have e40 : vs 40 = (bif q3 then .pointer (some ⟨d, 0, none⟩) else undef) := hP 40 (hD 40 (by decide))
    have e41 : vs 41 = (bif q3 then .pointer (some ⟨d, 0, none⟩) else undef) := hP 41 (hD 41 (by decide))
    have e42 : vs 42 = (bif q3 then .pointer (some ⟨d, 3, none⟩) else undef) := hP 42 (hD 42 (by decide))
    have e43 : vs 43 = (bif q3 then .pointer (some ⟨d, 36, none⟩) else undef) := hP 43 (hD 43 (by decide))
    have e44 : vs 44 = (bif q3 then .pointer p2 else undef) := hP 44 (hD 44 (by decide))
    have e45 : vs 45 = (bif q3 then .int .i64 n2 else undef) := hP 45 (hD 45 (by decide))
    have e46 : vs 46 = (bif q3 then .bool x4 else undef) := hP 46 (hD 46 (by decide))
    have e47 : vs 47 = .bool q4 := hP 47 (hD 47 (by decide))
    have e48 : vs 48 = .bool q4 := hP 48 (hD 48 (by decide))
    have e49 : vs 49 = (bif q4 then .pointer (some ⟨b, 0, none⟩) else undef) := hP 49 (hD 49 (by decide))
    have e50 : vs 50 = (bif q4 then .pointer (some ⟨b, 0, none⟩) else undef) := hP 50 (hD 50 (by decide))
    have e51 : vs 51 = (bif q4 then .pointer (some ⟨b, 1, none⟩) else undef) := hP 51 (hD 51 (by decide))
    have e52 : vs 52 = (bif q4 then .slice A1 l1 c1 else undef) := hP 52 (hD 52 (by decide))
    have e53 : vs 53 = (bif q4 then .pointer (some ⟨d, 0, none⟩) else undef) := hP 53 (hD 53 (by decide))
    have e54 : vs 54 = (bif q4 then .pointer (some ⟨d, 0, none⟩) else undef) := hP 54 (hD 54 (by decide))
    have e55 : vs 55 = (bif q4 then .pointer (some ⟨d, 1, none⟩) else undef) := hP 55 (hD 55 (by decide))
    have e56 : vs 56 = (bif q4 then .slice A2 l2 c2 else undef) := hP 56 (hD 56 (by decide))
    have e57 : vs 57 = (bif q4 then .bool x5 else undef) := hP 57 (hD 57 (by decide))
    have e58 : vs 58 = .bool q5 := hP 58 (hD 58 (by decide))
    have e59 : vs 59 = .bool q5 := hP 59 (hD 59 (by decide))
    have e60 : vs 60 = (bif q5 then .pointer (some ⟨b, 0, none⟩) else undef) := hP 60 (hD 60 (by decide))
    have e61 : vs 61 = (bif q5 then .pointer (some ⟨b, 0, none⟩) else undef) := hP 61 (hD 61 (by decide))
    have e62 : vs 62 = (bif q5 then .pointer (some ⟨b, 37, none⟩) else undef) := hP 62 (hD 62 (by decide))
    have e63 : vs 63 = (bif q5 then .slice A3 l3 c3 else undef) := hP 63 (hD 63 (by decide))
    have e64 : vs 64 = (bif q5 then .pointer (some ⟨d, 0, none⟩) else undef) := hP 64 (hD 64 (by decide))
    have e65 : vs 65 = (bif q5 then .pointer (some ⟨d, 0, none⟩) else undef) := hP 65 (hD 65 (by decide))
    have e66 : vs 66 = (bif q5 then .pointer (some ⟨d, 37, none⟩) else undef) := hP 66 (hD 66 (by decide))
    have e67 : vs 67 = (bif q5 then .slice A4 l4 c4 else undef) := hP 67 (hD 67 (by decide))
    have e68 : vs 68 = (bif q5 then .bool x6 else undef) := hP 68 (hD 68 (by decide))
    have e69 : vs 69 = .bool q6 := hP 69 (hD 69 (by decide))
    have e70 : vs 70 = .bool q6 := hP 70 (hD 70 (by decide))
    have HW := Lib.hid hW
    clear hW hP hD
    rw [puts_range [some 17, some 18, some 19, some 20, some 21, some 22, some 23, some 24, some 25, some 26, some 27, some 28, some 29, some 30, some 31, some 32, some 33, some 34, some 35, some 36, some 37, some 38, some 39, some 40, some 41, some 42, some 43, some 44, some 45, some 46, some 47, some 48, some 49, some 50, some 51, some 52, some 53, some 54, some 55, some 56, some 57, some 58, some 59, some 60, some 61, some 62, some 63, some 64, some 65, some 66, some 67, some 68, some 69, some 70, some 71, some 72, some 73, some 74, some 75, some 76, some 77, some 78, some 79, some 80, some 81, some 82, some 83, some 84, some 85, some 86, some 4] (by kernel_rfl)]
    simp only [putL, Nat.reduceAdd, e0, e1, e2, e3, e4, e5, e6, e7, e8, e9, e10, e11, e12, e13, e14, e15, e16, e17, e18, e19, e20, e21, e22, e23, e24, e25, e26, e27, e28, e29, e30, e31, e32, e33, e34, e35, e36, e37, e38, e39, e40, e41, e42, e43, e44, e45, e46, e47, e48, e49, e50, e51, e52, e53, e54, e55, e56, e57, e58, e59, e60, e61, e62, e63, e64, e65, e66, e67, e68, e69, e70]
    clear e0 e1 e2 e3 e4 e5 e6 e7 e8 e9 e10 e11 e12 e13 e14 e15 e16 e17 e18 e19 e20 e21 e22 e23 e24 e25 e26 e27 e28 e29 e30 e31 e32 e33 e34 e35 e36 e37 e38 e39 e40 e41 e42 e43 e44 e45 e46 e47 e48 e49 e50 e51 e52 e53 e54 e55 e56 e57 e58 e59 e60 e61 e62 e63 e64 e65 e66 e67 e68 e69 e70
    go_simp
    go_wp2
    go_ret
    refine ⟨?_, HW.out⟩
    rw [HE.out.2.2.2.2.2]
    rfl

end Go.Proofs.YtlelecnafdddhaaDoor
