/- Sender.Drop and Sender.Outcomes. -/
import Derived.Test.YtlelecnafdddhaaDoorSay2
namespace Go.Proofs.YtlelecnafdddhaaDoor
open Go.RowKit
/-- Three stores into a sender's row: the list that waits, the delivery, the state. -/
theorem store_facts {b : Nat} {ch : Int} {vw vo : Value} {st : Int} {a : Art} {q : Option Addr} {w5 : World} (h : Row w5 b (cSn ch vw st a q vo) 91) (v : Value) (a' : Art) (q' : Option Addr) (n : Int) (U1 U2 U3 : World) (h1 : U1 = w5.setCell ⟨b, 1, none⟩ v) (h2 : U2 = stD U1 b 3 (cD a' q')) (h3 : U3 = U2.setCell ⟨b, 2, none⟩ (.int .i64 n)) :
    (w5.cell? ⟨b, 1, none⟩ = some vw ∧ w5.frozen? ⟨b, 1, none⟩ = false) ∧ stOk U1 b 3 34 = true ∧ (U2.cell? ⟨b, 2, none⟩ = some (.int .i64 st) ∧ U2.frozen? ⟨b, 2, none⟩ = false) ∧
    Row U3 b (cSn ch v n a' q' vo) 91 ∧ Only b w5 U3 ∧ (∀ j, j ≠ b → U3.heap[j]? = w5.heap[j]?) := by
  have row1 : Row U1 b (cSn ch v st a q vo) 91 := by rw [h1]; exact h.set 1 v
  have row2 : Row U2 b (cSn ch v st a' q' vo) 91 := by rw [h2]; exact row_del row1 a' q'
  have row3 : Row U3 b (cSn ch v n a' q' vo) 91 := by rw [h3]; exact row2.set 2 (.int .i64 n)
  have o1 : ∀ j, j ≠ b → U1.heap[j]? = w5.heap[j]? := fun j hj => by rw [h1]; exact heap_set_other w5 b 1 v j hj
  have o2 : ∀ j, j ≠ b → U2.heap[j]? = U1.heap[j]? := fun j hj => by rw [h2]; exact heap_stD_other U1 b 3 _ j hj
  have o3 : ∀ j, j ≠ b → U3.heap[j]? = U2.heap[j]? := fun j hj => by rw [h3]; exact heap_set_other U2 b 2 _ j hj
  refine ⟨⟨h.cell 1, h.fz 1⟩, Row.ok _ row1 3 34 (by rw [cSn_length]; omega), ⟨row2.cell 2, row2.fz 2⟩, row3, ?_, fun j hj => (o3 j hj).trans ((o2 j hj).trans (o1 j hj))⟩
  subst h3 h2 h1
  exact ((Only.setCell b 1 w5 v).trans (Only.stD _ 3 _)).trans (Only.setCell b 2 _ _)
set_option maxRecDepth 100000 in
set_option maxHeartbeats 800000 in
theorem outcomes25 (b : Nat) (ch : Int) (s : St) (F : List Nat) (w : World) (h : Rep b ch s F w) :
    Calls Tryd.prog 25 #[.pointer (some ⟨b, 0, none⟩)] w fun e w' => ∃ A n c, e = .returned (.slice A n c) ∧ s.outs.length = n ∧ Sl w' cO A s.outs ∧ Rep b ch { s with outs := [] } F w' ∧ Kp F F w w' := by
  obtain ⟨vw, vo, q, h⟩ := h
  have r37 := h.c37
  have f37 := h.row.fz 37
  have hlt := h.row.lt
  obtain ⟨A, c, hvo, hc, hsl⟩ := h.oo.sl
  subst hvo
  have HX := Lib.hid (And.intro h hsl)
  generalize hn : s.outs.length = n at *
  clear h hsl
  go_enter Tryd.func25, Tryd.ntmps25
  go_wp2
  go_ret
  have hp := HX.out.1
  have hset : ∀ k, k ≠ b → (w.setCell ⟨b, 37, none⟩ (.slice none 0 0)).heap[k]? = w.heap[k]? := fun k hk => heap_set_other w b 37 _ k hk
  have hrow := hp.row.set 37 (.slice none 0 0)
  rw [cSn_set37] at hrow
  refine ⟨A, n, c, rfl, rfl, ?_, ⟨vw, .slice none 0 0, q, ⟨hrow, hp.ow.same fun k e => hset k (hp.wF k e).2.1, Own.nil _ _ _ _ _, hp.none_, fun t ht => ?_, hp.bF, fun k e => ⟨(hp.wF k e).1, (hp.wF k e).2.1, fun e2 => by cases e2⟩, fun k e => by cases e⟩⟩, ⟨rfl, rfl, rfl, by simp [World.setCell], fun k _ h2 => ⟨h2, hset k (fun e => h2 (e ▸ hp.bF))⟩⟩⟩
  · obtain ⟨A2, c2, e, _, hs⟩ := (hp.oo.same (w' := w.setCell ⟨b, 37, none⟩ (.slice none 0 0)) fun k e => hset k (hp.oF k e).2).sl
    injection e with e1 _ _
    rw [e1]
    exact hs
  · obtain ⟨g, e1, e2, e3, e4, e5, e6⟩ := hp.some_ t ht
    exact ⟨g, e1, e2, e3, e4.same (hset g e2), e5, fun e => by cases e⟩
set_option maxRecDepth 100000 in
set_option maxHeartbeats 800000 in
theorem drop31_idle (b : Nat) (ch : Int) (s : St) (F : List Nat) (w : World) (h : Rep b ch s F w) (h0 : s.state = 0) :
    Calls Tryd.prog 31 #[.pointer (some ⟨b, 0, none⟩)] w fun e w' => e = .returned (.int .i64 0) ∧ w' = w := by
  obtain ⟨vw, vo, q, h⟩ := h
  have r2 := h.c2
  rw [h0] at r2
  clear h h0
  go_enter Tryd.func31, Tryd.ntmps31
  go_wp2
  go_ret
  exact ⟨rfl, rfl⟩
set_option maxRecDepth 100000 in
set_option maxHeartbeats 1600000 in
theorem drop31 (b : Nat) (ch : Int) (s : St) (F : List Nat) (x : Id) (t : ByteArray) (w : World) (h : Rep b ch s F w) (h0 : s.state ≠ 0) (hcur : s.cur = (x, t)) (hm : s.wait.length ≤ 100000) :
    Calls Tryd.prog 31 #[.pointer (some ⟨b, 0, none⟩)] w fun e w' => e = .returned (.int .i64 0) ∧ ∃ F', Rep b ch ⟨(x, t) :: s.wait, 0, zA, s.outs, none⟩ F' w' ∧ Kp F F' w w' := by
  obtain ⟨vw, vo, q, h⟩ := h
  have r1 := h.c1
  have r2 := h.c2
  obtain ⟨k3, k3'⟩ := h.art
  rw [hcur] at k3'
  have hlt := h.row.lt
  obtain ⟨A, c, hvw, hc, hsl⟩ := h.ow.sl
  subst hvw
  generalize hn : s.wait.length = n at *
  obtain ⟨st, hst⟩ : ∃ st, s.state = st := ⟨_, rfl⟩
  rw [hst] at r2 h0
  have HX := Lib.hid (And.intro h (And.intro hsl hn))
  clear h hsl hcur hst
  go_enter Tryd.func31, Tryd.ntmps31
  go_wp2_with fail
  refine AnyO.wp_any_tailI 12 (by kernel_rfl) (by kernel_rfl) (by kernel_rfl) (by kernel_rfl) (by kernel_rfl) (by kernel_rfl) (AnyO.InvA 11 6 (AnyO.pvL [some (.pointer (some ⟨b, 0, none⟩)), some (.pointer (some ⟨b, 0, none⟩)), some (.pointer (some ⟨b, 0, none⟩)), some (.pointer (some ⟨b, 3, none⟩)), some (.pointer (some ⟨b, 3, none⟩)), some (vA (x, t)), none, some (.pointer (some ⟨b, 0, none⟩)), some (.pointer (some ⟨b, 0, none⟩)), some (.pointer (some ⟨b, 1, none⟩)), some (.slice A n c), none]) (w) (fun v u => Own u w.heap.size 86 33 cA v [(x, t)]) (fun v u => Own u w.heap.size 86 33 cA v ((x, t) :: s.wait) ∧ Below w.heap.size w u)) (AnyO.InvA.start (by decide)) ?_ ?_
  · intro i hi
    have hi2 : i = 0 ∨ i = 1 ∨ i = 2 ∨ i = 3 ∨ i = 4 ∨ i = 5 ∨ i = 6 ∨ i = 7 ∨ i = 8 ∨ i = 9 ∨ i = 10 ∨ i = 11 := by omega
    clear hi
    rcases hi2 with rfl | rfl | rfl | rfl | rfl | rfl | rfl | rfl | rfl | rfl | rfl | rfl
    · -- 0: Op.move (Operand.tmp 0)
      refine AnyO.StepI.mk rfl [] (by kernel_rfl) ?_
      intro D vs u hI h0 hC hp ac hb K hK
      have s0 : ac.tmps[0]?.getD undef = .pointer (some ⟨b, 0, none⟩) := by rw [hb]; kernel_rfl
      rw [if_pos (AnyO.wanted_none rfl)]
      clear hb
      go_simp
      exact hK _ _ (AnyO.InvA.pure hI (by decide) (by decide) rfl)
    · -- 1: Op.move (Operand.tmp 0)
      refine AnyO.StepI.mk rfl [] (by kernel_rfl) ?_
      intro D vs u hI h0 hC hp ac hb K hK
      have s0 : ac.tmps[0]?.getD undef = .pointer (some ⟨b, 0, none⟩) := by rw [hb]; kernel_rfl
      rw [if_pos (AnyO.wanted_none rfl)]
      clear hb
      go_simp
      exact hK _ _ (AnyO.InvA.pure hI (by decide) (by decide) rfl)
    · -- 2: Op.nilCheck (Operand.tmp 11)
      refine AnyO.StepI.mk rfl [1] (by kernel_rfl) ?_
      intro D vs u hI h0 hC hp ac hb K hK
      have s11 : ac.tmps[11]?.getD undef = .pointer (some ⟨b, 0, none⟩) := by rw [hb]; exact (show _ = vs 1 by kernel_rfl).trans (show vs 1 = .pointer (some ⟨b, 0, none⟩) from hI.1 1 (hp 1 (by decide)))
      rw [if_pos (AnyO.wanted_none rfl)]
      clear hb
      go_simp
      exact hK _ _ (AnyO.InvA.pure hI (by decide) (by decide) rfl)
    · -- 3: Op.fieldAddr 91 (Operand.tmp 12) 3
      refine AnyO.StepI.mk rfl [2] (by kernel_rfl) ?_
      intro D vs u hI h0 hC hp ac hb K hK
      have s12 : ac.tmps[12]?.getD undef = .pointer (some ⟨b, 0, none⟩) := by rw [hb]; exact (show _ = vs 2 by kernel_rfl).trans (show vs 2 = .pointer (some ⟨b, 0, none⟩) from hI.1 2 (hp 2 (by decide)))
      rw [if_pos (AnyO.wanted_none rfl)]
      clear hb
      go_simp
      exact hK _ _ (AnyO.InvA.pure hI (by decide) (by decide) rfl)
    · -- 4: Op.fieldAddr 89 (Operand.tmp 13) 0
      refine AnyO.StepI.mk rfl [3] (by kernel_rfl) ?_
      intro D vs u hI h0 hC hp ac hb K hK
      have s13 : ac.tmps[13]?.getD undef = .pointer (some ⟨b, 3, none⟩) := by rw [hb]; exact (show _ = vs 3 by kernel_rfl).trans (show vs 3 = .pointer (some ⟨b, 3, none⟩) from hI.1 3 (hp 3 (by decide)))
      rw [if_pos (AnyO.wanted_none rfl)]
      clear hb
      go_simp
      exact hK _ _ (AnyO.InvA.pure hI (by decide) (by decide) rfl)
    · -- 5: Op.load 86 (Operand.tmp 14)
      refine AnyO.StepI.mk rfl [4] (by kernel_rfl) ?_
      intro D vs u hI h0 hC hp ac hb K hK
      have s14 : ac.tmps[14]?.getD undef = .pointer (some ⟨b, 3, none⟩) := by rw [hb]; exact (show _ = vs 4 by kernel_rfl).trans (show vs 4 = .pointer (some ⟨b, 3, none⟩) from hI.1 4 (hp 4 (by decide)))
      rw [if_pos (AnyO.wanted_none rfl)]
      have hnm : D 11 = false := by
        rcases hd : D 11 with _ | _
        · rfl
        · have q6 := hC 11 hd 6 (by rw [show AnyO.pre _ 11 = [6, 10] from by kernel_rfl]; decide)
          have q5 := hC 6 q6 5 (by rw [show AnyO.pre _ 6 = [5] from by kernel_rfl]; decide)
          rw [h0] at q5
          cases q5
      have hB := (hI.2.1 hnm).1
      clear hb
      have rr := okA_below k3 hlt hB
      rw [k3'] at rr
      obtain ⟨rr1, rr2⟩ := rr
      go_simp
      exact hK _ _ (AnyO.InvA.pure hI (by decide) (by decide) rfl)
    · -- 6: Op.buildSlice 84 1 #[(0, Operand.tmp 15)]
      refine AnyO.StepI.mk rfl [5] (by kernel_rfl) ?_
      intro D vs u hI h0 hC hp ac hb K hK
      have s15 : ac.tmps[15]?.getD undef = vA (x, t) := by rw [hb]; exact (show _ = vs 5 by kernel_rfl).trans (show vs 5 = vA (x, t) from hI.1 5 (hp 5 (by decide)))
      rw [if_pos (AnyO.wanted_none rfl)]
      have hnm : D 11 = false := by
        rcases hd : D 11 with _ | _
        · rfl
        · have q6 := hC 11 hd 6 (by rw [show AnyO.pre _ 11 = [6, 10] from by kernel_rfl]; decide)
          rw [h0] at q6
          cases q6
      have hB := (hI.2.1 hnm).1
      clear hb
      go_simp
      exact hK _ _ (AnyO.InvA.slice hI (by decide) hnm (below_alloc _ _) trivial (Own.lit (w := u) cA_length [(x, t)] hB.size (by simp)))
    · -- 7: Op.move (Operand.tmp 0)
      refine AnyO.StepI.mk rfl [] (by kernel_rfl) ?_
      intro D vs u hI h0 hC hp ac hb K hK
      have s0 : ac.tmps[0]?.getD undef = .pointer (some ⟨b, 0, none⟩) := by rw [hb]; kernel_rfl
      rw [if_pos (AnyO.wanted_none rfl)]
      clear hb
      go_simp
      exact hK _ _ (AnyO.InvA.pure hI (by decide) (by decide) rfl)
    · -- 8: Op.nilCheck (Operand.tmp 17)
      refine AnyO.StepI.mk rfl [7] (by kernel_rfl) ?_
      intro D vs u hI h0 hC hp ac hb K hK
      have s17 : ac.tmps[17]?.getD undef = .pointer (some ⟨b, 0, none⟩) := by rw [hb]; exact (show _ = vs 7 by kernel_rfl).trans (show vs 7 = .pointer (some ⟨b, 0, none⟩) from hI.1 7 (hp 7 (by decide)))
      rw [if_pos (AnyO.wanted_none rfl)]
      clear hb
      go_simp
      exact hK _ _ (AnyO.InvA.pure hI (by decide) (by decide) rfl)
    · -- 9: Op.fieldAddr 91 (Operand.tmp 18) 1
      refine AnyO.StepI.mk rfl [8] (by kernel_rfl) ?_
      intro D vs u hI h0 hC hp ac hb K hK
      have s18 : ac.tmps[18]?.getD undef = .pointer (some ⟨b, 0, none⟩) := by rw [hb]; exact (show _ = vs 8 by kernel_rfl).trans (show vs 8 = .pointer (some ⟨b, 0, none⟩) from hI.1 8 (hp 8 (by decide)))
      rw [if_pos (AnyO.wanted_none rfl)]
      clear hb
      go_simp
      exact hK _ _ (AnyO.InvA.pure hI (by decide) (by decide) rfl)
    · -- 10: Op.load 84 (Operand.tmp 19)
      refine AnyO.StepI.mk rfl [9] (by kernel_rfl) ?_
      intro D vs u hI h0 hC hp ac hb K hK
      have s19 : ac.tmps[19]?.getD undef = .pointer (some ⟨b, 1, none⟩) := by rw [hb]; exact (show _ = vs 9 by kernel_rfl).trans (show vs 9 = .pointer (some ⟨b, 1, none⟩) from hI.1 9 (hp 9 (by decide)))
      rw [if_pos (AnyO.wanted_none rfl)]
      have hnm : D 11 = false := by
        rcases hd : D 11 with _ | _
        · rfl
        · have q10 := hC 11 hd 10 (by rw [show AnyO.pre _ 11 = [6, 10] from by kernel_rfl]; decide)
          rw [h0] at q10
          cases q10
      have hB := (hI.2.1 hnm).1
      clear hb
      have rr := cell_below r1 hB
      go_simp
      exact hK _ _ (AnyO.InvA.pure hI (by decide) (by decide) rfl)
    · -- 11: Op.call { callee := Callee.builtin Builtin.append, args := #
      refine AnyO.StepI.mk rfl [6, 10] (by kernel_rfl) ?_
      intro D vs u hI h0 hC hp ac hb K hK
      have s16 : ac.tmps[16]?.getD undef = vs 6 := by rw [hb]; kernel_rfl
      have s20 : ac.tmps[20]?.getD undef = .slice A n c := by rw [hb]; exact (show _ = vs 10 by kernel_rfl).trans (show vs 10 = .slice A n c from hI.1 10 (hp 10 (by decide)))
      rw [if_pos (AnyO.wanted_none rfl)]
      have hnm : D 11 = false := h0
      have hB := (hI.2.1 hnm).1
      clear hb
      have hown := (hI.2.1 hnm).2 (hp 6 (by decide))
      refine wp_append_sl u (.tmp 16) (.tmp 20) 84 rfl w.heap.size 86 33 48 cA Tryd.underlying84 row86 (by decide) cA_length cA_one (vs 6) [(x, t)] (by simpa [Act.eval] using s16) hown A n c s.wait HX.out.2.2 (by simpa [Act.eval] using s20) (HX.out.2.1.keep hB) (by have := hm; simp; omega) (by have := hm; simp; omega) hB.size ?_
      intro v2 u2 ho hgr
      exact hK _ _ (AnyO.InvA.app hI trivial ⟨ho, Own.grew hown hgr hB (Nat.le_refl _) hB.size⟩)
  · intro D vs u hI hD
    have e0 : vs 0 = .pointer (some ⟨b, 0, none⟩) := hI.1 0 (hD 0 (by decide))
    have e1 : vs 1 = .pointer (some ⟨b, 0, none⟩) := hI.1 1 (hD 1 (by decide))
    have e2 : vs 2 = .pointer (some ⟨b, 0, none⟩) := hI.1 2 (hD 2 (by decide))
    have e3 : vs 3 = .pointer (some ⟨b, 3, none⟩) := hI.1 3 (hD 3 (by decide))
    have e4 : vs 4 = .pointer (some ⟨b, 3, none⟩) := hI.1 4 (hD 4 (by decide))
    have e5 : vs 5 = vA (x, t) := hI.1 5 (hD 5 (by decide))
    have e7 : vs 7 = .pointer (some ⟨b, 0, none⟩) := hI.1 7 (hD 7 (by decide))
    have e8 : vs 8 = .pointer (some ⟨b, 0, none⟩) := hI.1 8 (hD 8 (by decide))
    have e9 : vs 9 = .pointer (some ⟨b, 1, none⟩) := hI.1 9 (hD 9 (by decide))
    have e10 : vs 10 = .slice A n c := hI.1 10 (hD 10 (by decide))
    have hA := hI.2.2 (hD 11 (by decide))
    clear hI hD
    rw [puts_range [some 10, some 11, some 12, some 13, some 14, some 15, some 16, some 17, some 18, some 19, some 20, some 21] (by kernel_rfl)]
    simp only [putL, Nat.reduceAdd, List.drop_succ_cons, List.drop_zero, e0, e1, e2, e3, e4, e5, e7, e8, e9, e10]
    clear e0 e1 e2 e3 e4 e5 e7 e8 e9 e10
    generalize vs 11 = vm at hA ⊢
    generalize vs 6 = vl
    have hvm : ∃ A2 n2 c2, vm = .slice A2 n2 c2 := by obtain ⟨A2, c2, e, _⟩ := hA.1.sl; exact ⟨A2, _, c2, e⟩
    obtain ⟨A2, n2, c2, rfl⟩ := hvm
    obtain ⟨⟨j1, j2⟩, j3, ⟨j4, j5⟩, z1, z2, z3⟩ := store_facts (HX.out.1.row.keep hA.2) (.slice A2 n2 c2) zA none 0 _ _ _ rfl rfl rfl
    have HO := Lib.hid (And.intro hA (And.intro z1 (And.intro z2 z3)))
    clear hA z1 z2 z3
    go_simp
    go_wp2
    go_ret
    have ho := HO.out.1.1
    exact ⟨rfl, Rp.moved (s' := ⟨(x, t) :: s.wait, 0, zA, s.outs, none⟩) HX.out.1 (ho.same fun k e => HO.out.2.2.2 k (by have := (ho.lt k e).1; omega)) HO.out.2.1 rfl rfl ((Only.of_below HO.out.1.2).trans HO.out.2.2.1)⟩
end Go.Proofs.YtlelecnafdddhaaDoor
