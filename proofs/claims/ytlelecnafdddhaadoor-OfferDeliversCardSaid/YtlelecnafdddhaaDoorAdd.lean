/- Sender.Add. -/
import Derived.Test.YtlelecnafdddhaaDoorHas
import Derived.Test.YtlelecnafdddhaaDoorTailI
import Derived.Maps.AppendAt
namespace Go.Proofs.YtlelecnafdddhaaDoor
open Go.RowKit
theorem cell_below {w w' : World} {a : Addr} {v : Value} (h : w.cell? a = some v) (hb : Below w.heap.size w w') : w'.cell? a = some v := by
  refine (World.cell?_of_block (hb.block _ ?_)).trans h
  unfold World.cell? at h
  split at h
  · rename_i hh
    exact (Array.getElem?_eq_some_iff.1 hh).1
  · cases h
theorem row86 : (Tryd.prog.info? 86).map (fun i => (i.zero.map (·.cells.size), i.size, i.bytes)) = some (some 33, 33, 48) := by kernel_rfl
theorem row68 : (Tryd.prog.info? 68).map (fun i => (i.zero.map (·.cells.size), i.size, i.bytes)) = some (some 34, 34, 48) := by kernel_rfl
/-- append, at whatever operation: what is appended is there, at least one element. -/
theorem wp_append_at {P : Program} (w : World) {α : Type} {o : Oper} {a : Act} {K : Act → World → Prop} {Q : Exit → Act → World → Prop} (sx x : Operand) (t : TypeId)
    (ho : o.op = .call { callee := .builtin .append, args := #[sx, x], argTypes := #[t, t] })
    (base : Nat) (e : TypeId) (s bytes : Nat) (enc : α → List Value) (ht : P.underlying t = some (.slice e)) (hi : (P.info? e).map (fun i => (i.zero.map (·.cells.size), i.size, i.bytes)) = some (some s, s, bytes)) (hsz : 0 < s)
    (hs : ∀ x, (enc x).length = s) (h1 : ∀ x, ∀ u ∈ enc x, u.oneCell' = true)
    (v : Value) (xs : List α) (hv : a.eval sx = v) (hown : Own w base e s enc v xs)
    (ad : Addr) (m c : Nat) (ys : List α) (hm : ys.length = m) (hx : a.eval x = .slice (some ad) m c) (hat : At w ad (ys.flatMap enc))
    (hlen : (xs.length + m) * bytes ≤ 140737488355328) (hl2 : xs.length + m ≤ 9223372036854775807) (hbase : base ≤ w.heap.size)
    (h : ∀ v' w', Own w' base e s enc v' (xs ++ ys) → w.grownBy w' v.ownBlock → (v'.ownBlock = v.ownBlock ∨ v'.ownBlock = some w.heap.size) → K (a.put o.dst v') w') : o.wp P a w K Q := by
  subst hm
  cases hq : P.info? e with
  | none => rw [hq] at hi; cases hi
  | some i =>
    simp only [hq, Option.map_some, Option.some.injEq, Prod.mk.injEq] at hi
    obtain ⟨hz, hsi, hby⟩ := hi
    cases hz0 : i.zero with
    | none => rw [hz0] at hz; cases hz
    | some z =>
      simp only [hz0, Option.map_some, Option.some.injEq] at hz
      obtain ⟨v', w', hr, h2, h3, _, h5⟩ := run_append_own_at (P := P) w base t o.type e i z s bytes ht hq hz0 hsi hby hz hsz v xs.length (xs.flatMap enc) hown ad ys.length c (ys.flatMap enc) (flatMap_length enc s hs ys) hat.2 (by
        intro u hu
        obtain ⟨y, _, hy⟩ := List.mem_flatMap.1 hu
        exact h1 y u hy) (by unfold maxLen; omega) hlen hbase
      unfold Oper.wp execOp
      simp only [ho, resolve, invoke, builtin, Sem.run_bind, Sem.run_pure, Result.andThen_ok, List.map_toArray, List.map_cons, List.map_nil, hv, hx, hr]
      refine h v' w' ?_ h3 h5
      unfold Own
      rw [List.length_append, List.flatMap_append]
      exact h2
/-- A new row that holds these articles, behind the world w1. -/
def newA (w1 : World) (ys : List Art) (v : Value) (u : World) : Prop := ∃ g, v = .slice (some ⟨g, 0, none⟩) 1 1 ∧ w1.heap.size ≤ g ∧ Row u g (ys.flatMap cA) 86
theorem newA.mk {w1 : World} (u : World) {a : Art} (h : w1.heap.size ≤ u.heap.size) : newA w1 [a] (.slice (some ⟨u.heap.size, 0, none⟩) 1 1) (u.alloc (.cells (aAs [a]) 86)) := ⟨_, rfl, h, Row.new u _ 86⟩
/-- What an append onto the row of vw leaves: the longer list, in that row or in a new one; every other block of w1 as it was. -/
def ApA (vw : Value) (w1 : World) (l : List Art) (v : Value) (u : World) : Prop :=
  Own u 0 86 33 cA v l ∧ (v.ownBlock = vw.ownBlock ∨ ∃ g, v.ownBlock = some g ∧ w1.heap.size ≤ g) ∧ w1.heap.size ≤ u.heap.size ∧ (u.os = w1.os ∧ u.tape = w1.tape ∧ u.output = w1.output) ∧ ∀ k, k < w1.heap.size → vw.ownBlock ≠ some k → u.heap[k]? = w1.heap[k]?
theorem ApA.mk {vw v2 : Value} {w1 u u2 : World} {l : List Art} (hB : Below w1.heap.size w1 u) (ho : Own u2 0 86 33 cA v2 l) (hg : u.grownBy u2 vw.ownBlock) (hb : v2.ownBlock = vw.ownBlock ∨ v2.ownBlock = some u.heap.size) : ApA vw w1 l v2 u2 :=
  ⟨ho, hb.imp id fun e => ⟨_, e, hB.size⟩, Nat.le_trans hB.size hg.size, ⟨hg.os.trans hB.os, hg.tape.trans hB.tape, hg.output.trans hB.output⟩, fun k hk hne => (hg.block k (Nat.lt_of_lt_of_le hk hB.size) (fun e => hne e.symm)).trans (hB.block k hk)⟩
theorem setCell_os (w : World) (a : Addr) (v : Value) : (w.setCell a v).os = w.os ∧ (w.setCell a v).tape = w.tape ∧ (w.setCell a v).output = w.output ∧ (w.setCell a v).heap.size = w.heap.size := ⟨rfl, rfl, rfl, by simp [World.setCell]⟩
theorem ApA.far {vw v : Value} {w1 u : World} {l : List Art} (ha : ApA vw w1 l v u) {k : Nat} (hk : k < w1.heap.size) (hne : vw.ownBlock ≠ some k) : v.ownBlock ≠ some k := by
  rcases ha.2.1 with e | ⟨g, e, hg⟩
  · rw [e]; exact hne
  · rw [e]; intro e2; injection e2 with e2; omega
theorem Rp.setWait {b : Nat} {ch : Int} {s : St} {F : List Nat} {vw vo v : Value} {q : Option Addr} {w1 u : World} {l : List Art} (h : Rp b ch s F vw vo q w1) (ha : ApA vw w1 l v u) :
    ∃ F', Rep b ch { s with wait := l } F' (u.setCell ⟨b, 1, none⟩ v) ∧ Kp F F' w1 (u.setCell ⟨b, 1, none⟩ v) := by
  have hbw : vw.ownBlock ≠ some b := fun e => (h.wF b e).2.1 rfl
  have hbv := ha.far h.row.lt hbw
  obtain ⟨ho, hor, hsz, hos, hk⟩ := ha
  have far : ∀ k, k < w1.heap.size → vw.ownBlock ≠ some k → v.ownBlock ≠ some k := fun k h1 h2 => ApA.far ⟨ho, hor, hsz, hos, hk⟩ h1 h2
  have hset : ∀ k, k ≠ b → (u.setCell ⟨b, 1, none⟩ v).heap[k]? = u.heap[k]? := fun k hkb => heap_set_other u b 1 v k hkb
  obtain ⟨F', hF1, hF2, hF3⟩ : ∃ F' : List Nat, (∀ k ∈ F, k ∈ F') ∧ (∀ k, v.ownBlock = some k → k ∈ F') ∧ (∀ k, k < w1.heap.size → k ∉ F → k ∉ F') := by
    cases hv : v.ownBlock with
    | none => exact ⟨F, fun _ h => h, fun _ e => (by cases e), fun _ _ h => h⟩
    | some g =>
      refine ⟨g :: F, fun _ h => List.mem_cons_of_mem _ h, fun k e => by injection e with e; subst e; simp, fun k hk1 hk2 hm => ?_⟩
      rcases List.mem_cons.1 hm with e | hm
      · subst e
        rcases hor with e | ⟨g', e, hg'⟩
        · exact hk2 (h.wF k (by rw [← e, hv])).1
        · rw [hv] at e; injection e with e; omega
      · exact hk2 hm
  refine ⟨F', ⟨v, vo, q, ⟨?_, ?_, ?_, h.none_, fun t ht => ?_, hF1 b h.bF, fun k e => ⟨hF2 k e, fun e2 => hbv (e2 ▸ e), fun e2 => ?_⟩, fun k e => ⟨hF1 k (h.oF k e).1, (h.oF k e).2⟩⟩⟩, ⟨hos.1, hos.2.1, hos.2.2, ?_, fun k hk1 hk2 => ⟨hF3 k hk1 hk2, ?_⟩⟩⟩
  · exact (h.row.same (hk b h.row.lt hbw)).set 1 v
  · exact ho.same fun k e => hset k (fun e2 => hbv (e2 ▸ e))
  · refine h.oo.same fun k e => (hset k (h.oF k e).2).trans (hk k (h.oo.lt k e).2 fun e2 => (h.wF k e2).2.2 e)
  · obtain ⟨g, e1, e2, e3, e4, e5, e6⟩ := h.some_ t ht
    exact ⟨g, e1, e2, hF1 g e3, e4.same ((hset g e2).trans (hk g e4.lt e5)), far g e4.lt e5, e6⟩
  · exact far k (h.oo.lt k e2).2 (fun e3 => (h.wF k e3).2.2 e2) e
  · rw [(setCell_os u _ v).2.2.2]; exact hsz
  · exact (hset k (fun e => hk2 (e ▸ h.bF))).trans (hk k hk1 fun e => hk2 (h.wF k e).1)
/-- Does a text hold a carriage return? -/
def crL (s : ByteArray) : Bool := decide (0 ≤ Lib.indexByte s.data.toList 13)
set_option maxRecDepth 100000 in
set_option maxHeartbeats 1600000 in
theorem add15_ok (b : Nat) (ch : Int) (s : St) (F : List Nat) (x : Id) (t : ByteArray) (w : World) (h : Rep b ch s F w) (hx : x ≠ zI) (ht : t.toList.isEmpty = false) (hts : t.size ≤ 65536) (hcr : crL t = false) (hh : hasS s x = false) (hl : s.wait.length < 1024) :
    Calls Tryd.prog 15 #[.pointer (some ⟨b, 0, none⟩), vI x, .string t] w fun e w' => e = .returned (.int .i64 0) ∧ ∃ F', Rep b ch { s with wait := s.wait ++ [(x, t)] } F' w' ∧ Kp F F' w w' := by
  obtain ⟨vw, vo, q, h⟩ := h
  have r1 := h.c1
  obtain ⟨A, c, hvw, hc, hsl⟩ := h.ow.sl
  have hlt := h.row.lt
  have hdx : decide (x = zI) = false := decide_eq_false hx
  have HX := Lib.hid (And.intro h (And.intro hh hcr))
  subst hvw
  clear hsl h hh hcr hx
  generalize hn : s.wait.length = n at *
  go_enter Tryd.func15, Tryd.ntmps15
  go_wp2_with (first
    | (go_at_call 37; refine (Tryd.strings_Contains_one t 13 _).mono ?_; rintro e w1 ⟨rfl, rfl⟩; rw [show decide (0 ≤ Lib.indexByte t.data.toList 13) = false from HX.out.2.2])
    | (go_at_call 38; refine (has38 b ch s F x _ (Rep.keep ⟨_, _, _, HX.out.1⟩ (below_alloc w (.cells (aI x) 40))) (by omega)).mono ?_; rintro e w1 ⟨rfl, hb⟩; rw [HX.out.2.1]; have rx := okA_below (okA_n40 w x 40 w.heap.size rfl) (by simp) hb; rw [rdA_n40 w x 40 w.heap.size rfl] at rx; obtain ⟨rx1, rx2⟩ := rx; have H1 := Lib.hid (And.intro hb (show w.heap.size < w1.heap.size by have := hb.size; simp at this; omega)); have HR := Lib.hid (And.intro ((HX.out.1.keep (below_alloc w (.cells (aI x) 40))).keep hb) (show s.wait.length ≤ 4294967296 by omega)); replace r1 := cell_below r1 (Below.step (below_alloc w (.cells (aI x) 40)) hb); clear hb))
  refine AnyO.wp_any_tailI 10 (by kernel_rfl) (by kernel_rfl) (by kernel_rfl) (by kernel_rfl) (by kernel_rfl) (by kernel_rfl) (AnyO.InvA 9 8 (AnyO.pvL [some (.pointer (some ⟨b, 0, none⟩)), some (.pointer (some ⟨b, 0, none⟩)), some (.pointer (some ⟨b, 0, none⟩)), some (.pointer (some ⟨b, 1, none⟩)), some (.slice A n c), some (vI x), some (.string t), some (vA (x, t)), none, none]) (w1) (newA w1 [(x, t)]) (ApA (.slice A n c) w1 (s.wait ++ [(x, t)]))) (AnyO.InvA.start (by decide)) ?_ ?_
  · intro i hi
    have hi2 : i = 0 ∨ i = 1 ∨ i = 2 ∨ i = 3 ∨ i = 4 ∨ i = 5 ∨ i = 6 ∨ i = 7 ∨ i = 8 ∨ i = 9 := by omega
    clear hi
    rcases hi2 with rfl | rfl | rfl | rfl | rfl | rfl | rfl | rfl | rfl | rfl
    · -- 0: Op.move (Operand.tmp 0)
      refine AnyO.StepI.mk rfl [] (by kernel_rfl) ?_
      intro D vs u hI h0 hC hp ac hb K hK
      have s0 : ac.tmps[0]?.getD undef = .pointer (some ⟨b, 0, none⟩) := by rw [hb]; kernel_rfl
      rw [if_pos (AnyO.wanted_none rfl)]
      clear hb
      go_simp
      exact hK _ _ (AnyO.InvA.pure hI (by decide) (by decide) rfl)
    · -- 1: Op.move (Operand.tmp 0)
      refine AnyO.StepI.mk rfl [] (by kernel_rfl) ?_
      intro D vs u hI h0 hC hp ac hb K hK
      have s0 : ac.tmps[0]?.getD undef = .pointer (some ⟨b, 0, none⟩) := by rw [hb]; kernel_rfl
      rw [if_pos (AnyO.wanted_none rfl)]
      clear hb
      go_simp
      exact hK _ _ (AnyO.InvA.pure hI (by decide) (by decide) rfl)
    · -- 2: Op.nilCheck (Operand.tmp 38)
      refine AnyO.StepI.mk rfl [1] (by kernel_rfl) ?_
      intro D vs u hI h0 hC hp ac hb K hK
      have s38 : ac.tmps[38]?.getD undef = .pointer (some ⟨b, 0, none⟩) := by rw [hb]; exact (show _ = vs 1 by kernel_rfl).trans (show vs 1 = .pointer (some ⟨b, 0, none⟩) from hI.1 1 (hp 1 (by decide)))
      rw [if_pos (AnyO.wanted_none rfl)]
      clear hb
      go_simp
      exact hK _ _ (AnyO.InvA.pure hI (by decide) (by decide) rfl)
    · -- 3: Op.fieldAddr 91 (Operand.tmp 39) 1
      refine AnyO.StepI.mk rfl [2] (by kernel_rfl) ?_
      intro D vs u hI h0 hC hp ac hb K hK
      have s39 : ac.tmps[39]?.getD undef = .pointer (some ⟨b, 0, none⟩) := by rw [hb]; exact (show _ = vs 2 by kernel_rfl).trans (show vs 2 = .pointer (some ⟨b, 0, none⟩) from hI.1 2 (hp 2 (by decide)))
      rw [if_pos (AnyO.wanted_none rfl)]
      clear hb
      go_simp
      exact hK _ _ (AnyO.InvA.pure hI (by decide) (by decide) rfl)
    · -- 4: Op.load 84 (Operand.tmp 40)
      refine AnyO.StepI.mk rfl [3] (by kernel_rfl) ?_
      intro D vs u hI h0 hC hp ac hb K hK
      have s40 : ac.tmps[40]?.getD undef = .pointer (some ⟨b, 1, none⟩) := by rw [hb]; exact (show _ = vs 3 by kernel_rfl).trans (show vs 3 = .pointer (some ⟨b, 1, none⟩) from hI.1 3 (hp 3 (by decide)))
      rw [if_pos (AnyO.wanted_none rfl)]
      have hnm : D 9 = false := by
        rcases hd : D 9 with _ | _
        · rfl
        · have q4 := hC 9 hd 4 (by rw [show AnyO.pre _ 9 = [4, 8] from by kernel_rfl]; decide)
          rw [h0] at q4
          cases q4
      have hB := (hI.2.1 hnm).1
      clear hb
      have rr := cell_below r1 hB
      go_simp
      exact hK _ _ (AnyO.InvA.pure hI (by decide) (by decide) rfl)
    · -- 5: Op.load 40 (Operand.tmp 4)
      refine AnyO.StepI.mk rfl [] (by kernel_rfl) ?_
      intro D vs u hI h0 hC hp ac hb K hK
      have s4 : ac.tmps[4]?.getD undef = .pointer (some ⟨w.heap.size, 0, none⟩) := by rw [hb]; kernel_rfl
      rw [if_pos (AnyO.wanted_none rfl)]
      have hnm : D 9 = false := by
        rcases hd : D 9 with _ | _
        · rfl
        · have q8 := hC 9 hd 8 (by rw [show AnyO.pre _ 9 = [4, 8] from by kernel_rfl]; decide)
          have q7 := hC 8 q8 7 (by rw [show AnyO.pre _ 8 = [7] from by kernel_rfl]; decide)
          have q5 := hC 7 q7 5 (by rw [show AnyO.pre _ 7 = [5, 6] from by kernel_rfl]; decide)
          rw [h0] at q5
          cases q5
      have hB := (hI.2.1 hnm).1
      clear hb
      have rr := okA_below rx1 H1.out.2 hB
      rw [rx2] at rr
      obtain ⟨rr1, rr2⟩ := rr
      go_simp
      exact hK _ _ (AnyO.InvA.pure hI (by decide) (by decide) rfl)
    · -- 6: Op.move (Operand.tmp 2)
      refine AnyO.StepI.mk rfl [] (by kernel_rfl) ?_
      intro D vs u hI h0 hC hp ac hb K hK
      have s2 : ac.tmps[2]?.getD undef = .string t := by rw [hb]; kernel_rfl
      rw [if_pos (AnyO.wanted_none rfl)]
      clear hb
      go_simp
      exact hK _ _ (AnyO.InvA.pure hI (by decide) (by decide) rfl)
    · -- 7: Op.build 86 #[(0, Operand.tmp 42), (1, Operand.tmp 43)]
      refine AnyO.StepI.mk rfl [5, 6] (by kernel_rfl) ?_
      intro D vs u hI h0 hC hp ac hb K hK
      have s42 : ac.tmps[42]?.getD undef = vI x := by rw [hb]; exact (show _ = vs 5 by kernel_rfl).trans (show vs 5 = vI x from hI.1 5 (hp 5 (by decide)))
      have s43 : ac.tmps[43]?.getD undef = .string t := by rw [hb]; exact (show _ = vs 6 by kernel_rfl).trans (show vs 6 = .string t from hI.1 6 (hp 6 (by decide)))
      rw [if_pos (AnyO.wanted_none rfl)]
      clear hb
      go_simp
      exact hK _ _ (AnyO.InvA.pure hI (by decide) (by decide) rfl)
    · -- 8: Op.buildSlice 84 1 #[(0, Operand.tmp 44)]
      refine AnyO.StepI.mk rfl [7] (by kernel_rfl) ?_
      intro D vs u hI h0 hC hp ac hb K hK
      have s44 : ac.tmps[44]?.getD undef = vA (x, t) := by rw [hb]; exact (show _ = vs 7 by kernel_rfl).trans (show vs 7 = vA (x, t) from hI.1 7 (hp 7 (by decide)))
      rw [if_pos (AnyO.wanted_none rfl)]
      have hnm : D 9 = false := by
        rcases hd : D 9 with _ | _
        · rfl
        · have q8 := hC 9 hd 8 (by rw [show AnyO.pre _ 9 = [4, 8] from by kernel_rfl]; decide)
          rw [h0] at q8
          cases q8
      have hB := (hI.2.1 hnm).1
      clear hb
      go_simp
      exact hK _ _ (AnyO.InvA.slice hI (by decide) hnm (below_alloc _ _) trivial (newA.mk u hB.size))
    · -- 9: Op.call { callee := Callee.builtin Builtin.append, args := #
      refine AnyO.StepI.mk rfl [4, 8] (by kernel_rfl) ?_
      intro D vs u hI h0 hC hp ac hb K hK
      have s41 : ac.tmps[41]?.getD undef = .slice A n c := by rw [hb]; exact (show _ = vs 4 by kernel_rfl).trans (show vs 4 = .slice A n c from hI.1 4 (hp 4 (by decide)))
      have s45 : ac.tmps[45]?.getD undef = vs 8 := by rw [hb]; kernel_rfl
      rw [if_pos (AnyO.wanted_none rfl)]
      have hnm : D 9 = false := h0
      have hB := (hI.2.1 hnm).1
      clear hb
      obtain ⟨g, hg, hge, hrow⟩ := (hI.2.1 hnm).2 (hp 8 (by decide))
      rw [hg] at s45
      refine wp_append_at _ (.tmp 41) (.tmp 45) 84 rfl 0 86 33 48 cA Tryd.underlying84 row86 (by decide) cA_length cA_one (.slice A n c) s.wait (by simpa [Act.eval] using s41) (Own.keep HR.out.1.ow hB) ⟨g, 0, none⟩ 1 1 [(x, t)] rfl (by simpa [Act.eval] using s45) (hrow.at_ (k := 0) (n := 33) (by rw [List.drop_zero, List.take_of_length_le]; simp [cA_length])) (by have := HR.out.2; simp; omega) (by have := HR.out.2; simp; omega) (by omega) ?_
      intro v2 u2 ho hgr hbk
      exact hK _ _ (AnyO.InvA.app hI trivial (ApA.mk hB ho hgr hbk))
  · intro D vs u hI hD
    have e0 : vs 0 = .pointer (some ⟨b, 0, none⟩) := hI.1 0 (hD 0 (by decide))
    have e1 : vs 1 = .pointer (some ⟨b, 0, none⟩) := hI.1 1 (hD 1 (by decide))
    have e2 : vs 2 = .pointer (some ⟨b, 0, none⟩) := hI.1 2 (hD 2 (by decide))
    have e3 : vs 3 = .pointer (some ⟨b, 1, none⟩) := hI.1 3 (hD 3 (by decide))
    have e4 : vs 4 = .slice A n c := hI.1 4 (hD 4 (by decide))
    have e5 : vs 5 = vI x := hI.1 5 (hD 5 (by decide))
    have e6 : vs 6 = .string t := hI.1 6 (hD 6 (by decide))
    have e7 : vs 7 = vA (x, t) := hI.1 7 (hD 7 (by decide))
    have hA := hI.2.2 (hD 9 (by decide))
    clear hI hD
    rw [puts_range [some 37, some 38, some 39, some 40, some 41, some 42, some 43, some 44, some 45, some 46] (by kernel_rfl)]
    simp only [putL, Nat.reduceAdd, List.drop_succ_cons, List.drop_zero, e0, e1, e2, e3, e4, e5, e6, e7]
    clear e0 e1 e2 e3 e4 e5 e6 e7
    generalize vs 9 = vm at hA ⊢
    generalize vs 8 = vl
    have hcell := (World.cell?_of_block (a := ⟨b, 1, none⟩) (hA.2.2.2.2 b HR.out.1.row.lt (fun e => (HR.out.1.wF b e).2.1 rfl))).trans r1
    have hfz := (World.frozen?_of_block (a := ⟨b, 1, none⟩) (hA.2.2.2.2 b HR.out.1.row.lt (fun e => (HR.out.1.wF b e).2.1 rfl))).trans (HR.out.1.row.fz 1)
    have hvm : ∃ A2 n2 c2, vm = .slice A2 n2 c2 := by obtain ⟨A2, c2, e, _⟩ := hA.1.sl; exact ⟨A2, _, c2, e⟩
    have HF := Lib.hid (Rp.setWait HR.out.1 hA)
    obtain ⟨A2, n2, c2, rfl⟩ := hvm
    clear hA
    go_simp
    go_wp2
    go_ret
    obtain ⟨F', h1, h2⟩ := HF.out
    exact ⟨rfl, F', h1, Kp.trans (Kp.of_below (Below.step (below_alloc w (.cells (aI x) 40)) H1.out.1)) h2⟩
end Go.Proofs.YtlelecnafdddhaaDoor
