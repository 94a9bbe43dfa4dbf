/- transfer.NewSender; Sender.want; Sender.end. -/
import Derived.Test.YtlelecnafdddhaaDoorDrop
namespace Go.Proofs.YtlelecnafdddhaaDoor
open Go.RowKit
set_option maxRecDepth 100000 in
set_option maxHeartbeats 800000 in
theorem new51 (x : Id) (t : ByteArray) (ch fr : Int) (w : World) (ht : t.size ≤ 65536) (h1 : 1 ≤ ch) (h2 : ch ≤ 4096) (h3 : 0 ≤ fr) (h4 : fr ≤ (t.size : Int)) :
    Calls Tryd.prog 51 #[vI x, .string t, .int .i64 ch, .int .i64 fr] w fun e w' => ∃ g, e = .returned (.tuple #[.pointer (some ⟨g, 0, none⟩), .int .i64 0]) ∧ w.heap.size ≤ g ∧ Row w' g (cT (x, t) ch fr false) 120 ∧ Below w.heap.size w w' := by
  have q1 : ¬ (t.size : Int) > 65536 := by omega
  have q2 : ¬ ch < 1 := by omega
  have q3 : ¬ ch > 4096 := by omega
  have q4 : ¬ fr < 0 := by omega
  have q5 : ¬ fr > (t.size : Int) := by omega
  go_enter Tryd.func51, Tryd.ntmps51
  go_wp2
  go_ret2
  refine ⟨w.heap.size + 1, rfl, by omega, ?_, Below.step (below_alloc _ _) (below_alloc _ _)⟩
  have := Row.new (w.alloc (.cells (aI x) 40)) (cT (x, t) ch fr false) 120
  rwa [show (w.alloc (.cells (aI x) 40)).heap.size = w.heap.size + 1 by simp] at this
set_option maxRecDepth 100000 in
set_option maxHeartbeats 800000 in
theorem new51_range (x : Id) (t : ByteArray) (ch fr : Int) (w : World) (ht : t.size ≤ 65536) (h1 : 1 ≤ ch) (h2 : ch ≤ 4096) (h4 : (t.size : Int) < fr) :
    Calls Tryd.prog 51 #[vI x, .string t, .int .i64 ch, .int .i64 fr] w fun e w' => e = .returned (.tuple #[.pointer none, .int .i64 2]) ∧ Below w.heap.size w w' := by
  have q1 : ¬ (t.size : Int) > 65536 := by omega
  have q2 : ¬ ch < 1 := by omega
  have q3 : ¬ ch > 4096 := by omega
  have q4 : ¬ fr < 0 := by omega
  have q5 : fr > (t.size : Int) := by omega
  go_enter Tryd.func51, Tryd.ntmps51
  go_wp2
  go_ret2
  exact ⟨rfl, below_alloc _ _⟩
/-- A new row behind the world w, as a result with no error, and as a pointer. -/
def isNT (w : World) (cs : List Value) (v : Value) (u : World) : Prop := ∃ g, v = .tuple #[.pointer (some ⟨g, 0, none⟩), .int .i64 0] ∧ w.heap.size ≤ g ∧ Row u g cs 120
def isPT (w : World) (cs : List Value) (v : Value) (u : World) : Prop := ∃ g, v = .pointer (some ⟨g, 0, none⟩) ∧ w.heap.size ≤ g ∧ Row u g cs 120
theorem Mono.nt (w : World) (cs : List Value) : Mono (isNT w cs) := fun _ _ _ hb ⟨g, e, h, hr⟩ => ⟨g, e, h, hr.keep hb⟩
theorem Mono.pt (w : World) (cs : List Value) : Mono (isPT w cs) := fun _ _ _ hb ⟨g, e, h, hr⟩ => ⟨g, e, h, hr.keep hb⟩
theorem Rp.wanted {b : Nat} {ch : Int} {s : St} {F : List Nat} {vw vo : Value} {q : Option Addr} {w u : World} {g : Nat} {fr : Int} (h : Rp b ch s F vw vo q w) (hb : Below w.heap.size w u) (hg : w.heap.size ≤ g) (hr : Row u g (cT s.cur ch fr false) 120) :
    ∃ F', Rep b ch { s with state := 2, snd := some (fr, false) } F' ((u.setCell ⟨b, 36, none⟩ (.pointer (some ⟨g, 0, none⟩))).setCell ⟨b, 2, none⟩ (.int .i64 2)) ∧ Kp F F' w ((u.setCell ⟨b, 36, none⟩ (.pointer (some ⟨g, 0, none⟩))).setCell ⟨b, 2, none⟩ (.int .i64 2)) := by
  have hlt := h.row.lt
  have hrow := ((h.row.keep hb).set 36 (.pointer (some ⟨g, 0, none⟩)))
  rw [cSn_set36] at hrow
  have hrow2 := hrow.set 2 (.int .i64 2)
  rw [cSn_set2] at hrow2
  have hk : ∀ k, k ≠ b → ((u.setCell ⟨b, 36, none⟩ (.pointer (some ⟨g, 0, none⟩))).setCell ⟨b, 2, none⟩ (.int .i64 2)).heap[k]? = u.heap[k]? := fun k hk => (heap_set_other _ b 2 _ k hk).trans (heap_set_other u b 36 _ k hk)
  refine ⟨g :: F, ⟨vw, vo, some ⟨g, 0, none⟩, ⟨hrow2, (h.ow.keep hb).same fun k e => hk k (h.wF k e).2.1, (h.oo.keep hb).same fun k e => hk k (h.oF k e).2, fun e => (by cases e), fun t ht => ?_, List.mem_cons_of_mem _ h.bF, fun k e => ⟨List.mem_cons_of_mem _ (h.wF k e).1, (h.wF k e).2⟩, fun k e => ⟨List.mem_cons_of_mem _ (h.oF k e).1, (h.oF k e).2⟩⟩⟩, ⟨hb.os, hb.tape, hb.output, by have := hb.size; simpa [World.setCell] using this, fun k h1 h2 => ⟨fun hm => ?_, (hk k (fun e => h2 (e ▸ h.bF))).trans (hb.block k h1)⟩⟩⟩
  · injection ht with ht
    subst ht
    refine ⟨g, rfl, by omega, by simp, hr.same (hk g (by omega)), fun e => ?_, fun e => ?_⟩
    · have := (h.ow.lt g e).2; omega
    · have := (h.oo.lt g e).2; omega
  · rcases List.mem_cons.1 hm with e | hm
    · omega
    · exact h2 hm
set_option maxRecDepth 100000 in
set_option maxHeartbeats 1600000 in
theorem want42 (b : Nat) (ch : Int) (s : St) (F : List Nat) (x : Id) (t : ByteArray) (fr : Int) (w : World) (h : Rep b ch s F w) (hcur : s.cur = (x, t)) (ht : t.size ≤ 65536) (h1 : 1 ≤ ch) (h2 : ch ≤ 4096) (h3 : 0 ≤ fr) (h4 : fr ≤ (t.size : Int)) :
    Calls Tryd.prog 42 #[.pointer (some ⟨b, 0, none⟩), .int .i64 fr] w fun e w' => e = .returned (.int .i64 0) ∧ ∃ F', Rep b ch { s with state := 2, snd := some (fr, false) } F' w' ∧ Kp F F' w w' := by
  obtain ⟨vw, vo, q, h⟩ := h
  have k0 := h.c0
  have r2 := h.c2
  have k35 := h.c35
  have k36 := h.c36
  obtain ⟨k3, k3'⟩ := h.id
  rw [hcur] at k35 k3'
  have hlt := h.row.lt
  have HX := Lib.hid h
  have HC := Lib.hid hcur
  generalize s.state = st at r2
  clear h hcur
  go_enter Tryd.func42, Tryd.ntmps42
  go_wp2_with fail
  refine AnyO.wp_any_tail 22 (by kernel_rfl) (by kernel_rfl) (by kernel_rfl) (by kernel_rfl) (by kernel_rfl) (by kernel_rfl) (pstP [isV (.pointer (some ⟨b, 0, none⟩)), isV (.pointer (some ⟨b, 0, none⟩)), isV (.pointer (some ⟨b, 3, none⟩)), isV (.pointer (some ⟨b, 3, none⟩)), isV (.pointer (some ⟨b, 3, none⟩)), isV (vI x), isV (.pointer (some ⟨b, 0, none⟩)), isV (.pointer (some ⟨b, 0, none⟩)), isV (.pointer (some ⟨b, 3, none⟩)), isV (.pointer (some ⟨b, 3, none⟩)), isV (.pointer (some ⟨b, 35, none⟩)), isV (.string t), isV (.pointer (some ⟨b, 0, none⟩)), isV (.pointer (some ⟨b, 0, none⟩)), isV (.pointer (some ⟨b, 0, none⟩)), isV (.int .i64 ch), isV (.int .i64 fr), isNT w (cT (x, t) ch fr false), isNT w (cT (x, t) ch fr false), isPT w (cT (x, t) ch fr false), isV (.int .i64 0), isPT w (cT (x, t) ch fr false)]) (MonoL.cons (Mono.v _) (MonoL.cons (Mono.v _) (MonoL.cons (Mono.v _) (MonoL.cons (Mono.v _) (MonoL.cons (Mono.v _) (MonoL.cons (Mono.v _) (MonoL.cons (Mono.v _) (MonoL.cons (Mono.v _) (MonoL.cons (Mono.v _) (MonoL.cons (Mono.v _) (MonoL.cons (Mono.v _) (MonoL.cons (Mono.v _) (MonoL.cons (Mono.v _) (MonoL.cons (Mono.v _) (MonoL.cons (Mono.v _) (MonoL.cons (Mono.v _) (MonoL.cons (Mono.v _) (MonoL.cons (Mono.nt _ _) (MonoL.cons (Mono.nt _ _) (MonoL.cons (Mono.pt _ _) (MonoL.cons (Mono.v _) (MonoL.cons (Mono.pt _ _) MonoL.nil)))))))))))))))))))))) ?_ ?_
  · intro i hi
    have hi2 : i = 0 ∨ i = 1 ∨ i = 2 ∨ i = 3 ∨ i = 4 ∨ i = 5 ∨ i = 6 ∨ i = 7 ∨ i = 8 ∨ i = 9 ∨ i = 10 ∨ i = 11 ∨ i = 12 ∨ i = 13 ∨ i = 14 ∨ i = 15 ∨ i = 16 ∨ i = 17 ∨ i = 18 ∨ i = 19 ∨ i = 20 ∨ i = 21 := by omega
    clear hi
    rcases hi2 with rfl | rfl | rfl | rfl | rfl | rfl | rfl | rfl | rfl | rfl | rfl | rfl | rfl | rfl | rfl | rfl | rfl | rfl | rfl | rfl | rfl | rfl
    · -- 0: Op.move (Operand.tmp 0)
      refine AnyO.Step.mk rfl [] (by kernel_rfl) ?_
      intro vs u hE hp ac hb K hK
      have s0 : ac.tmps[0]?.getD undef = .pointer (some ⟨b, 0, none⟩) := by rw [hb]; kernel_rfl
      rw [if_pos (AnyO.wanted_none rfl)]
      clear hb hp
      go_simp
      exact hK _ _ (Below.refl _ _) rfl
    · -- 1: Op.nilCheck (Operand.tmp 8)
      refine AnyO.Step.mk rfl [0] (by kernel_rfl) ?_
      intro vs u hE hp ac hb K hK
      have s8 : ac.tmps[8]?.getD undef = .pointer (some ⟨b, 0, none⟩) := by rw [hb]; exact (show _ = vs 0 by kernel_rfl).trans (hp 0 (by decide))
      rw [if_pos (AnyO.wanted_none rfl)]
      clear hb hp
      go_simp
      exact hK _ _ (Below.refl _ _) rfl
    · -- 2: Op.fieldAddr 91 (Operand.tmp 9) 3
      refine AnyO.Step.mk rfl [1] (by kernel_rfl) ?_
      intro vs u hE hp ac hb K hK
      have s9 : ac.tmps[9]?.getD undef = .pointer (some ⟨b, 0, none⟩) := by rw [hb]; exact (show _ = vs 1 by kernel_rfl).trans (hp 1 (by decide))
      rw [if_pos (AnyO.wanted_none rfl)]
      clear hb hp
      go_simp
      exact hK _ _ (Below.refl _ _) rfl
    · -- 3: Op.fieldAddr 89 (Operand.tmp 10) 0
      refine AnyO.Step.mk rfl [2] (by kernel_rfl) ?_
      intro vs u hE hp ac hb K hK
      have s10 : ac.tmps[10]?.getD undef = .pointer (some ⟨b, 3, none⟩) := by rw [hb]; exact (show _ = vs 2 by kernel_rfl).trans (hp 2 (by decide))
      rw [if_pos (AnyO.wanted_none rfl)]
      clear hb hp
      go_simp
      exact hK _ _ (Below.refl _ _) rfl
    · -- 4: Op.fieldAddr 86 (Operand.tmp 11) 0
      refine AnyO.Step.mk rfl [3] (by kernel_rfl) ?_
      intro vs u hE hp ac hb K hK
      have s11 : ac.tmps[11]?.getD undef = .pointer (some ⟨b, 3, none⟩) := by rw [hb]; exact (show _ = vs 3 by kernel_rfl).trans (hp 3 (by decide))
      rw [if_pos (AnyO.wanted_none rfl)]
      clear hb hp
      go_simp
      exact hK _ _ (Below.refl _ _) rfl
    · -- 5: Op.load 40 (Operand.tmp 12)
      refine AnyO.Step.mk rfl [4] (by kernel_rfl) ?_
      intro vs u hE hp ac hb K hK
      have s12 : ac.tmps[12]?.getD undef = .pointer (some ⟨b, 3, none⟩) := by rw [hb]; exact (show _ = vs 4 by kernel_rfl).trans (hp 4 (by decide))
      rw [if_pos (AnyO.wanted_none rfl)]
      clear hb hp
      have rr := okA_below k3 hlt (Below.step (below_drew _) hE)
      rw [k3'] at rr
      obtain ⟨rr1, rr2⟩ := rr
      go_simp
      exact hK _ _ (Below.refl _ _) rfl
    · -- 6: Op.move (Operand.tmp 0)
      refine AnyO.Step.mk rfl [] (by kernel_rfl) ?_
      intro vs u hE hp ac hb K hK
      have s0 : ac.tmps[0]?.getD undef = .pointer (some ⟨b, 0, none⟩) := by rw [hb]; kernel_rfl
      rw [if_pos (AnyO.wanted_none rfl)]
      clear hb hp
      go_simp
      exact hK _ _ (Below.refl _ _) rfl
    · -- 7: Op.nilCheck (Operand.tmp 14)
      refine AnyO.Step.mk rfl [6] (by kernel_rfl) ?_
      intro vs u hE hp ac hb K hK
      have s14 : ac.tmps[14]?.getD undef = .pointer (some ⟨b, 0, none⟩) := by rw [hb]; exact (show _ = vs 6 by kernel_rfl).trans (hp 6 (by decide))
      rw [if_pos (AnyO.wanted_none rfl)]
      clear hb hp
      go_simp
      exact hK _ _ (Below.refl _ _) rfl
    · -- 8: Op.fieldAddr 91 (Operand.tmp 15) 3
      refine AnyO.Step.mk rfl [7] (by kernel_rfl) ?_
      intro vs u hE hp ac hb K hK
      have s15 : ac.tmps[15]?.getD undef = .pointer (some ⟨b, 0, none⟩) := by rw [hb]; exact (show _ = vs 7 by kernel_rfl).trans (hp 7 (by decide))
      rw [if_pos (AnyO.wanted_none rfl)]
      clear hb hp
      go_simp
      exact hK _ _ (Below.refl _ _) rfl
    · -- 9: Op.fieldAddr 89 (Operand.tmp 16) 0
      refine AnyO.Step.mk rfl [8] (by kernel_rfl) ?_
      intro vs u hE hp ac hb K hK
      have s16 : ac.tmps[16]?.getD undef = .pointer (some ⟨b, 3, none⟩) := by rw [hb]; exact (show _ = vs 8 by kernel_rfl).trans (hp 8 (by decide))
      rw [if_pos (AnyO.wanted_none rfl)]
      clear hb hp
      go_simp
      exact hK _ _ (Below.refl _ _) rfl
    · -- 10: Op.fieldAddr 86 (Operand.tmp 17) 1
      refine AnyO.Step.mk rfl [9] (by kernel_rfl) ?_
      intro vs u hE hp ac hb K hK
      have s17 : ac.tmps[17]?.getD undef = .pointer (some ⟨b, 3, none⟩) := by rw [hb]; exact (show _ = vs 9 by kernel_rfl).trans (hp 9 (by decide))
      rw [if_pos (AnyO.wanted_none rfl)]
      clear hb hp
      go_simp
      exact hK _ _ (Below.refl _ _) rfl
    · -- 11: Op.load 9 (Operand.tmp 18)
      refine AnyO.Step.mk rfl [10] (by kernel_rfl) ?_
      intro vs u hE hp ac hb K hK
      have s18 : ac.tmps[18]?.getD undef = .pointer (some ⟨b, 35, none⟩) := by rw [hb]; exact (show _ = vs 10 by kernel_rfl).trans (hp 10 (by decide))
      rw [if_pos (AnyO.wanted_none rfl)]
      clear hb hp
      have rr := cell_below k35 (Below.step (below_drew _) hE)
      go_simp
      exact hK _ _ (Below.refl _ _) rfl
    · -- 12: Op.move (Operand.tmp 0)
      refine AnyO.Step.mk rfl [] (by kernel_rfl) ?_
      intro vs u hE hp ac hb K hK
      have s0 : ac.tmps[0]?.getD undef = .pointer (some ⟨b, 0, none⟩) := by rw [hb]; kernel_rfl
      rw [if_pos (AnyO.wanted_none rfl)]
      clear hb hp
      go_simp
      exact hK _ _ (Below.refl _ _) rfl
    · -- 13: Op.nilCheck (Operand.tmp 20)
      refine AnyO.Step.mk rfl [12] (by kernel_rfl) ?_
      intro vs u hE hp ac hb K hK
      have s20 : ac.tmps[20]?.getD undef = .pointer (some ⟨b, 0, none⟩) := by rw [hb]; exact (show _ = vs 12 by kernel_rfl).trans (hp 12 (by decide))
      rw [if_pos (AnyO.wanted_none rfl)]
      clear hb hp
      go_simp
      exact hK _ _ (Below.refl _ _) rfl
    · -- 14: Op.fieldAddr 91 (Operand.tmp 21) 0
      refine AnyO.Step.mk rfl [13] (by kernel_rfl) ?_
      intro vs u hE hp ac hb K hK
      have s21 : ac.tmps[21]?.getD undef = .pointer (some ⟨b, 0, none⟩) := by rw [hb]; exact (show _ = vs 13 by kernel_rfl).trans (hp 13 (by decide))
      rw [if_pos (AnyO.wanted_none rfl)]
      clear hb hp
      go_simp
      exact hK _ _ (Below.refl _ _) rfl
    · -- 15: Op.load 3 (Operand.tmp 22)
      refine AnyO.Step.mk rfl [14] (by kernel_rfl) ?_
      intro vs u hE hp ac hb K hK
      have s22 : ac.tmps[22]?.getD undef = .pointer (some ⟨b, 0, none⟩) := by rw [hb]; exact (show _ = vs 14 by kernel_rfl).trans (hp 14 (by decide))
      rw [if_pos (AnyO.wanted_none rfl)]
      clear hb hp
      have rr := cell_below k0 (Below.step (below_drew _) hE)
      go_simp
      exact hK _ _ (Below.refl _ _) rfl
    · -- 16: Op.move (Operand.tmp 1)
      refine AnyO.Step.mk rfl [] (by kernel_rfl) ?_
      intro vs u hE hp ac hb K hK
      have s1 : ac.tmps[1]?.getD undef = .int .i64 fr := by rw [hb]; kernel_rfl
      rw [if_pos (AnyO.wanted_none rfl)]
      clear hb hp
      go_simp
      exact hK _ _ (Below.refl _ _) rfl
    · -- 17: Op.call { callee := Callee.value (Operand.func 51), args := 
      refine AnyO.Step.mk rfl [5, 11, 15, 16] (by kernel_rfl) ?_
      intro vs u hE hp ac hb K hK
      have s13 : ac.tmps[13]?.getD undef = vI x := by rw [hb]; exact (show _ = vs 5 by kernel_rfl).trans (hp 5 (by decide))
      have s19 : ac.tmps[19]?.getD undef = .string t := by rw [hb]; exact (show _ = vs 11 by kernel_rfl).trans (hp 11 (by decide))
      have s23 : ac.tmps[23]?.getD undef = .int .i64 ch := by rw [hb]; exact (show _ = vs 15 by kernel_rfl).trans (hp 15 (by decide))
      have s24 : ac.tmps[24]?.getD undef = .int .i64 fr := by rw [hb]; exact (show _ = vs 16 by kernel_rfl).trans (hp 16 (by decide))
      rw [if_pos (AnyO.wanted_none rfl)]
      clear hb hp
      go_simp
      go_at_call 51
      refine (new51 x t ch fr u ht h1 h2 h3 h4).mono ?_
      rintro e w2 ⟨g, rfl, hg, hrow, hb2⟩
      exact hK _ _ hb2 ⟨g, rfl, Nat.le_trans (Below.step (below_drew _) hE).size hg, hrow⟩
    · -- 18: Op.move (Operand.tmp 25)
      refine AnyO.Step.mk rfl [17] (by kernel_rfl) ?_
      intro vs u hE hp ac hb K hK
      obtain ⟨g25, e25, h25⟩ := hp 17 (by decide)
      have s25 : ac.tmps[25]?.getD undef = .tuple #[.pointer (some ⟨g25, 0, none⟩), .int .i64 0] := by rw [hb]; exact (show _ = vs 17 by kernel_rfl).trans e25
      clear e25
      rw [if_pos (AnyO.wanted_none rfl)]
      clear hb hp
      go_simp
      exact hK _ _ (Below.refl _ _) ⟨g25, rfl, h25⟩
    · -- 19: Op.extract (Operand.tmp 7) 0
      refine AnyO.Step.mk rfl [18] (by kernel_rfl) ?_
      intro vs u hE hp ac hb K hK
      obtain ⟨g7, e7, h7⟩ := hp 18 (by decide)
      have s7 : ac.tmps[7]?.getD undef = .tuple #[.pointer (some ⟨g7, 0, none⟩), .int .i64 0] := by rw [hb]; exact (show _ = vs 18 by kernel_rfl).trans e7
      clear e7
      rw [if_pos (AnyO.wanted_none rfl)]
      clear hb hp
      go_simp
      exact hK _ _ (Below.refl _ _) ⟨g7, rfl, h7⟩
    · -- 20: Op.extract (Operand.tmp 7) 1
      refine AnyO.Step.mk rfl [18] (by kernel_rfl) ?_
      intro vs u hE hp ac hb K hK
      obtain ⟨g7, e7, h7⟩ := hp 18 (by decide)
      have s7 : ac.tmps[7]?.getD undef = .tuple #[.pointer (some ⟨g7, 0, none⟩), .int .i64 0] := by rw [hb]; exact (show _ = vs 18 by kernel_rfl).trans e7
      clear e7
      rw [if_pos (AnyO.wanted_none rfl)]
      clear hb hp
      go_simp
      exact hK _ _ (Below.refl _ _) rfl
    · -- 21: Op.assign (Operand.tmp 26)
      refine AnyO.Step.mk rfl [19, 17, 0, 1, 2, 3, 4, 5, 6, 7, 8, 9, 10, 11, 12, 13, 14, 15, 16, 17, 18, 19] (by kernel_rfl) ?_
      intro vs u hE hp ac hb K hK
      obtain ⟨g26, e26, h26⟩ := hp 19 (by decide)
      have s26 : ac.tmps[26]?.getD undef = .pointer (some ⟨g26, 0, none⟩) := by rw [hb]; exact (show _ = vs 19 by kernel_rfl).trans e26
      clear e26
      rw [if_pos (AnyO.wanted_none rfl)]
      clear hb hp
      go_simp
      exact hK _ _ (Below.refl _ _) ⟨g26, rfl, h26⟩
  · intro vs u hE hp
    have e0 : vs 0 = .pointer (some ⟨b, 0, none⟩) := hp 0 (by decide)
    have e1 : vs 1 = .pointer (some ⟨b, 0, none⟩) := hp 1 (by decide)
    have e2 : vs 2 = .pointer (some ⟨b, 3, none⟩) := hp 2 (by decide)
    have e3 : vs 3 = .pointer (some ⟨b, 3, none⟩) := hp 3 (by decide)
    have e4 : vs 4 = .pointer (some ⟨b, 3, none⟩) := hp 4 (by decide)
    have e5 : vs 5 = vI x := hp 5 (by decide)
    have e6 : vs 6 = .pointer (some ⟨b, 0, none⟩) := hp 6 (by decide)
    have e7 : vs 7 = .pointer (some ⟨b, 0, none⟩) := hp 7 (by decide)
    have e8 : vs 8 = .pointer (some ⟨b, 3, none⟩) := hp 8 (by decide)
    have e9 : vs 9 = .pointer (some ⟨b, 3, none⟩) := hp 9 (by decide)
    have e10 : vs 10 = .pointer (some ⟨b, 35, none⟩) := hp 10 (by decide)
    have e11 : vs 11 = .string t := hp 11 (by decide)
    have e12 : vs 12 = .pointer (some ⟨b, 0, none⟩) := hp 12 (by decide)
    have e13 : vs 13 = .pointer (some ⟨b, 0, none⟩) := hp 13 (by decide)
    have e14 : vs 14 = .pointer (some ⟨b, 0, none⟩) := hp 14 (by decide)
    have e15 : vs 15 = .int .i64 ch := hp 15 (by decide)
    have e16 : vs 16 = .int .i64 fr := hp 16 (by decide)
    obtain ⟨g_17, e17, h_17⟩ := show isNT w (cT (x, t) ch fr false) (vs 17) u from hp 17 (by decide)
    obtain ⟨g_18, e18, h_18⟩ := show isNT w (cT (x, t) ch fr false) (vs 18) u from hp 18 (by decide)
    obtain ⟨g_19, e19, h_19⟩ := show isPT w (cT (x, t) ch fr false) (vs 19) u from hp 19 (by decide)
    have e20 : vs 20 = .int .i64 0 := hp 20 (by decide)
    obtain ⟨g_21, e21, h_21⟩ := show isPT w (cT (x, t) ch fr false) (vs 21) u from hp 21 (by decide)
    clear hp
    have HE := Lib.hid (And.intro hE h_21)
    have hge := h_21.1
    clear hE h_17 h_18 h_19 h_21
    have z2 := cell_below r2 HE.out.1
    have z36 := cell_below k36 HE.out.1
    have zf := (HX.out.row.keep HE.out.1).fz 2
    have zf36 := (HX.out.row.keep HE.out.1).fz 36
    rw [puts_range [some 8, some 9, some 10, some 11, some 12, some 13, some 14, some 15, some 16, some 17, some 18, some 19, some 20, some 21, some 22, some 23, some 24, some 25, some 7, some 26, some 27, some 5] (by kernel_rfl)]
    simp only [putL, Nat.reduceAdd, List.drop_succ_cons, List.drop_zero, e0, e1, e2, e3, e4, e5, e6, e7, e8, e9, e10, e11, e12, e13, e14, e15, e16, e17, e18, e19, e20, e21]
    clear e0 e1 e2 e3 e4 e5 e6 e7 e8 e9 e10 e11 e12 e13 e14 e15 e16 e17 e18 e19 e20 e21
    go_simp
    go_wp2
    go_ret
    exact ⟨rfl, Rp.wanted HX.out HE.out.1 HE.out.2.1 (by rw [HC.out]; exact HE.out.2.2)⟩
/-- A new row that holds these outcomes; what an append onto the row of vo leaves. -/
def newO (w1 : World) (ys : List Out) (v : Value) (u : World) : Prop := ∃ g, v = .slice (some ⟨g, 0, none⟩) 1 1 ∧ w1.heap.size ≤ g ∧ Row u g (ys.flatMap cO) 68
theorem newO.mk {w1 : World} (u : World) {a : Out} (h : w1.heap.size ≤ u.heap.size) : newO w1 [a] (.slice (some ⟨u.heap.size, 0, none⟩) 1 1) (u.alloc (.cells (aOs [a]) 68)) := ⟨_, rfl, h, Row.new u _ 68⟩
def ApO (vw : Value) (w1 : World) (l : List Out) (v : Value) (u : World) : Prop :=
  Own u 0 68 34 cO v l ∧ (v.ownBlock = vw.ownBlock ∨ ∃ g, v.ownBlock = some g ∧ w1.heap.size ≤ g) ∧ w1.heap.size ≤ u.heap.size ∧ (u.os = w1.os ∧ u.tape = w1.tape ∧ u.output = w1.output) ∧ ∀ k, k < w1.heap.size → vw.ownBlock ≠ some k → u.heap[k]? = w1.heap[k]?
theorem ApO.mk {vw v2 : Value} {w1 u u2 : World} {l : List Out} (hB : Below w1.heap.size w1 u) (ho : Own u2 0 68 34 cO v2 l) (hg : u.grownBy u2 vw.ownBlock) (hb : v2.ownBlock = vw.ownBlock ∨ v2.ownBlock = some u.heap.size) : ApO vw w1 l v2 u2 :=
  ⟨ho, hb.imp id fun e => ⟨_, e, hB.size⟩, Nat.le_trans hB.size hg.size, ⟨hg.os.trans hB.os, hg.tape.trans hB.tape, hg.output.trans hB.output⟩, fun k hk hne => (hg.block k (Nat.lt_of_lt_of_le hk hB.size) (fun e => hne e.symm)).trans (hB.block k hk)⟩
theorem Rp.ended {b : Nat} {ch : Int} {s : St} {F : List Nat} {vw vo v : Value} {q : Option Addr} {w1 u : World} {l : List Out} (h : Rp b ch s F vw vo q w1) (ha : ApO vo w1 l v u) (U1 U2 U3 : World) (h1 : U1 = u.setCell ⟨b, 37, none⟩ v) (h2 : U2 = stD U1 b 3 (cD zA none)) (h3 : U3 = U2.setCell ⟨b, 2, none⟩ (.int .i64 0)) :
    (u.cell? ⟨b, 37, none⟩ = some vo ∧ u.frozen? ⟨b, 37, none⟩ = false) ∧ stOk U1 b 3 34 = true ∧ (U2.cell? ⟨b, 2, none⟩ = some (.int .i64 s.state) ∧ U2.frozen? ⟨b, 2, none⟩ = false) ∧ ∃ F', Rep b ch ⟨s.wait, 0, zA, l, none⟩ F' U3 ∧ Kp F F' w1 U3 := by
  have hbo : vo.ownBlock ≠ some b := fun e => (h.oF b e).2 rfl
  obtain ⟨ho, hor, hsz, hos, hk⟩ := ha
  have far : ∀ k, k < w1.heap.size → vo.ownBlock ≠ some k → v.ownBlock ≠ some k := fun k hk hne => by
    rcases hor with e | ⟨g, e, hg⟩
    · rw [e]; exact hne
    · rw [e]; intro e2; injection e2 with e2; omega
  have hlt := h.row.lt
  have hbv := far b hlt hbo
  have row0 := h.row.same (hk b hlt hbo)
  have row1 : Row U1 b (cSn ch vw s.state s.cur q v) 91 := by rw [h1]; have := row0.set 37 v; rwa [cSn_set37] at this
  have row2 : Row U2 b (cSn ch vw s.state zA none v) 91 := by rw [h2]; exact row_del row1 zA none
  have row3 : Row U3 b (cSn ch vw 0 zA none v) 91 := by rw [h3]; exact row2.set 2 (.int .i64 0)
  have o1 : ∀ j, j ≠ b → U1.heap[j]? = u.heap[j]? := fun j hj => by rw [h1]; exact heap_set_other u b 37 v j hj
  have o2 : ∀ j, j ≠ b → U2.heap[j]? = U1.heap[j]? := fun j hj => by rw [h2]; exact heap_stD_other U1 b 3 _ j hj
  have o3 : ∀ j, j ≠ b → U3.heap[j]? = U2.heap[j]? := fun j hj => by rw [h3]; exact heap_set_other U2 b 2 _ j hj
  have oo : ∀ j, j ≠ b → U3.heap[j]? = u.heap[j]? := fun j hj => (o3 j hj).trans ((o2 j hj).trans (o1 j hj))
  have hon : Only b u U3 := by
    subst h3 h2 h1
    exact ((Only.setCell b 37 u v).trans (Only.stD _ 3 _)).trans (Only.setCell b 2 _ _)
  refine ⟨⟨(row0.cell 37).trans (cSn_hi _ _ _ _ _ _ 2), row0.fz 37⟩, Row.ok _ row1 3 34 (by rw [cSn_length]; omega), ⟨row2.cell 2, row2.fz 2⟩, ?_⟩
  obtain ⟨F', hF1, hF2, hF3⟩ : ∃ F' : List Nat, (∀ k ∈ F, k ∈ F') ∧ (∀ k, v.ownBlock = some k → k ∈ F') ∧ (∀ k, k < w1.heap.size → k ∉ F → k ∉ F') := by
    cases hv : v.ownBlock with
    | none => exact ⟨F, fun _ h => h, fun _ e => (by cases e), fun _ _ h => h⟩
    | some g =>
      refine ⟨g :: F, fun _ h => List.mem_cons_of_mem _ h, fun k e => by injection e with e; subst e; simp, fun k hk1 hk2 hm => ?_⟩
      rcases List.mem_cons.1 hm with e | hm
      · subst e
        rcases hor with e | ⟨g', e, hg'⟩
        · exact hk2 (h.oF k (by rw [← e, hv])).1
        · rw [hv] at e; injection e with e; omega
      · exact hk2 hm
  refine ⟨F', ⟨vw, v, none, ⟨row3, ?_, ?_, fun _ => rfl, fun t ht => (by cases ht), hF1 b h.bF, fun k e => ⟨hF1 k (h.wF k e).1, (h.wF k e).2.1, far k (h.ow.lt k e).2 (h.wF k e).2.2⟩, fun k e => ⟨hF2 k e, fun e2 => hbv (e2 ▸ e)⟩⟩⟩, ⟨hon.os.trans hos.1, hon.tape.trans hos.2.1, hon.output.trans hos.2.2, Nat.le_trans hsz hon.size, fun k hk1 hk2 => ⟨hF3 k hk1 hk2, (oo k (fun e => hk2 (e ▸ h.bF))).trans (hk k hk1 fun e => hk2 (h.oF k e).1)⟩⟩⟩
  · exact h.ow.same fun k e => (oo k (h.wF k e).2.1).trans (hk k (h.ow.lt k e).2 (h.wF k e).2.2)
  · exact ho.same fun k e => oo k (fun e2 => hbv (e2 ▸ e))
set_option maxRecDepth 100000 in
set_option maxHeartbeats 1600000 in
theorem end43 (b : Nat) (ch : Int) (s : St) (F : List Nat) (x : Id) (t : ByteArray) (r cd : Int) (w : World) (h : Rep b ch s F w) (hcur : s.cur = (x, t)) (hm : s.outs.length ≤ 100000) :
    Calls Tryd.prog 43 #[.pointer (some ⟨b, 0, none⟩), .int .i64 r, .int .i64 cd] w fun e w' => e = .returned (.tuple #[]) ∧ ∃ F', Rep b ch ⟨s.wait, 0, zA, s.outs ++ [(x, r, cd)], none⟩ F' w' ∧ Kp F F' w w' := by
  obtain ⟨vw, vo, q, h⟩ := h
  have r37 := h.c37
  obtain ⟨k3, k3'⟩ := h.id
  rw [hcur] at k3'
  have hlt := h.row.lt
  obtain ⟨A, c, hvo, hc, hsl⟩ := h.oo.sl
  subst hvo
  have HX := Lib.hid h
  generalize hn : s.outs.length = n at *
  clear h hsl hcur
  go_enter Tryd.func43, Tryd.ntmps43
  go_wp2_with fail
  refine AnyO.wp_any_tailI 16 (by kernel_rfl) (by kernel_rfl) (by kernel_rfl) (by kernel_rfl) (by kernel_rfl) (by kernel_rfl) (AnyO.InvA 15 14 (AnyO.pvL [some (.pointer (some ⟨b, 0, none⟩)), some (.pointer (some ⟨b, 0, none⟩)), some (.pointer (some ⟨b, 0, none⟩)), some (.pointer (some ⟨b, 37, none⟩)), some (.slice A n c), some (.pointer (some ⟨b, 0, none⟩)), some (.pointer (some ⟨b, 0, none⟩)), some (.pointer (some ⟨b, 3, none⟩)), some (.pointer (some ⟨b, 3, none⟩)), some (.pointer (some ⟨b, 3, none⟩)), some (vI x), some (.int .i64 r), some (.int .i64 cd), some (vO (x, r, cd)), none, none]) (w) (newO w [(x, r, cd)]) (ApO (.slice A n c) w (s.outs ++ [(x, r, cd)]))) (AnyO.InvA.start (by decide)) ?_ ?_
  · intro i hi
    have hi2 : i = 0 ∨ i = 1 ∨ i = 2 ∨ i = 3 ∨ i = 4 ∨ i = 5 ∨ i = 6 ∨ i = 7 ∨ i = 8 ∨ i = 9 ∨ i = 10 ∨ i = 11 ∨ i = 12 ∨ i = 13 ∨ i = 14 ∨ i = 15 := by omega
    clear hi
    rcases hi2 with rfl | rfl | rfl | rfl | rfl | rfl | rfl | rfl | rfl | rfl | rfl | rfl | rfl | rfl | rfl | rfl
    · -- 0: Op.move (Operand.tmp 0)
      refine AnyO.StepI.mk rfl [] (by kernel_rfl) ?_
      intro D vs u hI h0 hC hp ac hb K hK
      have s0 : ac.tmps[0]?.getD undef = .pointer (some ⟨b, 0, none⟩) := by rw [hb]; kernel_rfl
      rw [if_pos (AnyO.wanted_none rfl)]
      clear hb
      go_simp
      exact hK _ _ (AnyO.InvA.pure hI (by decide) (by decide) rfl)
    · -- 1: Op.move (Operand.tmp 0)
      refine AnyO.StepI.mk rfl [] (by kernel_rfl) ?_
      intro D vs u hI h0 hC hp ac hb K hK
      have s0 : ac.tmps[0]?.getD undef = .pointer (some ⟨b, 0, none⟩) := by rw [hb]; kernel_rfl
      rw [if_pos (AnyO.wanted_none rfl)]
      clear hb
      go_simp
      exact hK _ _ (AnyO.InvA.pure hI (by decide) (by decide) rfl)
    · -- 2: Op.nilCheck (Operand.tmp 7)
      refine AnyO.StepI.mk rfl [1] (by kernel_rfl) ?_
      intro D vs u hI h0 hC hp ac hb K hK
      have s7 : ac.tmps[7]?.getD undef = .pointer (some ⟨b, 0, none⟩) := by rw [hb]; exact (show _ = vs 1 by kernel_rfl).trans (show vs 1 = .pointer (some ⟨b, 0, none⟩) from hI.1 1 (hp 1 (by decide)))
      rw [if_pos (AnyO.wanted_none rfl)]
      clear hb
      go_simp
      exact hK _ _ (AnyO.InvA.pure hI (by decide) (by decide) rfl)
    · -- 3: Op.fieldAddr 91 (Operand.tmp 8) 4
      refine AnyO.StepI.mk rfl [2] (by kernel_rfl) ?_
      intro D vs u hI h0 hC hp ac hb K hK
      have s8 : ac.tmps[8]?.getD undef = .pointer (some ⟨b, 0, none⟩) := by rw [hb]; exact (show _ = vs 2 by kernel_rfl).trans (show vs 2 = .pointer (some ⟨b, 0, none⟩) from hI.1 2 (hp 2 (by decide)))
      rw [if_pos (AnyO.wanted_none rfl)]
      clear hb
      go_simp
      exact hK _ _ (AnyO.InvA.pure hI (by decide) (by decide) rfl)
    · -- 4: Op.load 65 (Operand.tmp 9)
      refine AnyO.StepI.mk rfl [3] (by kernel_rfl) ?_
      intro D vs u hI h0 hC hp ac hb K hK
      have s9 : ac.tmps[9]?.getD undef = .pointer (some ⟨b, 37, none⟩) := by rw [hb]; exact (show _ = vs 3 by kernel_rfl).trans (show vs 3 = .pointer (some ⟨b, 37, none⟩) from hI.1 3 (hp 3 (by decide)))
      rw [if_pos (AnyO.wanted_none rfl)]
      have hnm : D 15 = false := by
        rcases hd : D 15 with _ | _
        · rfl
        · have q4 := hC 15 hd 4 (by rw [show AnyO.pre _ 15 = [4, 14] from by kernel_rfl]; decide)
          rw [h0] at q4
          cases q4
      have hB := (hI.2.1 hnm).1
      clear hb
      have rr := cell_below r37 hB
      go_simp
      exact hK _ _ (AnyO.InvA.pure hI (by decide) (by decide) rfl)
    · -- 5: Op.move (Operand.tmp 0)
      refine AnyO.StepI.mk rfl [] (by kernel_rfl) ?_
      intro D vs u hI h0 hC hp ac hb K hK
      have s0 : ac.tmps[0]?.getD undef = .pointer (some ⟨b, 0, none⟩) := by rw [hb]; kernel_rfl
      rw [if_pos (AnyO.wanted_none rfl)]
      clear hb
      go_simp
      exact hK _ _ (AnyO.InvA.pure hI (by decide) (by decide) rfl)
    · -- 6: Op.nilCheck (Operand.tmp 11)
      refine AnyO.StepI.mk rfl [5] (by kernel_rfl) ?_
      intro D vs u hI h0 hC hp ac hb K hK
      have s11 : ac.tmps[11]?.getD undef = .pointer (some ⟨b, 0, none⟩) := by rw [hb]; exact (show _ = vs 5 by kernel_rfl).trans (show vs 5 = .pointer (some ⟨b, 0, none⟩) from hI.1 5 (hp 5 (by decide)))
      rw [if_pos (AnyO.wanted_none rfl)]
      clear hb
      go_simp
      exact hK _ _ (AnyO.InvA.pure hI (by decide) (by decide) rfl)
    · -- 7: Op.fieldAddr 91 (Operand.tmp 12) 3
      refine AnyO.StepI.mk rfl [6] (by kernel_rfl) ?_
      intro D vs u hI h0 hC hp ac hb K hK
      have s12 : ac.tmps[12]?.getD undef = .pointer (some ⟨b, 0, none⟩) := by rw [hb]; exact (show _ = vs 6 by kernel_rfl).trans (show vs 6 = .pointer (some ⟨b, 0, none⟩) from hI.1 6 (hp 6 (by decide)))
      rw [if_pos (AnyO.wanted_none rfl)]
      clear hb
      go_simp
      exact hK _ _ (AnyO.InvA.pure hI (by decide) (by decide) rfl)
    · -- 8: Op.fieldAddr 89 (Operand.tmp 13) 0
      refine AnyO.StepI.mk rfl [7] (by kernel_rfl) ?_
      intro D vs u hI h0 hC hp ac hb K hK
      have s13 : ac.tmps[13]?.getD undef = .pointer (some ⟨b, 3, none⟩) := by rw [hb]; exact (show _ = vs 7 by kernel_rfl).trans (show vs 7 = .pointer (some ⟨b, 3, none⟩) from hI.1 7 (hp 7 (by decide)))
      rw [if_pos (AnyO.wanted_none rfl)]
      clear hb
      go_simp
      exact hK _ _ (AnyO.InvA.pure hI (by decide) (by decide) rfl)
    · -- 9: Op.fieldAddr 86 (Operand.tmp 14) 0
      refine AnyO.StepI.mk rfl [8] (by kernel_rfl) ?_
      intro D vs u hI h0 hC hp ac hb K hK
      have s14 : ac.tmps[14]?.getD undef = .pointer (some ⟨b, 3, none⟩) := by rw [hb]; exact (show _ = vs 8 by kernel_rfl).trans (show vs 8 = .pointer (some ⟨b, 3, none⟩) from hI.1 8 (hp 8 (by decide)))
      rw [if_pos (AnyO.wanted_none rfl)]
      clear hb
      go_simp
      exact hK _ _ (AnyO.InvA.pure hI (by decide) (by decide) rfl)
    · -- 10: Op.load 40 (Operand.tmp 15)
      refine AnyO.StepI.mk rfl [9] (by kernel_rfl) ?_
      intro D vs u hI h0 hC hp ac hb K hK
      have s15 : ac.tmps[15]?.getD undef = .pointer (some ⟨b, 3, none⟩) := by rw [hb]; exact (show _ = vs 9 by kernel_rfl).trans (show vs 9 = .pointer (some ⟨b, 3, none⟩) from hI.1 9 (hp 9 (by decide)))
      rw [if_pos (AnyO.wanted_none rfl)]
      have hnm : D 15 = false := by
        rcases hd : D 15 with _ | _
        · rfl
        · have q14 := hC 15 hd 14 (by rw [show AnyO.pre _ 15 = [4, 14] from by kernel_rfl]; decide)
          have q13 := hC 14 q14 13 (by rw [show AnyO.pre _ 14 = [13] from by kernel_rfl]; decide)
          have q10 := hC 13 q13 10 (by rw [show AnyO.pre _ 13 = [10, 11, 12] from by kernel_rfl]; decide)
          rw [h0] at q10
          cases q10
      have hB := (hI.2.1 hnm).1
      clear hb
      have rr := okA_below k3 hlt hB
      rw [k3'] at rr
      obtain ⟨rr1, rr2⟩ := rr
      go_simp
      exact hK _ _ (AnyO.InvA.pure hI (by decide) (by decide) rfl)
    · -- 11: Op.move (Operand.tmp 1)
      refine AnyO.StepI.mk rfl [] (by kernel_rfl) ?_
      intro D vs u hI h0 hC hp ac hb K hK
      have s1 : ac.tmps[1]?.getD undef = .int .i64 r := by rw [hb]; kernel_rfl
      rw [if_pos (AnyO.wanted_none rfl)]
      clear hb
      go_simp
      exact hK _ _ (AnyO.InvA.pure hI (by decide) (by decide) rfl)
    · -- 12: Op.move (Operand.tmp 2)
      refine AnyO.StepI.mk rfl [] (by kernel_rfl) ?_
      intro D vs u hI h0 hC hp ac hb K hK
      have s2 : ac.tmps[2]?.getD undef = .int .i64 cd := by rw [hb]; kernel_rfl
      rw [if_pos (AnyO.wanted_none rfl)]
      clear hb
      go_simp
      exact hK _ _ (AnyO.InvA.pure hI (by decide) (by decide) rfl)
    · -- 13: Op.build 68 #[(0, Operand.tmp 16), (1, Operand.tmp 17), (2, 
      refine AnyO.StepI.mk rfl [10, 11, 12] (by kernel_rfl) ?_
      intro D vs u hI h0 hC hp ac hb K hK
      have s16 : ac.tmps[16]?.getD undef = vI x := by rw [hb]; exact (show _ = vs 10 by kernel_rfl).trans (show vs 10 = vI x from hI.1 10 (hp 10 (by decide)))
      have s17 : ac.tmps[17]?.getD undef = .int .i64 r := by rw [hb]; exact (show _ = vs 11 by kernel_rfl).trans (show vs 11 = .int .i64 r from hI.1 11 (hp 11 (by decide)))
      have s18 : ac.tmps[18]?.getD undef = .int .i64 cd := by rw [hb]; exact (show _ = vs 12 by kernel_rfl).trans (show vs 12 = .int .i64 cd from hI.1 12 (hp 12 (by decide)))
      rw [if_pos (AnyO.wanted_none rfl)]
      clear hb
      go_simp
      exact hK _ _ (AnyO.InvA.pure hI (by decide) (by decide) rfl)
    · -- 14: Op.buildSlice 65 1 #[(0, Operand.tmp 19)]
      refine AnyO.StepI.mk rfl [13] (by kernel_rfl) ?_
      intro D vs u hI h0 hC hp ac hb K hK
      have s19 : ac.tmps[19]?.getD undef = vO (x, r, cd) := by rw [hb]; exact (show _ = vs 13 by kernel_rfl).trans (show vs 13 = vO (x, r, cd) from hI.1 13 (hp 13 (by decide)))
      rw [if_pos (AnyO.wanted_none rfl)]
      have hnm : D 15 = false := by
        rcases hd : D 15 with _ | _
        · rfl
        · have q14 := hC 15 hd 14 (by rw [show AnyO.pre _ 15 = [4, 14] from by kernel_rfl]; decide)
          rw [h0] at q14
          cases q14
      have hB := (hI.2.1 hnm).1
      clear hb
      go_simp
      exact hK _ _ (AnyO.InvA.slice hI (by decide) hnm (below_alloc _ _) trivial (newO.mk u hB.size))
    · -- 15: Op.call { callee := Callee.builtin Builtin.append, args := #
      refine AnyO.StepI.mk rfl [4, 14] (by kernel_rfl) ?_
      intro D vs u hI h0 hC hp ac hb K hK
      have s10 : ac.tmps[10]?.getD undef = .slice A n c := by rw [hb]; exact (show _ = vs 4 by kernel_rfl).trans (show vs 4 = .slice A n c from hI.1 4 (hp 4 (by decide)))
      have s20 : ac.tmps[20]?.getD undef = vs 14 := by rw [hb]; kernel_rfl
      rw [if_pos (AnyO.wanted_none rfl)]
      have hnm : D 15 = false := h0
      have hB := (hI.2.1 hnm).1
      clear hb
      obtain ⟨g, hg, hge, hrow⟩ := (hI.2.1 hnm).2 (hp 14 (by decide))
      rw [hg] at s20
      refine wp_append_at _ (.tmp 10) (.tmp 20) 65 rfl 0 68 34 48 cO Tryd.underlying65 row68 (by decide) cO_length cO_one (.slice A n c) s.outs (by simpa [Act.eval] using s10) (Own.keep HX.out.oo hB) ⟨g, 0, none⟩ 1 1 [(x, r, cd)] rfl (by simpa [Act.eval] using s20) (hrow.at_ (k := 0) (n := 34) (by rw [List.drop_zero, List.take_of_length_le]; simp [cO_length])) (by have := hm; simp; omega) (by have := hm; simp; omega) (by omega) ?_
      intro v2 u2 ho hgr hbk
      exact hK _ _ (AnyO.InvA.app hI trivial (ApO.mk hB ho hgr hbk))
  · intro D vs u hI hD
    have e0 : vs 0 = .pointer (some ⟨b, 0, none⟩) := hI.1 0 (hD 0 (by decide))
    have e1 : vs 1 = .pointer (some ⟨b, 0, none⟩) := hI.1 1 (hD 1 (by decide))
    have e2 : vs 2 = .pointer (some ⟨b, 0, none⟩) := hI.1 2 (hD 2 (by decide))
    have e3 : vs 3 = .pointer (some ⟨b, 37, none⟩) := hI.1 3 (hD 3 (by decide))
    have e4 : vs 4 = .slice A n c := hI.1 4 (hD 4 (by decide))
    have e5 : vs 5 = .pointer (some ⟨b, 0, none⟩) := hI.1 5 (hD 5 (by decide))
    have e6 : vs 6 = .pointer (some ⟨b, 0, none⟩) := hI.1 6 (hD 6 (by decide))
    have e7 : vs 7 = .pointer (some ⟨b, 3, none⟩) := hI.1 7 (hD 7 (by decide))
    have e8 : vs 8 = .pointer (some ⟨b, 3, none⟩) := hI.1 8 (hD 8 (by decide))
    have e9 : vs 9 = .pointer (some ⟨b, 3, none⟩) := hI.1 9 (hD 9 (by decide))
    have e10 : vs 10 = vI x := hI.1 10 (hD 10 (by decide))
    have e11 : vs 11 = .int .i64 r := hI.1 11 (hD 11 (by decide))
    have e12 : vs 12 = .int .i64 cd := hI.1 12 (hD 12 (by decide))
    have e13 : vs 13 = vO (x, r, cd) := hI.1 13 (hD 13 (by decide))
    have hA := hI.2.2 (hD 15 (by decide))
    clear hI hD
    rw [puts_range [some 6, some 7, some 8, some 9, some 10, some 11, some 12, some 13, some 14, some 15, some 16, some 17, some 18, some 19, some 20, some 21] (by kernel_rfl)]
    simp only [putL, Nat.reduceAdd, List.drop_succ_cons, List.drop_zero, e0, e1, e2, e3, e4, e5, e6, e7, e8, e9, e10, e11, e12, e13]
    clear e0 e1 e2 e3 e4 e5 e6 e7 e8 e9 e10 e11 e12 e13
    generalize vs 15 = vm at hA ⊢
    generalize vs 14 = vl
    have hvm : ∃ A2 n2 c2, vm = .slice A2 n2 c2 := by obtain ⟨A2, c2, e, _⟩ := hA.1.sl; exact ⟨A2, _, c2, e⟩
    obtain ⟨A2, n2, c2, rfl⟩ := hvm
    obtain ⟨⟨j1, j2⟩, j3, ⟨j4, j5⟩, z⟩ := Rp.ended HX.out hA _ _ _ rfl rfl rfl
    have HO := Lib.hid z
    clear hA z
    go_simp
    go_wp2
    go_end0
    exact ⟨rfl, HO.out⟩
end Go.Proofs.YtlelecnafdddhaaDoor
