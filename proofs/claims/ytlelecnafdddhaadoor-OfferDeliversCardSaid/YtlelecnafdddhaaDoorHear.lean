/- Sender.Hear. -/
import Derived.Test.YtlelecnafdddhaaDoorChk
namespace Go.Proofs.YtlelecnafdddhaaDoor
open Go.RowKit
set_option maxRecDepth 100000 in
set_option maxHeartbeats 1600000 in
theorem want42_range (b : Nat) (ch : Int) (s : St) (F : List Nat) (vw vo : Value) (q : Option Addr) (x : Id) (t : ByteArray) (fr : Int) (w : World) (h : Rp b ch s F vw vo q w) (hcur : s.cur = (x, t)) (ht : t.size ≤ 65536) (h1 : 1 ≤ ch) (h2 : ch ≤ 4096) (h4 : (t.size : Int) < fr) :
    Calls Tryd.prog 42 #[.pointer (some ⟨b, 0, none⟩), .int .i64 fr] w fun e w' => e = .returned (.int .i64 2) ∧ Rp b ch s F vw vo q w' ∧ Kp F F w w' := by
  have k0 := h.c0
  have k35 := h.c35
  obtain ⟨k3, k3'⟩ := h.id
  have hlt := h.row.lt
  have HX := Lib.hid h
  rw [hcur] at k35 k3'
  clear h
  go_enter Tryd.func42, Tryd.ntmps42
  go_wp2
  refine AnyO.wp_any_tail 22 (by kernel_rfl) (by kernel_rfl) (by kernel_rfl) (by kernel_rfl) (by kernel_rfl) (by kernel_rfl) (pstP [isV (.pointer (some ⟨b, 0, none⟩)), isV (.pointer (some ⟨b, 0, none⟩)), isV (.pointer (some ⟨b, 3, none⟩)), isV (.pointer (some ⟨b, 3, none⟩)), isV (.pointer (some ⟨b, 3, none⟩)), isV (vI x), isV (.pointer (some ⟨b, 0, none⟩)), isV (.pointer (some ⟨b, 0, none⟩)), isV (.pointer (some ⟨b, 3, none⟩)), isV (.pointer (some ⟨b, 3, none⟩)), isV (.pointer (some ⟨b, 35, none⟩)), isV (.string t), isV (.pointer (some ⟨b, 0, none⟩)), isV (.pointer (some ⟨b, 0, none⟩)), isV (.pointer (some ⟨b, 0, none⟩)), isV (.int .i64 ch), isV (.int .i64 fr), isV (.tuple #[.pointer none, .int .i64 2]), isV (.tuple #[.pointer none, .int .i64 2]), isV (.pointer none), isV (.int .i64 2), isV (.pointer none)]) (MonoL.cons (Mono.v _) (MonoL.cons (Mono.v _) (MonoL.cons (Mono.v _) (MonoL.cons (Mono.v _) (MonoL.cons (Mono.v _) (MonoL.cons (Mono.v _) (MonoL.cons (Mono.v _) (MonoL.cons (Mono.v _) (MonoL.cons (Mono.v _) (MonoL.cons (Mono.v _) (MonoL.cons (Mono.v _) (MonoL.cons (Mono.v _) (MonoL.cons (Mono.v _) (MonoL.cons (Mono.v _) (MonoL.cons (Mono.v _) (MonoL.cons (Mono.v _) (MonoL.cons (Mono.v _) (MonoL.cons (Mono.v _) (MonoL.cons (Mono.v _) (MonoL.cons (Mono.v _) (MonoL.cons (Mono.v _) (MonoL.cons (Mono.v _) MonoL.nil)))))))))))))))))))))) ?_ ?_
  · intro i hi
    have hi2 : i = 0 ∨ i = 1 ∨ i = 2 ∨ i = 3 ∨ i = 4 ∨ i = 5 ∨ i = 6 ∨ i = 7 ∨ i = 8 ∨ i = 9 ∨ i = 10 ∨ i = 11 ∨ i = 12 ∨ i = 13 ∨ i = 14 ∨ i = 15 ∨ i = 16 ∨ i = 17 ∨ i = 18 ∨ i = 19 ∨ i = 20 ∨ i = 21 := by omega
    clear hi
    rcases hi2 with rfl | rfl | rfl | rfl | rfl | rfl | rfl | rfl | rfl | rfl | rfl | rfl | rfl | rfl | rfl | rfl | rfl | rfl | rfl | rfl | rfl | rfl
    · -- 0: Op.move (Operand.tmp 0)
      refine AnyO.Step.mk rfl [] (by kernel_rfl) ?_
      intro vs u hE hp ac hb K hK
      have s0 : ac.tmps[0]?.getD undef = .pointer (some ⟨b, 0, none⟩) := by rw [hb]; kernel_rfl
      rw [if_pos (AnyO.wanted_none rfl)]
      clear hb hp
      go_simp
      exact hK _ _ (Below.refl _ _) rfl
    · -- 1: Op.nilCheck (Operand.tmp 8)
      refine AnyO.Step.mk rfl [0] (by kernel_rfl) ?_
      intro vs u hE hp ac hb K hK
      have s8 : ac.tmps[8]?.getD undef = .pointer (some ⟨b, 0, none⟩) := by rw [hb]; exact (show _ = vs 0 by kernel_rfl).trans (hp 0 (by decide))
      rw [if_pos (AnyO.wanted_none rfl)]
      clear hb hp
      go_simp
      exact hK _ _ (Below.refl _ _) rfl
    · -- 2: Op.fieldAddr 91 (Operand.tmp 9) 3
      refine AnyO.Step.mk rfl [1] (by kernel_rfl) ?_
      intro vs u hE hp ac hb K hK
      have s9 : ac.tmps[9]?.getD undef = .pointer (some ⟨b, 0, none⟩) := by rw [hb]; exact (show _ = vs 1 by kernel_rfl).trans (hp 1 (by decide))
      rw [if_pos (AnyO.wanted_none rfl)]
      clear hb hp
      go_simp
      exact hK _ _ (Below.refl _ _) rfl
    · -- 3: Op.fieldAddr 89 (Operand.tmp 10) 0
      refine AnyO.Step.mk rfl [2] (by kernel_rfl) ?_
      intro vs u hE hp ac hb K hK
      have s10 : ac.tmps[10]?.getD undef = .pointer (some ⟨b, 3, none⟩) := by rw [hb]; exact (show _ = vs 2 by kernel_rfl).trans (hp 2 (by decide))
      rw [if_pos (AnyO.wanted_none rfl)]
      clear hb hp
      go_simp
      exact hK _ _ (Below.refl _ _) rfl
    · -- 4: Op.fieldAddr 86 (Operand.tmp 11) 0
      refine AnyO.Step.mk rfl [3] (by kernel_rfl) ?_
      intro vs u hE hp ac hb K hK
      have s11 : ac.tmps[11]?.getD undef = .pointer (some ⟨b, 3, none⟩) := by rw [hb]; exact (show _ = vs 3 by kernel_rfl).trans (hp 3 (by decide))
      rw [if_pos (AnyO.wanted_none rfl)]
      clear hb hp
      go_simp
      exact hK _ _ (Below.refl _ _) rfl
    · -- 5: Op.load 40 (Operand.tmp 12)
      refine AnyO.Step.mk rfl [4] (by kernel_rfl) ?_
      intro vs u hE hp ac hb K hK
      have s12 : ac.tmps[12]?.getD undef = .pointer (some ⟨b, 3, none⟩) := by rw [hb]; exact (show _ = vs 4 by kernel_rfl).trans (hp 4 (by decide))
      rw [if_pos (AnyO.wanted_none rfl)]
      clear hb hp
      have rr := okA_below k3 hlt (Below.step (below_drew _) hE)
      rw [k3'] at rr
      obtain ⟨rr1, rr2⟩ := rr
      go_simp
      exact hK _ _ (Below.refl _ _) rfl
    · -- 6: Op.move (Operand.tmp 0)
      refine AnyO.Step.mk rfl [] (by kernel_rfl) ?_
      intro vs u hE hp ac hb K hK
      have s0 : ac.tmps[0]?.getD undef = .pointer (some ⟨b, 0, none⟩) := by rw [hb]; kernel_rfl
      rw [if_pos (AnyO.wanted_none rfl)]
      clear hb hp
      go_simp
      exact hK _ _ (Below.refl _ _) rfl
    · -- 7: Op.nilCheck (Operand.tmp 14)
      refine AnyO.Step.mk rfl [6] (by kernel_rfl) ?_
      intro vs u hE hp ac hb K hK
      have s14 : ac.tmps[14]?.getD undef = .pointer (some ⟨b, 0, none⟩) := by rw [hb]; exact (show _ = vs 6 by kernel_rfl).trans (hp 6 (by decide))
      rw [if_pos (AnyO.wanted_none rfl)]
      clear hb hp
      go_simp
      exact hK _ _ (Below.refl _ _) rfl
    · -- 8: Op.fieldAddr 91 (Operand.tmp 15) 3
      refine AnyO.Step.mk rfl [7] (by kernel_rfl) ?_
      intro vs u hE hp ac hb K hK
      have s15 : ac.tmps[15]?.getD undef = .pointer (some ⟨b, 0, none⟩) := by rw [hb]; exact (show _ = vs 7 by kernel_rfl).trans (hp 7 (by decide))
      rw [if_pos (AnyO.wanted_none rfl)]
      clear hb hp
      go_simp
      exact hK _ _ (Below.refl _ _) rfl
    · -- 9: Op.fieldAddr 89 (Operand.tmp 16) 0
      refine AnyO.Step.mk rfl [8] (by kernel_rfl) ?_
      intro vs u hE hp ac hb K hK
      have s16 : ac.tmps[16]?.getD undef = .pointer (some ⟨b, 3, none⟩) := by rw [hb]; exact (show _ = vs 8 by kernel_rfl).trans (hp 8 (by decide))
      rw [if_pos (AnyO.wanted_none rfl)]
      clear hb hp
      go_simp
      exact hK _ _ (Below.refl _ _) rfl
    · -- 10: Op.fieldAddr 86 (Operand.tmp 17) 1
      refine AnyO.Step.mk rfl [9] (by kernel_rfl) ?_
      intro vs u hE hp ac hb K hK
      have s17 : ac.tmps[17]?.getD undef = .pointer (some ⟨b, 3, none⟩) := by rw [hb]; exact (show _ = vs 9 by kernel_rfl).trans (hp 9 (by decide))
      rw [if_pos (AnyO.wanted_none rfl)]
      clear hb hp
      go_simp
      exact hK _ _ (Below.refl _ _) rfl
    · -- 11: Op.load 9 (Operand.tmp 18)
      refine AnyO.Step.mk rfl [10] (by kernel_rfl) ?_
      intro vs u hE hp ac hb K hK
      have s18 : ac.tmps[18]?.getD undef = .pointer (some ⟨b, 35, none⟩) := by rw [hb]; exact (show _ = vs 10 by kernel_rfl).trans (hp 10 (by decide))
      rw [if_pos (AnyO.wanted_none rfl)]
      clear hb hp
      have rr := cell_below k35 (Below.step (below_drew _) hE)
      go_simp
      exact hK _ _ (Below.refl _ _) rfl
    · -- 12: Op.move (Operand.tmp 0)
      refine AnyO.Step.mk rfl [] (by kernel_rfl) ?_
      intro vs u hE hp ac hb K hK
      have s0 : ac.tmps[0]?.getD undef = .pointer (some ⟨b, 0, none⟩) := by rw [hb]; kernel_rfl
      rw [if_pos (AnyO.wanted_none rfl)]
      clear hb hp
      go_simp
      exact hK _ _ (Below.refl _ _) rfl
    · -- 13: Op.nilCheck (Operand.tmp 20)
      refine AnyO.Step.mk rfl [12] (by kernel_rfl) ?_
      intro vs u hE hp ac hb K hK
      have s20 : ac.tmps[20]?.getD undef = .pointer (some ⟨b, 0, none⟩) := by rw [hb]; exact (show _ = vs 12 by kernel_rfl).trans (hp 12 (by decide))
      rw [if_pos (AnyO.wanted_none rfl)]
      clear hb hp
      go_simp
      exact hK _ _ (Below.refl _ _) rfl
    · -- 14: Op.fieldAddr 91 (Operand.tmp 21) 0
      refine AnyO.Step.mk rfl [13] (by kernel_rfl) ?_
      intro vs u hE hp ac hb K hK
      have s21 : ac.tmps[21]?.getD undef = .pointer (some ⟨b, 0, none⟩) := by rw [hb]; exact (show _ = vs 13 by kernel_rfl).trans (hp 13 (by decide))
      rw [if_pos (AnyO.wanted_none rfl)]
      clear hb hp
      go_simp
      exact hK _ _ (Below.refl _ _) rfl
    · -- 15: Op.load 3 (Operand.tmp 22)
      refine AnyO.Step.mk rfl [14] (by kernel_rfl) ?_
      intro vs u hE hp ac hb K hK
      have s22 : ac.tmps[22]?.getD undef = .pointer (some ⟨b, 0, none⟩) := by rw [hb]; exact (show _ = vs 14 by kernel_rfl).trans (hp 14 (by decide))
      rw [if_pos (AnyO.wanted_none rfl)]
      clear hb hp
      have rr := cell_below k0 (Below.step (below_drew _) hE)
      go_simp
      exact hK _ _ (Below.refl _ _) rfl
    · -- 16: Op.move (Operand.tmp 1)
      refine AnyO.Step.mk rfl [] (by kernel_rfl) ?_
      intro vs u hE hp ac hb K hK
      have s1 : ac.tmps[1]?.getD undef = .int .i64 fr := by rw [hb]; kernel_rfl
      rw [if_pos (AnyO.wanted_none rfl)]
      clear hb hp
      go_simp
      exact hK _ _ (Below.refl _ _) rfl
    · -- 17: Op.call { callee := Callee.value (Operand.func 51), args := 
      refine AnyO.Step.mk rfl [5, 11, 15, 16] (by kernel_rfl) ?_
      intro vs u hE hp ac hb K hK
      have s13 : ac.tmps[13]?.getD undef = vI x := by rw [hb]; exact (show _ = vs 5 by kernel_rfl).trans (hp 5 (by decide))
      have s19 : ac.tmps[19]?.getD undef = .string t := by rw [hb]; exact (show _ = vs 11 by kernel_rfl).trans (hp 11 (by decide))
      have s23 : ac.tmps[23]?.getD undef = .int .i64 ch := by rw [hb]; exact (show _ = vs 15 by kernel_rfl).trans (hp 15 (by decide))
      have s24 : ac.tmps[24]?.getD undef = .int .i64 fr := by rw [hb]; exact (show _ = vs 16 by kernel_rfl).trans (hp 16 (by decide))
      rw [if_pos (AnyO.wanted_none rfl)]
      clear hb hp
      go_simp
      go_at_call 51
      refine (new51_range x t ch fr u ht h1 h2 h4).mono ?_
      rintro e w2 ⟨rfl, hb2⟩
      exact hK _ _ hb2 rfl
    · -- 18: Op.move (Operand.tmp 25)
      refine AnyO.Step.mk rfl [17] (by kernel_rfl) ?_
      intro vs u hE hp ac hb K hK
      have s25 : ac.tmps[25]?.getD undef = .tuple #[.pointer none, .int .i64 2] := by rw [hb]; exact (show _ = vs 17 by kernel_rfl).trans (hp 17 (by decide))
      rw [if_pos (AnyO.wanted_none rfl)]
      clear hb hp
      go_simp
      exact hK _ _ (Below.refl _ _) rfl
    · -- 19: Op.extract (Operand.tmp 7) 0
      refine AnyO.Step.mk rfl [18] (by kernel_rfl) ?_
      intro vs u hE hp ac hb K hK
      have s7 : ac.tmps[7]?.getD undef = .tuple #[.pointer none, .int .i64 2] := by rw [hb]; exact (show _ = vs 18 by kernel_rfl).trans (hp 18 (by decide))
      rw [if_pos (AnyO.wanted_none rfl)]
      clear hb hp
      go_simp
      exact hK _ _ (Below.refl _ _) rfl
    · -- 20: Op.extract (Operand.tmp 7) 1
      refine AnyO.Step.mk rfl [18] (by kernel_rfl) ?_
      intro vs u hE hp ac hb K hK
      have s7 : ac.tmps[7]?.getD undef = .tuple #[.pointer none, .int .i64 2] := by rw [hb]; exact (show _ = vs 18 by kernel_rfl).trans (hp 18 (by decide))
      rw [if_pos (AnyO.wanted_none rfl)]
      clear hb hp
      go_simp
      exact hK _ _ (Below.refl _ _) rfl
    · -- 21: Op.assign (Operand.tmp 26)
      refine AnyO.Step.mk rfl [19, 17, 0, 1, 2, 3, 4, 5, 6, 7, 8, 9, 10, 11, 12, 13, 14, 15, 16, 17, 18, 19] (by kernel_rfl) ?_
      intro vs u hE hp ac hb K hK
      have s26 : ac.tmps[26]?.getD undef = .pointer none := by rw [hb]; exact (show _ = vs 19 by kernel_rfl).trans (hp 19 (by decide))
      rw [if_pos (AnyO.wanted_none rfl)]
      clear hb hp
      go_simp
      exact hK _ _ (Below.refl _ _) rfl
  · intro vs u hE hp
    have e0 : vs 0 = .pointer (some ⟨b, 0, none⟩) := hp 0 (by decide)
    have e1 : vs 1 = .pointer (some ⟨b, 0, none⟩) := hp 1 (by decide)
    have e2 : vs 2 = .pointer (some ⟨b, 3, none⟩) := hp 2 (by decide)
    have e3 : vs 3 = .pointer (some ⟨b, 3, none⟩) := hp 3 (by decide)
    have e4 : vs 4 = .pointer (some ⟨b, 3, none⟩) := hp 4 (by decide)
    have e5 : vs 5 = vI x := hp 5 (by decide)
    have e6 : vs 6 = .pointer (some ⟨b, 0, none⟩) := hp 6 (by decide)
    have e7 : vs 7 = .pointer (some ⟨b, 0, none⟩) := hp 7 (by decide)
    have e8 : vs 8 = .pointer (some ⟨b, 3, none⟩) := hp 8 (by decide)
    have e9 : vs 9 = .pointer (some ⟨b, 3, none⟩) := hp 9 (by decide)
    have e10 : vs 10 = .pointer (some ⟨b, 35, none⟩) := hp 10 (by decide)
    have e11 : vs 11 = .string t := hp 11 (by decide)
    have e12 : vs 12 = .pointer (some ⟨b, 0, none⟩) := hp 12 (by decide)
    have e13 : vs 13 = .pointer (some ⟨b, 0, none⟩) := hp 13 (by decide)
    have e14 : vs 14 = .pointer (some ⟨b, 0, none⟩) := hp 14 (by decide)
    have e15 : vs 15 = .int .i64 ch := hp 15 (by decide)
    have e16 : vs 16 = .int .i64 fr := hp 16 (by decide)
    have e17 : vs 17 = .tuple #[.pointer none, .int .i64 2] := hp 17 (by decide)
    have e18 : vs 18 = .tuple #[.pointer none, .int .i64 2] := hp 18 (by decide)
    have e19 : vs 19 = .pointer none := hp 19 (by decide)
    have e20 : vs 20 = .int .i64 2 := hp 20 (by decide)
    have e21 : vs 21 = .pointer none := hp 21 (by decide)
    clear hp
    have HE := Lib.hid hE
    clear hE
    rw [puts_range [some 8, some 9, some 10, some 11, some 12, some 13, some 14, some 15, some 16, some 17, some 18, some 19, some 20, some 21, some 22, some 23, some 24, some 25, some 7, some 26, some 27, some 5] (by kernel_rfl)]
    simp only [putL, Nat.reduceAdd, List.drop_succ_cons, List.drop_zero, e0, e1, e2, e3, e4, e5, e6, e7, e8, e9, e10, e11, e12, e13, e14, e15, e16, e17, e18, e19, e20, e21]
    clear e0 e1 e2 e3 e4 e5 e6 e7 e8 e9 e10 e11 e12 e13 e14 e15 e16 e17 e18 e19 e20 e21
    go_simp
    go_wp2
    go_ret
    exact ⟨rfl, HX.out.keep HE.out, Kp.of_below HE.out⟩

/-- The effects of answers by states and verbs. -/
def effL : List Int := [0, 0, 0, 0, 0, 0, 0, 0, 0, 0, 0, 0, 0, 0, 0, 1, 3, 5, 4, 0, 0, 0, 0, 0, 0, 0, 0, 0, 0, 5, 4, 0, 0, 0, 0, 0, 0, 0, 0, 0, 0, 5, 4, 0, 0, 2, 0, 0]
def EffAt (w : World) : Prop := At w ⟨0, 0, none⟩ (effL.map (Value.int .i64))
theorem EffAt.cell {w w' : World} (h : EffAt w) (hb : Below w.heap.size w w') {k : Nat} {v : Value} (hk : (effL.map (Value.int .i64))[k]? = some v) : w'.cell? ⟨0, k, none⟩ = some v := by
  have h1 := h.2 k v hk
  rw [add_off, Nat.zero_add] at h1
  exact (cell_below h1 hb)
/-- What the walk asks once the check is behind it. -/
theorem hear_facts {b : Nat} {ch : Int} {s : St} {F : List Nat} {vw vo : Value} {q : Option Addr} {w w1 : World} {c : Cm} (h : Rp b ch s F vw vo q w) (hb : Below (w.alloc (.cells (aC c) 45)).heap.size (w.alloc (.cells (aC c) 45)) w1) :
    w1.cell? ⟨w.heap.size, 0, none⟩ = some (.int .i64 c.verb) ∧ w1.cell? ⟨w.heap.size, 35, none⟩ = some (.int .i64 c.from_) ∧ w1.cell? ⟨w.heap.size, 37, none⟩ = some (.int .i64 c.code) ∧ (okA w1 ⟨w.heap.size, 2, none⟩ 32 = true ∧ rdA w1 ⟨w.heap.size, 2, none⟩ 32 = vI c.id) ∧
    w1.cell? ⟨b, 2, none⟩ = some (.int .i64 s.state) ∧ (okA w1 ⟨b, 3, none⟩ 32 = true ∧ rdA w1 ⟨b, 3, none⟩ 32 = vI s.cur.1) ∧ Below w.heap.size w w1 ∧ Rp b ch s F vw vo q w1 := by
  have hb1 := Below.step (below_alloc w (.cells (aC c) 45)) hb
  have R : Row w1 w.heap.size (cC c) 45 := (Row.new w (cC c) 45).keep hb
  have rp := h.keep hb1
  exact ⟨R.cell 0, (R.cell 35).trans (cC_at (aC_35 c)), (R.cell 37).trans (cC_at (aC_37 c)), R.idC, rp.c2, rp.id, hb1, rp⟩
def isAns (v : Int) : Prop := v = 3 ∨ v = 4 ∨ v = 5 ∨ v = 6 ∨ v = 9
def HearP (b : Nat) (ch : Int) (_s : St) (F : List Nat) (w : World) (r : Int) (s' : St) : Ending → World → Prop := fun e w' => e = .returned (.int .i64 r) ∧ ∃ F', Rep b ch s' F' w' ∧ Kp F F' w w' 
set_option maxRecDepth 100000 in
set_option maxHeartbeats 3200000 in
theorem hear_bad (b : Nat) (ch : Int) (s : St) (F : List Nat) (vw vo : Value) (q : Option Addr) (c : Cm) (w : World) (h : Rp b ch s F vw vo q w) (hF : FormsAt w) (hname : c.name = ⟨#[]⟩) (hbad : chk c ≠ 0) :
    Calls Tryd.prog 19 #[.pointer (some ⟨b, 0, none⟩), vC c] w (HearP b ch s F w (chk c) s) := by
  have HX := Lib.hid h
  obtain ⟨r, hchk⟩ : ∃ r, chk c = r := ⟨_, rfl⟩
  have hr : (r != 0) = true := by rw [← hchk]; simpa using hbad
  clear h hbad
  go_enter Tryd.func19, Tryd.ntmps19
  go_wp2_with (go_at_call 41; refine (check41 c _ (FormsAt.keep hF (below_alloc w (.cells (aC c) 45))) hname).mono ?_; rintro e w1 ⟨rfl, hb⟩; rw [hchk]; obtain ⟨n0, n35, n37, ⟨n2, n2'⟩, m2, ⟨m3, m3'⟩, hb1, rp⟩ := hear_facts HX.out hb; have HY := Lib.hid (And.intro hb1 rp); clear hb hb1 rp)
  go_ret
  exact ⟨by rw [hchk]; rfl, F, ⟨vw, vo, q, HY.out.2⟩, Kp.of_below HY.out.1⟩
set_option maxRecDepth 100000 in
set_option maxHeartbeats 3200000 in
theorem hear_kind (b : Nat) (ch : Int) (s : St) (F : List Nat) (vw vo : Value) (q : Option Addr) (c : Cm) (w : World) (h : Rp b ch s F vw vo q w) (hF : FormsAt w) (hname : c.name = ⟨#[]⟩) (hchk : chk c = 0) (hv : ¬ isAns c.verb) :
    Calls Tryd.prog 19 #[.pointer (some ⟨b, 0, none⟩), vC c] w (HearP b ch s F w 11 s) := by
  have HX := Lib.hid h
  unfold isAns at hv
  have v3 : (c.verb == 3) = false := by simpa using fun e => hv (Or.inl e)
  have v4 : (c.verb == 4) = false := by simpa using fun e => hv (Or.inr (Or.inl e))
  have v5 : (c.verb == 5) = false := by simpa using fun e => hv (Or.inr (Or.inr (Or.inl e)))
  have v6 : (c.verb == 6) = false := by simpa using fun e => hv (Or.inr (Or.inr (Or.inr (Or.inl e))))
  have v9 : (c.verb == 9) = false := by simpa using fun e => hv (Or.inr (Or.inr (Or.inr (Or.inr e))))
  clear h hv
  go_enter Tryd.func19, Tryd.ntmps19
  go_wp2_with (go_at_call 41; refine (check41 c _ (FormsAt.keep hF (below_alloc w (.cells (aC c) 45))) hname).mono ?_; rintro e w1 ⟨rfl, hb⟩; rw [hchk]; obtain ⟨n0, n35, n37, ⟨n2, n2'⟩, m2, ⟨m3, m3'⟩, hb1, rp⟩ := hear_facts HX.out hb; have HY := Lib.hid (And.intro hb1 rp); clear hb hb1 rp)
  go_ret
  exact ⟨rfl, F, ⟨vw, vo, q, HY.out.2⟩, Kp.of_below HY.out.1⟩
set_option maxRecDepth 100000 in
set_option maxHeartbeats 3200000 in
theorem hear_idle3 (b : Nat) (ch : Int) (s : St) (F : List Nat) (vw vo : Value) (q : Option Addr) (c : Cm) (w : World) (h : Rp b ch s F vw vo q w) (hF : FormsAt w) (hname : c.name = ⟨#[]⟩) (hchk : chk c = 0) (hv : c.verb = 3) (hst : s.state = 0) :
    Calls Tryd.prog 19 #[.pointer (some ⟨b, 0, none⟩), vC c] w (HearP b ch s F w 8 s) := by
  have HX := Lib.hid h
  clear h
  go_enter Tryd.func19, Tryd.ntmps19
  go_wp2_with (go_at_call 41; refine (check41 c _ (FormsAt.keep hF (below_alloc w (.cells (aC c) 45))) hname).mono ?_; rintro e w1 ⟨rfl, hb⟩; rw [hchk]; obtain ⟨n0, n35, n37, ⟨n2, n2'⟩, m2, ⟨m3, m3'⟩, hb1, rp⟩ := hear_facts HX.out hb; have HY := Lib.hid (And.intro hb1 rp); rw [hv] at n0; rw [hst] at m2; clear hb hb1 rp)
  go_quiet (fail)
  go_wp2
  go_ret
  exact ⟨rfl, F, ⟨vw, vo, q, HY.out.2.keep (below_drewN _ _)⟩, Kp.of_below (Below.step HY.out.1 (below_drewN _ _))⟩
set_option maxRecDepth 100000 in
set_option maxHeartbeats 3200000 in
theorem hear_idle4 (b : Nat) (ch : Int) (s : St) (F : List Nat) (vw vo : Value) (q : Option Addr) (c : Cm) (w : World) (h : Rp b ch s F vw vo q w) (hF : FormsAt w) (hname : c.name = ⟨#[]⟩) (hchk : chk c = 0) (hv : c.verb = 4) (hst : s.state = 0) :
    Calls Tryd.prog 19 #[.pointer (some ⟨b, 0, none⟩), vC c] w (HearP b ch s F w 8 s) := by
  have HX := Lib.hid h
  clear h
  go_enter Tryd.func19, Tryd.ntmps19
  go_wp2_with (go_at_call 41; refine (check41 c _ (FormsAt.keep hF (below_alloc w (.cells (aC c) 45))) hname).mono ?_; rintro e w1 ⟨rfl, hb⟩; rw [hchk]; obtain ⟨n0, n35, n37, ⟨n2, n2'⟩, m2, ⟨m3, m3'⟩, hb1, rp⟩ := hear_facts HX.out hb; have HY := Lib.hid (And.intro hb1 rp); rw [hv] at n0; rw [hst] at m2; clear hb hb1 rp)
  go_quiet (fail)
  go_wp2
  go_ret
  exact ⟨rfl, F, ⟨vw, vo, q, HY.out.2.keep (below_drewN _ _)⟩, Kp.of_below (Below.step HY.out.1 (below_drewN _ _))⟩
set_option maxRecDepth 100000 in
set_option maxHeartbeats 3200000 in
theorem hear_idle5 (b : Nat) (ch : Int) (s : St) (F : List Nat) (vw vo : Value) (q : Option Addr) (c : Cm) (w : World) (h : Rp b ch s F vw vo q w) (hF : FormsAt w) (hname : c.name = ⟨#[]⟩) (hchk : chk c = 0) (hv : c.verb = 5) (hst : s.state = 0) :
    Calls Tryd.prog 19 #[.pointer (some ⟨b, 0, none⟩), vC c] w (HearP b ch s F w 8 s) := by
  have HX := Lib.hid h
  clear h
  go_enter Tryd.func19, Tryd.ntmps19
  go_wp2_with (go_at_call 41; refine (check41 c _ (FormsAt.keep hF (below_alloc w (.cells (aC c) 45))) hname).mono ?_; rintro e w1 ⟨rfl, hb⟩; rw [hchk]; obtain ⟨n0, n35, n37, ⟨n2, n2'⟩, m2, ⟨m3, m3'⟩, hb1, rp⟩ := hear_facts HX.out hb; have HY := Lib.hid (And.intro hb1 rp); rw [hv] at n0; rw [hst] at m2; clear hb hb1 rp)
  go_quiet (fail)
  go_wp2
  go_ret
  exact ⟨rfl, F, ⟨vw, vo, q, HY.out.2.keep (below_drewN _ _)⟩, Kp.of_below (Below.step HY.out.1 (below_drewN _ _))⟩
set_option maxRecDepth 100000 in
set_option maxHeartbeats 3200000 in
theorem hear_idle6 (b : Nat) (ch : Int) (s : St) (F : List Nat) (vw vo : Value) (q : Option Addr) (c : Cm) (w : World) (h : Rp b ch s F vw vo q w) (hF : FormsAt w) (hname : c.name = ⟨#[]⟩) (hchk : chk c = 0) (hv : c.verb = 6) (hst : s.state = 0) :
    Calls Tryd.prog 19 #[.pointer (some ⟨b, 0, none⟩), vC c] w (HearP b ch s F w 8 s) := by
  have HX := Lib.hid h
  clear h
  go_enter Tryd.func19, Tryd.ntmps19
  go_wp2_with (go_at_call 41; refine (check41 c _ (FormsAt.keep hF (below_alloc w (.cells (aC c) 45))) hname).mono ?_; rintro e w1 ⟨rfl, hb⟩; rw [hchk]; obtain ⟨n0, n35, n37, ⟨n2, n2'⟩, m2, ⟨m3, m3'⟩, hb1, rp⟩ := hear_facts HX.out hb; have HY := Lib.hid (And.intro hb1 rp); rw [hv] at n0; rw [hst] at m2; clear hb hb1 rp)
  go_quiet (fail)
  go_wp2
  go_ret
  exact ⟨rfl, F, ⟨vw, vo, q, HY.out.2.keep (below_drewN _ _)⟩, Kp.of_below (Below.step HY.out.1 (below_drewN _ _))⟩
set_option maxRecDepth 100000 in
set_option maxHeartbeats 3200000 in
theorem hear_idle9 (b : Nat) (ch : Int) (s : St) (F : List Nat) (vw vo : Value) (q : Option Addr) (c : Cm) (w : World) (h : Rp b ch s F vw vo q w) (hF : FormsAt w) (hname : c.name = ⟨#[]⟩) (hchk : chk c = 0) (hv : c.verb = 9) (hst : s.state = 0) :
    Calls Tryd.prog 19 #[.pointer (some ⟨b, 0, none⟩), vC c] w (HearP b ch s F w 8 s) := by
  have HX := Lib.hid h
  clear h
  go_enter Tryd.func19, Tryd.ntmps19
  go_wp2_with (go_at_call 41; refine (check41 c _ (FormsAt.keep hF (below_alloc w (.cells (aC c) 45))) hname).mono ?_; rintro e w1 ⟨rfl, hb⟩; rw [hchk]; obtain ⟨n0, n35, n37, ⟨n2, n2'⟩, m2, ⟨m3, m3'⟩, hb1, rp⟩ := hear_facts HX.out hb; have HY := Lib.hid (And.intro hb1 rp); rw [hv] at n0; rw [hst] at m2; clear hb hb1 rp)
  go_quiet (fail)
  go_wp2
  go_ret
  exact ⟨rfl, F, ⟨vw, vo, q, HY.out.2.keep (below_drewN _ _)⟩, Kp.of_below (Below.step HY.out.1 (below_drewN _ _))⟩
set_option maxRecDepth 100000 in
set_option maxHeartbeats 3200000 in
theorem hear_other3 (b : Nat) (ch : Int) (s : St) (F : List Nat) (vw vo : Value) (q : Option Addr) (c : Cm) (w : World) (h : Rp b ch s F vw vo q w) (hF : FormsAt w) (hname : c.name = ⟨#[]⟩) (hchk : chk c = 0) (hv : c.verb = 3) (hst : s.state ≠ 0) (hne : c.id ≠ s.cur.1) :
    Calls Tryd.prog 19 #[.pointer (some ⟨b, 0, none⟩), vC c] w (HearP b ch s F w 8 s) := by
  have HX := Lib.hid h
  have hz : (s.state == 0) = false := by simpa using hst
  have hd : decide (c.id = s.cur.1) = false := decide_eq_false hne
  clear h hst hne
  go_enter Tryd.func19, Tryd.ntmps19
  go_wp2_with (go_at_call 41; refine (check41 c _ (FormsAt.keep hF (below_alloc w (.cells (aC c) 45))) hname).mono ?_; rintro e w1 ⟨rfl, hb⟩; rw [hchk]; obtain ⟨n0, n35, n37, ⟨n2, n2'⟩, m2, ⟨m3, m3'⟩, hb1, rp⟩ := hear_facts HX.out hb; have HY := Lib.hid (And.intro hb1 rp); rw [hv] at n0; clear hb hb1 rp)
  go_quiet (fail)
  go_wp2
  go_ret
  exact ⟨rfl, F, ⟨vw, vo, q, HY.out.2.keep (below_drewN _ _)⟩, Kp.of_below (Below.step HY.out.1 (below_drewN _ _))⟩
set_option maxRecDepth 100000 in
set_option maxHeartbeats 3200000 in
theorem hear_other4 (b : Nat) (ch : Int) (s : St) (F : List Nat) (vw vo : Value) (q : Option Addr) (c : Cm) (w : World) (h : Rp b ch s F vw vo q w) (hF : FormsAt w) (hname : c.name = ⟨#[]⟩) (hchk : chk c = 0) (hv : c.verb = 4) (hst : s.state ≠ 0) (hne : c.id ≠ s.cur.1) :
    Calls Tryd.prog 19 #[.pointer (some ⟨b, 0, none⟩), vC c] w (HearP b ch s F w 8 s) := by
  have HX := Lib.hid h
  have hz : (s.state == 0) = false := by simpa using hst
  have hd : decide (c.id = s.cur.1) = false := decide_eq_false hne
  clear h hst hne
  go_enter Tryd.func19, Tryd.ntmps19
  go_wp2_with (go_at_call 41; refine (check41 c _ (FormsAt.keep hF (below_alloc w (.cells (aC c) 45))) hname).mono ?_; rintro e w1 ⟨rfl, hb⟩; rw [hchk]; obtain ⟨n0, n35, n37, ⟨n2, n2'⟩, m2, ⟨m3, m3'⟩, hb1, rp⟩ := hear_facts HX.out hb; have HY := Lib.hid (And.intro hb1 rp); rw [hv] at n0; clear hb hb1 rp)
  go_quiet (fail)
  go_wp2
  go_ret
  exact ⟨rfl, F, ⟨vw, vo, q, HY.out.2.keep (below_drewN _ _)⟩, Kp.of_below (Below.step HY.out.1 (below_drewN _ _))⟩
set_option maxRecDepth 100000 in
set_option maxHeartbeats 3200000 in
theorem hear_other5 (b : Nat) (ch : Int) (s : St) (F : List Nat) (vw vo : Value) (q : Option Addr) (c : Cm) (w : World) (h : Rp b ch s F vw vo q w) (hF : FormsAt w) (hname : c.name = ⟨#[]⟩) (hchk : chk c = 0) (hv : c.verb = 5) (hst : s.state ≠ 0) (hne : c.id ≠ s.cur.1) :
    Calls Tryd.prog 19 #[.pointer (some ⟨b, 0, none⟩), vC c] w (HearP b ch s F w 8 s) := by
  have HX := Lib.hid h
  have hz : (s.state == 0) = false := by simpa using hst
  have hd : decide (c.id = s.cur.1) = false := decide_eq_false hne
  clear h hst hne
  go_enter Tryd.func19, Tryd.ntmps19
  go_wp2_with (go_at_call 41; refine (check41 c _ (FormsAt.keep hF (below_alloc w (.cells (aC c) 45))) hname).mono ?_; rintro e w1 ⟨rfl, hb⟩; rw [hchk]; obtain ⟨n0, n35, n37, ⟨n2, n2'⟩, m2, ⟨m3, m3'⟩, hb1, rp⟩ := hear_facts HX.out hb; have HY := Lib.hid (And.intro hb1 rp); rw [hv] at n0; clear hb hb1 rp)
  go_quiet (fail)
  go_wp2
  go_ret
  exact ⟨rfl, F, ⟨vw, vo, q, HY.out.2.keep (below_drewN _ _)⟩, Kp.of_below (Below.step HY.out.1 (below_drewN _ _))⟩
set_option maxRecDepth 100000 in
set_option maxHeartbeats 3200000 in
theorem hear_other6 (b : Nat) (ch : Int) (s : St) (F : List Nat) (vw vo : Value) (q : Option Addr) (c : Cm) (w : World) (h : Rp b ch s F vw vo q w) (hF : FormsAt w) (hname : c.name = ⟨#[]⟩) (hchk : chk c = 0) (hv : c.verb = 6) (hst : s.state ≠ 0) (hne : c.id ≠ s.cur.1) :
    Calls Tryd.prog 19 #[.pointer (some ⟨b, 0, none⟩), vC c] w (HearP b ch s F w 8 s) := by
  have HX := Lib.hid h
  have hz : (s.state == 0) = false := by simpa using hst
  have hd : decide (c.id = s.cur.1) = false := decide_eq_false hne
  clear h hst hne
  go_enter Tryd.func19, Tryd.ntmps19
  go_wp2_with (go_at_call 41; refine (check41 c _ (FormsAt.keep hF (below_alloc w (.cells (aC c) 45))) hname).mono ?_; rintro e w1 ⟨rfl, hb⟩; rw [hchk]; obtain ⟨n0, n35, n37, ⟨n2, n2'⟩, m2, ⟨m3, m3'⟩, hb1, rp⟩ := hear_facts HX.out hb; have HY := Lib.hid (And.intro hb1 rp); rw [hv] at n0; clear hb hb1 rp)
  go_quiet (fail)
  go_wp2
  go_ret
  exact ⟨rfl, F, ⟨vw, vo, q, HY.out.2.keep (below_drewN _ _)⟩, Kp.of_below (Below.step HY.out.1 (below_drewN _ _))⟩
set_option maxRecDepth 100000 in
set_option maxHeartbeats 3200000 in
theorem hear_other9 (b : Nat) (ch : Int) (s : St) (F : List Nat) (vw vo : Value) (q : Option Addr) (c : Cm) (w : World) (h : Rp b ch s F vw vo q w) (hF : FormsAt w) (hname : c.name = ⟨#[]⟩) (hchk : chk c = 0) (hv : c.verb = 9) (hst : s.state ≠ 0) (hne : c.id ≠ s.cur.1) :
    Calls Tryd.prog 19 #[.pointer (some ⟨b, 0, none⟩), vC c] w (HearP b ch s F w 8 s) := by
  have HX := Lib.hid h
  have hz : (s.state == 0) = false := by simpa using hst
  have hd : decide (c.id = s.cur.1) = false := decide_eq_false hne
  clear h hst hne
  go_enter Tryd.func19, Tryd.ntmps19
  go_wp2_with (go_at_call 41; refine (check41 c _ (FormsAt.keep hF (below_alloc w (.cells (aC c) 45))) hname).mono ?_; rintro e w1 ⟨rfl, hb⟩; rw [hchk]; obtain ⟨n0, n35, n37, ⟨n2, n2'⟩, m2, ⟨m3, m3'⟩, hb1, rp⟩ := hear_facts HX.out hb; have HY := Lib.hid (And.intro hb1 rp); rw [hv] at n0; clear hb hb1 rp)
  go_quiet (fail)
  go_wp2
  go_ret
  exact ⟨rfl, F, ⟨vw, vo, q, HY.out.2.keep (below_drewN _ _)⟩, Kp.of_below (Below.step HY.out.1 (below_drewN _ _))⟩
set_option maxRecDepth 100000 in
set_option maxHeartbeats 3200000 in
theorem hear_1_3 (b : Nat) (ch : Int) (s : St) (F : List Nat) (vw vo : Value) (q : Option Addr) (c : Cm) (w : World) (h : Rp b ch s F vw vo q w) (hF : FormsAt w) (hname : c.name = ⟨#[]⟩) (hE : EffAt w) (x : Id) (t : ByteArray) (hchk : chk c = 0) (hv : c.verb = 3) (hst : s.state = 1) (hcur : s.cur = (x, t)) (hid : c.id = x) (ht : t.size ≤ 65536) (h1 : 1 ≤ ch) (h2 : ch ≤ 4096) (h3 : 0 ≤ c.from_) (h4 : c.from_ ≤ (t.size : Int)) :
    Calls Tryd.prog 19 #[.pointer (some ⟨b, 0, none⟩), vC c] w (HearP b ch s F w 0 { s with state := 2, snd := some (c.from_, false) }) := by
  have HX := Lib.hid h
  have HC := Lib.hid (And.intro hcur trivial)
  clear h 
  go_enter Tryd.func19, Tryd.ntmps19
  go_wp2_with (go_at_call 41; refine (check41 c _ (FormsAt.keep hF (below_alloc w (.cells (aC c) 45))) hname).mono ?_; rintro e w1 ⟨rfl, hb⟩; rw [hchk]; obtain ⟨n0, n35, n37, ⟨n2, n2'⟩, m2, ⟨m3, m3'⟩, hb1, rp⟩ := hear_facts HX.out hb; have HY := Lib.hid (And.intro hb1 rp); rw [hv] at n0; rw [hst] at m2; rw [hid] at n2'; rw [hcur] at m3'; have HE := Lib.hid (EffAt.cell hE hb1 (k := 15) rfl); clear hb hb1 rp)
  go_quiet (fail)
  have e9 : w1.cell? ⟨0, 15, none⟩ = some (.int .i64 1) := HE.out
  clear HE
  go_wp2
  go_quiet (fail)
  go_wp2_with (go_at_call 42; refine (want42 b ch s F x t c.from_ _ ⟨vw, vo, q, HY.out.2.keep (below_drewN _ _)⟩ HC.out.1 ht h1 h2 h3 h4).mono ?_; rintro e w2 ⟨rfl, hz⟩; have HZ := Lib.hid hz; clear hz)
  go_ret
  obtain ⟨F2, hr, hk⟩ := HZ.out
  exact ⟨rfl, F2, hr, (Kp.of_below (Below.step HY.out.1 (below_drewN _ _))).trans hk⟩
set_option maxRecDepth 100000 in
set_option maxHeartbeats 3200000 in
theorem hear_1_3_range (b : Nat) (ch : Int) (s : St) (F : List Nat) (vw vo : Value) (q : Option Addr) (c : Cm) (w : World) (h : Rp b ch s F vw vo q w) (hF : FormsAt w) (hname : c.name = ⟨#[]⟩) (hE : EffAt w) (x : Id) (t : ByteArray) (hchk : chk c = 0) (hv : c.verb = 3) (hst : s.state = 1) (hcur : s.cur = (x, t)) (hid : c.id = x) (ht : t.size ≤ 65536) (h1 : 1 ≤ ch) (h2 : ch ≤ 4096) (h4 : (t.size : Int) < c.from_) :
    Calls Tryd.prog 19 #[.pointer (some ⟨b, 0, none⟩), vC c] w (HearP b ch s F w 2 s) := by
  have HX := Lib.hid h
  have HC := Lib.hid (And.intro hcur trivial)
  clear h 
  go_enter Tryd.func19, Tryd.ntmps19
  go_wp2_with (go_at_call 41; refine (check41 c _ (FormsAt.keep hF (below_alloc w (.cells (aC c) 45))) hname).mono ?_; rintro e w1 ⟨rfl, hb⟩; rw [hchk]; obtain ⟨n0, n35, n37, ⟨n2, n2'⟩, m2, ⟨m3, m3'⟩, hb1, rp⟩ := hear_facts HX.out hb; have HY := Lib.hid (And.intro hb1 rp); rw [hv] at n0; rw [hst] at m2; rw [hid] at n2'; rw [hcur] at m3'; have HE := Lib.hid (EffAt.cell hE hb1 (k := 15) rfl); clear hb hb1 rp)
  go_quiet (fail)
  have e9 : w1.cell? ⟨0, 15, none⟩ = some (.int .i64 1) := HE.out
  clear HE
  go_wp2
  go_quiet (fail)
  go_wp2_with (go_at_call 42; refine (want42_range b ch s F vw vo q x t c.from_ _ (HY.out.2.keep (below_drewN _ _)) HC.out.1 ht h1 h2 h4).mono ?_; rintro e w2 ⟨rfl, hz⟩; have HZ := Lib.hid hz; clear hz)
  go_ret
  obtain ⟨hr, hk⟩ := HZ.out
  exact ⟨rfl, F, ⟨vw, vo, q, hr⟩, (Kp.of_below (Below.step HY.out.1 (below_drewN _ _))).trans hk⟩
set_option maxRecDepth 100000 in
set_option maxHeartbeats 3200000 in
theorem hear_1_4 (b : Nat) (ch : Int) (s : St) (F : List Nat) (vw vo : Value) (q : Option Addr) (c : Cm) (w : World) (h : Rp b ch s F vw vo q w) (hF : FormsAt w) (hname : c.name = ⟨#[]⟩) (hE : EffAt w) (x : Id) (t : ByteArray) (hchk : chk c = 0) (hv : c.verb = 4) (hst : s.state = 1) (hcur : s.cur = (x, t)) (hid : c.id = x) (hm : s.outs.length ≤ 100000) :
    Calls Tryd.prog 19 #[.pointer (some ⟨b, 0, none⟩), vC c] w (HearP b ch s F w 0 ⟨s.wait, 0, zA, s.outs ++ [(x, 1, 0)], none⟩) := by
  have HX := Lib.hid h
  have HC := Lib.hid (And.intro hcur trivial)
  clear h 
  go_enter Tryd.func19, Tryd.ntmps19
  go_wp2_with (go_at_call 41; refine (check41 c _ (FormsAt.keep hF (below_alloc w (.cells (aC c) 45))) hname).mono ?_; rintro e w1 ⟨rfl, hb⟩; rw [hchk]; obtain ⟨n0, n35, n37, ⟨n2, n2'⟩, m2, ⟨m3, m3'⟩, hb1, rp⟩ := hear_facts HX.out hb; have HY := Lib.hid (And.intro hb1 rp); rw [hv] at n0; rw [hst] at m2; rw [hid] at n2'; rw [hcur] at m3'; have HE := Lib.hid (EffAt.cell hE hb1 (k := 16) rfl); clear hb hb1 rp)
  go_quiet (fail)
  have e9 : w1.cell? ⟨0, 16, none⟩ = some (.int .i64 3) := HE.out
  clear HE
  go_wp2
  go_quiet (fail)
  go_wp2_with (go_at_call 43; refine (end43 b ch s F x t 1 0 _ ⟨vw, vo, q, HY.out.2.keep (below_drewN _ _)⟩ HC.out.1 hm).mono ?_; rintro e w2 ⟨rfl, hz⟩; have HZ := Lib.hid hz; clear hz)
  go_ret
  obtain ⟨F2, hr, hk⟩ := HZ.out
  exact ⟨rfl, F2, hr, (Kp.of_below (Below.step HY.out.1 (below_drewN _ _))).trans hk⟩
set_option maxRecDepth 100000 in
set_option maxHeartbeats 3200000 in
theorem hear_1_5 (b : Nat) (ch : Int) (s : St) (F : List Nat) (vw vo : Value) (q : Option Addr) (c : Cm) (w : World) (h : Rp b ch s F vw vo q w) (hF : FormsAt w) (hname : c.name = ⟨#[]⟩) (hE : EffAt w) (x : Id) (t : ByteArray) (hchk : chk c = 0) (hv : c.verb = 5) (hst : s.state = 1) (hcur : s.cur = (x, t)) (hid : c.id = x) (hm : s.outs.length ≤ 100000) :
    Calls Tryd.prog 19 #[.pointer (some ⟨b, 0, none⟩), vC c] w (HearP b ch s F w 0 ⟨s.wait, 0, zA, s.outs ++ [(x, 3, 0)], none⟩) := by
  have HX := Lib.hid h
  have HC := Lib.hid (And.intro hcur trivial)
  clear h 
  go_enter Tryd.func19, Tryd.ntmps19
  go_wp2_with (go_at_call 41; refine (check41 c _ (FormsAt.keep hF (below_alloc w (.cells (aC c) 45))) hname).mono ?_; rintro e w1 ⟨rfl, hb⟩; rw [hchk]; obtain ⟨n0, n35, n37, ⟨n2, n2'⟩, m2, ⟨m3, m3'⟩, hb1, rp⟩ := hear_facts HX.out hb; have HY := Lib.hid (And.intro hb1 rp); rw [hv] at n0; rw [hst] at m2; rw [hid] at n2'; rw [hcur] at m3'; have HE := Lib.hid (EffAt.cell hE hb1 (k := 17) rfl); clear hb hb1 rp)
  go_quiet (fail)
  have e9 : w1.cell? ⟨0, 17, none⟩ = some (.int .i64 5) := HE.out
  clear HE
  go_wp2
  go_quiet (fail)
  go_wp2_with (go_at_call 43; refine (end43 b ch s F x t 3 0 _ ⟨vw, vo, q, HY.out.2.keep (below_drewN _ _)⟩ HC.out.1 hm).mono ?_; rintro e w2 ⟨rfl, hz⟩; have HZ := Lib.hid hz; clear hz)
  go_ret
  obtain ⟨F2, hr, hk⟩ := HZ.out
  exact ⟨rfl, F2, hr, (Kp.of_below (Below.step HY.out.1 (below_drewN _ _))).trans hk⟩
set_option maxRecDepth 100000 in
set_option maxHeartbeats 3200000 in
theorem hear_1_6 (b : Nat) (ch : Int) (s : St) (F : List Nat) (vw vo : Value) (q : Option Addr) (c : Cm) (w : World) (h : Rp b ch s F vw vo q w) (hF : FormsAt w) (hname : c.name = ⟨#[]⟩) (hE : EffAt w) (x : Id) (t : ByteArray) (hchk : chk c = 0) (hv : c.verb = 6) (hst : s.state = 1) (hcur : s.cur = (x, t)) (hid : c.id = x) (hm : s.outs.length ≤ 100000) :
    Calls Tryd.prog 19 #[.pointer (some ⟨b, 0, none⟩), vC c] w (HearP b ch s F w 0 ⟨s.wait, 0, zA, s.outs ++ [(x, 2, c.code)], none⟩) := by
  have HX := Lib.hid h
  have HC := Lib.hid (And.intro hcur trivial)
  clear h 
  go_enter Tryd.func19, Tryd.ntmps19
  go_wp2_with (go_at_call 41; refine (check41 c _ (FormsAt.keep hF (below_alloc w (.cells (aC c) 45))) hname).mono ?_; rintro e w1 ⟨rfl, hb⟩; rw [hchk]; obtain ⟨n0, n35, n37, ⟨n2, n2'⟩, m2, ⟨m3, m3'⟩, hb1, rp⟩ := hear_facts HX.out hb; have HY := Lib.hid (And.intro hb1 rp); rw [hv] at n0; rw [hst] at m2; rw [hid] at n2'; rw [hcur] at m3'; have HE := Lib.hid (EffAt.cell hE hb1 (k := 18) rfl); clear hb hb1 rp)
  go_quiet (fail)
  have e9 : w1.cell? ⟨0, 18, none⟩ = some (.int .i64 4) := HE.out
  clear HE
  go_wp2
  go_quiet (fail)
  go_wp2_with (go_at_call 43; refine (end43 b ch s F x t 2 c.code _ ⟨vw, vo, q, HY.out.2.keep (below_drewN _ _)⟩ HC.out.1 hm).mono ?_; rintro e w2 ⟨rfl, hz⟩; have HZ := Lib.hid hz; clear hz)
  go_ret
  obtain ⟨F2, hr, hk⟩ := HZ.out
  exact ⟨rfl, F2, hr, (Kp.of_below (Below.step HY.out.1 (below_drewN _ _))).trans hk⟩
set_option maxRecDepth 100000 in
set_option maxHeartbeats 3200000 in
theorem hear_1_9 (b : Nat) (ch : Int) (s : St) (F : List Nat) (vw vo : Value) (q : Option Addr) (c : Cm) (w : World) (h : Rp b ch s F vw vo q w) (hF : FormsAt w) (hname : c.name = ⟨#[]⟩) (hE : EffAt w) (x : Id) (t : ByteArray) (hchk : chk c = 0) (hv : c.verb = 9) (hst : s.state = 1) (hcur : s.cur = (x, t)) (hid : c.id = x) :
    Calls Tryd.prog 19 #[.pointer (some ⟨b, 0, none⟩), vC c] w (HearP b ch s F w 10 s) := by
  have HX := Lib.hid h
  have HC := Lib.hid (And.intro hcur trivial)
  clear h 
  go_enter Tryd.func19, Tryd.ntmps19
  go_wp2_with (go_at_call 41; refine (check41 c _ (FormsAt.keep hF (below_alloc w (.cells (aC c) 45))) hname).mono ?_; rintro e w1 ⟨rfl, hb⟩; rw [hchk]; obtain ⟨n0, n35, n37, ⟨n2, n2'⟩, m2, ⟨m3, m3'⟩, hb1, rp⟩ := hear_facts HX.out hb; have HY := Lib.hid (And.intro hb1 rp); rw [hv] at n0; rw [hst] at m2; rw [hid] at n2'; rw [hcur] at m3'; have HE := Lib.hid (EffAt.cell hE hb1 (k := 21) rfl); clear hb hb1 rp)
  go_quiet (fail)
  have e9 : w1.cell? ⟨0, 21, none⟩ = some (.int .i64 0) := HE.out
  clear HE
  go_wp2
  go_quiet (fail)
  go_wp2
  go_ret
  exact ⟨rfl, F, ⟨vw, vo, q, HY.out.2.keep (below_drewN _ _)⟩, Kp.of_below (Below.step HY.out.1 (below_drewN _ _))⟩
set_option maxRecDepth 100000 in
set_option maxHeartbeats 3200000 in
theorem hear_2_3 (b : Nat) (ch : Int) (s : St) (F : List Nat) (vw vo : Value) (q : Option Addr) (c : Cm) (w : World) (h : Rp b ch s F vw vo q w) (hF : FormsAt w) (hname : c.name = ⟨#[]⟩) (hE : EffAt w) (x : Id) (t : ByteArray) (hchk : chk c = 0) (hv : c.verb = 3) (hst : s.state = 2) (hcur : s.cur = (x, t)) (hid : c.id = x) :
    Calls Tryd.prog 19 #[.pointer (some ⟨b, 0, none⟩), vC c] w (HearP b ch s F w 10 s) := by
  have HX := Lib.hid h
  have HC := Lib.hid (And.intro hcur trivial)
  clear h 
  go_enter Tryd.func19, Tryd.ntmps19
  go_wp2_with (go_at_call 41; refine (check41 c _ (FormsAt.keep hF (below_alloc w (.cells (aC c) 45))) hname).mono ?_; rintro e w1 ⟨rfl, hb⟩; rw [hchk]; obtain ⟨n0, n35, n37, ⟨n2, n2'⟩, m2, ⟨m3, m3'⟩, hb1, rp⟩ := hear_facts HX.out hb; have HY := Lib.hid (And.intro hb1 rp); rw [hv] at n0; rw [hst] at m2; rw [hid] at n2'; rw [hcur] at m3'; have HE := Lib.hid (EffAt.cell hE hb1 (k := 27) rfl); clear hb hb1 rp)
  go_quiet (fail)
  have e9 : w1.cell? ⟨0, 27, none⟩ = some (.int .i64 0) := HE.out
  clear HE
  go_wp2
  go_quiet (fail)
  go_wp2
  go_ret
  exact ⟨rfl, F, ⟨vw, vo, q, HY.out.2.keep (below_drewN _ _)⟩, Kp.of_below (Below.step HY.out.1 (below_drewN _ _))⟩
set_option maxRecDepth 100000 in
set_option maxHeartbeats 3200000 in
theorem hear_2_4 (b : Nat) (ch : Int) (s : St) (F : List Nat) (vw vo : Value) (q : Option Addr) (c : Cm) (w : World) (h : Rp b ch s F vw vo q w) (hF : FormsAt w) (hname : c.name = ⟨#[]⟩) (hE : EffAt w) (x : Id) (t : ByteArray) (hchk : chk c = 0) (hv : c.verb = 4) (hst : s.state = 2) (hcur : s.cur = (x, t)) (hid : c.id = x) :
    Calls Tryd.prog 19 #[.pointer (some ⟨b, 0, none⟩), vC c] w (HearP b ch s F w 10 s) := by
  have HX := Lib.hid h
  have HC := Lib.hid (And.intro hcur trivial)
  clear h 
  go_enter Tryd.func19, Tryd.ntmps19
  go_wp2_with (go_at_call 41; refine (check41 c _ (FormsAt.keep hF (below_alloc w (.cells (aC c) 45))) hname).mono ?_; rintro e w1 ⟨rfl, hb⟩; rw [hchk]; obtain ⟨n0, n35, n37, ⟨n2, n2'⟩, m2, ⟨m3, m3'⟩, hb1, rp⟩ := hear_facts HX.out hb; have HY := Lib.hid (And.intro hb1 rp); rw [hv] at n0; rw [hst] at m2; rw [hid] at n2'; rw [hcur] at m3'; have HE := Lib.hid (EffAt.cell hE hb1 (k := 28) rfl); clear hb hb1 rp)
  go_quiet (fail)
  have e9 : w1.cell? ⟨0, 28, none⟩ = some (.int .i64 0) := HE.out
  clear HE
  go_wp2
  go_quiet (fail)
  go_wp2
  go_ret
  exact ⟨rfl, F, ⟨vw, vo, q, HY.out.2.keep (below_drewN _ _)⟩, Kp.of_below (Below.step HY.out.1 (below_drewN _ _))⟩
set_option maxRecDepth 100000 in
set_option maxHeartbeats 3200000 in
theorem hear_2_5 (b : Nat) (ch : Int) (s : St) (F : List Nat) (vw vo : Value) (q : Option Addr) (c : Cm) (w : World) (h : Rp b ch s F vw vo q w) (hF : FormsAt w) (hname : c.name = ⟨#[]⟩) (hE : EffAt w) (x : Id) (t : ByteArray) (hchk : chk c = 0) (hv : c.verb = 5) (hst : s.state = 2) (hcur : s.cur = (x, t)) (hid : c.id = x) (hm : s.outs.length ≤ 100000) :
    Calls Tryd.prog 19 #[.pointer (some ⟨b, 0, none⟩), vC c] w (HearP b ch s F w 0 ⟨s.wait, 0, zA, s.outs ++ [(x, 3, 0)], none⟩) := by
  have HX := Lib.hid h
  have HC := Lib.hid (And.intro hcur trivial)
  clear h 
  go_enter Tryd.func19, Tryd.ntmps19
  go_wp2_with (go_at_call 41; refine (check41 c _ (FormsAt.keep hF (below_alloc w (.cells (aC c) 45))) hname).mono ?_; rintro e w1 ⟨rfl, hb⟩; rw [hchk]; obtain ⟨n0, n35, n37, ⟨n2, n2'⟩, m2, ⟨m3, m3'⟩, hb1, rp⟩ := hear_facts HX.out hb; have HY := Lib.hid (And.intro hb1 rp); rw [hv] at n0; rw [hst] at m2; rw [hid] at n2'; rw [hcur] at m3'; have HE := Lib.hid (EffAt.cell hE hb1 (k := 29) rfl); clear hb hb1 rp)
  go_quiet (fail)
  have e9 : w1.cell? ⟨0, 29, none⟩ = some (.int .i64 5) := HE.out
  clear HE
  go_wp2
  go_quiet (fail)
  go_wp2_with (go_at_call 43; refine (end43 b ch s F x t 3 0 _ ⟨vw, vo, q, HY.out.2.keep (below_drewN _ _)⟩ HC.out.1 hm).mono ?_; rintro e w2 ⟨rfl, hz⟩; have HZ := Lib.hid hz; clear hz)
  go_ret
  obtain ⟨F2, hr, hk⟩ := HZ.out
  exact ⟨rfl, F2, hr, (Kp.of_below (Below.step HY.out.1 (below_drewN _ _))).trans hk⟩
set_option maxRecDepth 100000 in
set_option maxHeartbeats 3200000 in
theorem hear_2_6 (b : Nat) (ch : Int) (s : St) (F : List Nat) (vw vo : Value) (q : Option Addr) (c : Cm) (w : World) (h : Rp b ch s F vw vo q w) (hF : FormsAt w) (hname : c.name = ⟨#[]⟩) (hE : EffAt w) (x : Id) (t : ByteArray) (hchk : chk c = 0) (hv : c.verb = 6) (hst : s.state = 2) (hcur : s.cur = (x, t)) (hid : c.id = x) (hm : s.outs.length ≤ 100000) :
    Calls Tryd.prog 19 #[.pointer (some ⟨b, 0, none⟩), vC c] w (HearP b ch s F w 0 ⟨s.wait, 0, zA, s.outs ++ [(x, 2, c.code)], none⟩) := by
  have HX := Lib.hid h
  have HC := Lib.hid (And.intro hcur trivial)
  clear h 
  go_enter Tryd.func19, Tryd.ntmps19
  go_wp2_with (go_at_call 41; refine (check41 c _ (FormsAt.keep hF (below_alloc w (.cells (aC c) 45))) hname).mono ?_; rintro e w1 ⟨rfl, hb⟩; rw [hchk]; obtain ⟨n0, n35, n37, ⟨n2, n2'⟩, m2, ⟨m3, m3'⟩, hb1, rp⟩ := hear_facts HX.out hb; have HY := Lib.hid (And.intro hb1 rp); rw [hv] at n0; rw [hst] at m2; rw [hid] at n2'; rw [hcur] at m3'; have HE := Lib.hid (EffAt.cell hE hb1 (k := 30) rfl); clear hb hb1 rp)
  go_quiet (fail)
  have e9 : w1.cell? ⟨0, 30, none⟩ = some (.int .i64 4) := HE.out
  clear HE
  go_wp2
  go_quiet (fail)
  go_wp2_with (go_at_call 43; refine (end43 b ch s F x t 2 c.code _ ⟨vw, vo, q, HY.out.2.keep (below_drewN _ _)⟩ HC.out.1 hm).mono ?_; rintro e w2 ⟨rfl, hz⟩; have HZ := Lib.hid hz; clear hz)
  go_ret
  obtain ⟨F2, hr, hk⟩ := HZ.out
  exact ⟨rfl, F2, hr, (Kp.of_below (Below.step HY.out.1 (below_drewN _ _))).trans hk⟩
set_option maxRecDepth 100000 in
set_option maxHeartbeats 3200000 in
theorem hear_2_9 (b : Nat) (ch : Int) (s : St) (F : List Nat) (vw vo : Value) (q : Option Addr) (c : Cm) (w : World) (h : Rp b ch s F vw vo q w) (hF : FormsAt w) (hname : c.name = ⟨#[]⟩) (hE : EffAt w) (x : Id) (t : ByteArray) (hchk : chk c = 0) (hv : c.verb = 9) (hst : s.state = 2) (hcur : s.cur = (x, t)) (hid : c.id = x) :
    Calls Tryd.prog 19 #[.pointer (some ⟨b, 0, none⟩), vC c] w (HearP b ch s F w 10 s) := by
  have HX := Lib.hid h
  have HC := Lib.hid (And.intro hcur trivial)
  clear h 
  go_enter Tryd.func19, Tryd.ntmps19
  go_wp2_with (go_at_call 41; refine (check41 c _ (FormsAt.keep hF (below_alloc w (.cells (aC c) 45))) hname).mono ?_; rintro e w1 ⟨rfl, hb⟩; rw [hchk]; obtain ⟨n0, n35, n37, ⟨n2, n2'⟩, m2, ⟨m3, m3'⟩, hb1, rp⟩ := hear_facts HX.out hb; have HY := Lib.hid (And.intro hb1 rp); rw [hv] at n0; rw [hst] at m2; rw [hid] at n2'; rw [hcur] at m3'; have HE := Lib.hid (EffAt.cell hE hb1 (k := 33) rfl); clear hb hb1 rp)
  go_quiet (fail)
  have e9 : w1.cell? ⟨0, 33, none⟩ = some (.int .i64 0) := HE.out
  clear HE
  go_wp2
  go_quiet (fail)
  go_wp2
  go_ret
  exact ⟨rfl, F, ⟨vw, vo, q, HY.out.2.keep (below_drewN _ _)⟩, Kp.of_below (Below.step HY.out.1 (below_drewN _ _))⟩
set_option maxRecDepth 100000 in
set_option maxHeartbeats 3200000 in
theorem hear_3_3 (b : Nat) (ch : Int) (s : St) (F : List Nat) (vw vo : Value) (q : Option Addr) (c : Cm) (w : World) (h : Rp b ch s F vw vo q w) (hF : FormsAt w) (hname : c.name = ⟨#[]⟩) (hE : EffAt w) (x : Id) (t : ByteArray) (hchk : chk c = 0) (hv : c.verb = 3) (hst : s.state = 3) (hcur : s.cur = (x, t)) (hid : c.id = x) :
    Calls Tryd.prog 19 #[.pointer (some ⟨b, 0, none⟩), vC c] w (HearP b ch s F w 10 s) := by
  have HX := Lib.hid h
  have HC := Lib.hid (And.intro hcur trivial)
  clear h 
  go_enter Tryd.func19, Tryd.ntmps19
  go_wp2_with (go_at_call 41; refine (check41 c _ (FormsAt.keep hF (below_alloc w (.cells (aC c) 45))) hname).mono ?_; rintro e w1 ⟨rfl, hb⟩; rw [hchk]; obtain ⟨n0, n35, n37, ⟨n2, n2'⟩, m2, ⟨m3, m3'⟩, hb1, rp⟩ := hear_facts HX.out hb; have HY := Lib.hid (And.intro hb1 rp); rw [hv] at n0; rw [hst] at m2; rw [hid] at n2'; rw [hcur] at m3'; have HE := Lib.hid (EffAt.cell hE hb1 (k := 39) rfl); clear hb hb1 rp)
  go_quiet (fail)
  have e9 : w1.cell? ⟨0, 39, none⟩ = some (.int .i64 0) := HE.out
  clear HE
  go_wp2
  go_quiet (fail)
  go_wp2
  go_ret
  exact ⟨rfl, F, ⟨vw, vo, q, HY.out.2.keep (below_drewN _ _)⟩, Kp.of_below (Below.step HY.out.1 (below_drewN _ _))⟩
set_option maxRecDepth 100000 in
set_option maxHeartbeats 3200000 in
theorem hear_3_4 (b : Nat) (ch : Int) (s : St) (F : List Nat) (vw vo : Value) (q : Option Addr) (c : Cm) (w : World) (h : Rp b ch s F vw vo q w) (hF : FormsAt w) (hname : c.name = ⟨#[]⟩) (hE : EffAt w) (x : Id) (t : ByteArray) (hchk : chk c = 0) (hv : c.verb = 4) (hst : s.state = 3) (hcur : s.cur = (x, t)) (hid : c.id = x) :
    Calls Tryd.prog 19 #[.pointer (some ⟨b, 0, none⟩), vC c] w (HearP b ch s F w 10 s) := by
  have HX := Lib.hid h
  have HC := Lib.hid (And.intro hcur trivial)
  clear h 
  go_enter Tryd.func19, Tryd.ntmps19
  go_wp2_with (go_at_call 41; refine (check41 c _ (FormsAt.keep hF (below_alloc w (.cells (aC c) 45))) hname).mono ?_; rintro e w1 ⟨rfl, hb⟩; rw [hchk]; obtain ⟨n0, n35, n37, ⟨n2, n2'⟩, m2, ⟨m3, m3'⟩, hb1, rp⟩ := hear_facts HX.out hb; have HY := Lib.hid (And.intro hb1 rp); rw [hv] at n0; rw [hst] at m2; rw [hid] at n2'; rw [hcur] at m3'; have HE := Lib.hid (EffAt.cell hE hb1 (k := 40) rfl); clear hb hb1 rp)
  go_quiet (fail)
  have e9 : w1.cell? ⟨0, 40, none⟩ = some (.int .i64 0) := HE.out
  clear HE
  go_wp2
  go_quiet (fail)
  go_wp2
  go_ret
  exact ⟨rfl, F, ⟨vw, vo, q, HY.out.2.keep (below_drewN _ _)⟩, Kp.of_below (Below.step HY.out.1 (below_drewN _ _))⟩
set_option maxRecDepth 100000 in
set_option maxHeartbeats 3200000 in
theorem hear_3_5 (b : Nat) (ch : Int) (s : St) (F : List Nat) (vw vo : Value) (q : Option Addr) (c : Cm) (w : World) (h : Rp b ch s F vw vo q w) (hF : FormsAt w) (hname : c.name = ⟨#[]⟩) (hE : EffAt w) (x : Id) (t : ByteArray) (hchk : chk c = 0) (hv : c.verb = 5) (hst : s.state = 3) (hcur : s.cur = (x, t)) (hid : c.id = x) (hm : s.outs.length ≤ 100000) :
    Calls Tryd.prog 19 #[.pointer (some ⟨b, 0, none⟩), vC c] w (HearP b ch s F w 0 ⟨s.wait, 0, zA, s.outs ++ [(x, 3, 0)], none⟩) := by
  have HX := Lib.hid h
  have HC := Lib.hid (And.intro hcur trivial)
  clear h 
  go_enter Tryd.func19, Tryd.ntmps19
  go_wp2_with (go_at_call 41; refine (check41 c _ (FormsAt.keep hF (below_alloc w (.cells (aC c) 45))) hname).mono ?_; rintro e w1 ⟨rfl, hb⟩; rw [hchk]; obtain ⟨n0, n35, n37, ⟨n2, n2'⟩, m2, ⟨m3, m3'⟩, hb1, rp⟩ := hear_facts HX.out hb; have HY := Lib.hid (And.intro hb1 rp); rw [hv] at n0; rw [hst] at m2; rw [hid] at n2'; rw [hcur] at m3'; have HE := Lib.hid (EffAt.cell hE hb1 (k := 41) rfl); clear hb hb1 rp)
  go_quiet (fail)
  have e9 : w1.cell? ⟨0, 41, none⟩ = some (.int .i64 5) := HE.out
  clear HE
  go_wp2
  go_quiet (fail)
  go_wp2_with (go_at_call 43; refine (end43 b ch s F x t 3 0 _ ⟨vw, vo, q, HY.out.2.keep (below_drewN _ _)⟩ HC.out.1 hm).mono ?_; rintro e w2 ⟨rfl, hz⟩; have HZ := Lib.hid hz; clear hz)
  go_ret
  obtain ⟨F2, hr, hk⟩ := HZ.out
  exact ⟨rfl, F2, hr, (Kp.of_below (Below.step HY.out.1 (below_drewN _ _))).trans hk⟩
set_option maxRecDepth 100000 in
set_option maxHeartbeats 3200000 in
theorem hear_3_6 (b : Nat) (ch : Int) (s : St) (F : List Nat) (vw vo : Value) (q : Option Addr) (c : Cm) (w : World) (h : Rp b ch s F vw vo q w) (hF : FormsAt w) (hname : c.name = ⟨#[]⟩) (hE : EffAt w) (x : Id) (t : ByteArray) (hchk : chk c = 0) (hv : c.verb = 6) (hst : s.state = 3) (hcur : s.cur = (x, t)) (hid : c.id = x) (hm : s.outs.length ≤ 100000) :
    Calls Tryd.prog 19 #[.pointer (some ⟨b, 0, none⟩), vC c] w (HearP b ch s F w 0 ⟨s.wait, 0, zA, s.outs ++ [(x, 2, c.code)], none⟩) := by
  have HX := Lib.hid h
  have HC := Lib.hid (And.intro hcur trivial)
  clear h 
  go_enter Tryd.func19, Tryd.ntmps19
  go_wp2_with (go_at_call 41; refine (check41 c _ (FormsAt.keep hF (below_alloc w (.cells (aC c) 45))) hname).mono ?_; rintro e w1 ⟨rfl, hb⟩; rw [hchk]; obtain ⟨n0, n35, n37, ⟨n2, n2'⟩, m2, ⟨m3, m3'⟩, hb1, rp⟩ := hear_facts HX.out hb; have HY := Lib.hid (And.intro hb1 rp); rw [hv] at n0; rw [hst] at m2; rw [hid] at n2'; rw [hcur] at m3'; have HE := Lib.hid (EffAt.cell hE hb1 (k := 42) rfl); clear hb hb1 rp)
  go_quiet (fail)
  have e9 : w1.cell? ⟨0, 42, none⟩ = some (.int .i64 4) := HE.out
  clear HE
  go_wp2
  go_quiet (fail)
  go_wp2_with (go_at_call 43; refine (end43 b ch s F x t 2 c.code _ ⟨vw, vo, q, HY.out.2.keep (below_drewN _ _)⟩ HC.out.1 hm).mono ?_; rintro e w2 ⟨rfl, hz⟩; have HZ := Lib.hid hz; clear hz)
  go_ret
  obtain ⟨F2, hr, hk⟩ := HZ.out
  exact ⟨rfl, F2, hr, (Kp.of_below (Below.step HY.out.1 (below_drewN _ _))).trans hk⟩
set_option maxRecDepth 100000 in
set_option maxHeartbeats 3200000 in
theorem hear_3_9 (b : Nat) (ch : Int) (s : St) (F : List Nat) (vw vo : Value) (q : Option Addr) (c : Cm) (w : World) (h : Rp b ch s F vw vo q w) (hF : FormsAt w) (hname : c.name = ⟨#[]⟩) (hE : EffAt w) (x : Id) (t : ByteArray) (hchk : chk c = 0) (hv : c.verb = 9) (hst : s.state = 3) (hcur : s.cur = (x, t)) (hid : c.id = x) (hm : s.outs.length ≤ 100000) :
    Calls Tryd.prog 19 #[.pointer (some ⟨b, 0, none⟩), vC c] w (HearP b ch s F w 0 ⟨s.wait, 0, zA, s.outs ++ [(x, 0, 0)], none⟩) := by
  have HX := Lib.hid h
  have HC := Lib.hid (And.intro hcur trivial)
  clear h 
  go_enter Tryd.func19, Tryd.ntmps19
  go_wp2_with (go_at_call 41; refine (check41 c _ (FormsAt.keep hF (below_alloc w (.cells (aC c) 45))) hname).mono ?_; rintro e w1 ⟨rfl, hb⟩; rw [hchk]; obtain ⟨n0, n35, n37, ⟨n2, n2'⟩, m2, ⟨m3, m3'⟩, hb1, rp⟩ := hear_facts HX.out hb; have HY := Lib.hid (And.intro hb1 rp); rw [hv] at n0; rw [hst] at m2; rw [hid] at n2'; rw [hcur] at m3'; have HE := Lib.hid (EffAt.cell hE hb1 (k := 45) rfl); clear hb hb1 rp)
  go_quiet (fail)
  have e9 : w1.cell? ⟨0, 45, none⟩ = some (.int .i64 2) := HE.out
  clear HE
  go_wp2
  go_quiet (fail)
  go_wp2_with (go_at_call 43; refine (end43 b ch s F x t 0 0 _ ⟨vw, vo, q, HY.out.2.keep (below_drewN _ _)⟩ HC.out.1 hm).mono ?_; rintro e w2 ⟨rfl, hz⟩; have HZ := Lib.hid hz; clear hz)
  go_ret
  obtain ⟨F2, hr, hk⟩ := HZ.out
  exact ⟨rfl, F2, hr, (Kp.of_below (Below.step HY.out.1 (below_drewN _ _))).trans hk⟩
end Go.Proofs.YtlelecnafdddhaaDoor
