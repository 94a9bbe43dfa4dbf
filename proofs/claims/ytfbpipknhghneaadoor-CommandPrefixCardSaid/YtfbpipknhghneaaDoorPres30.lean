/- command: the fields that are present. -/
import Derived.Test.YtfbpipknhghneaaDoorTy30
import Derived.BigQuiet
namespace Go.Proofs.YtfbpipknhghneaaDoor
open Go.RowKit
set_option maxRecDepth 100000 in
set_option maxHeartbeats 400000 in
theorem isZero38 (x : Id) (w : World) : Calls Tryd.prog 38 #[vI x] w fun e w' => e = .returned (.bool (decide (x = zI))) ∧ Below w.heap.size w w' := by
  go_enter Tryd.func38, Tryd.ntmps38
  go_wp2
  go_ret
  exact ⟨rfl, below_alloc _ _⟩
set_option maxRecDepth 100000 in
set_option maxHeartbeats 400000 in
theorem isVerb35 (n : Int) (w : World) (h1 : 1 ≤ n) (h2 : n ≤ 11) : Calls Tryd.prog 35 #[.int .i64 n] w fun e w' => e = .returned (.bool true) ∧ w' = w := by
  go_enter Tryd.func35, Tryd.ntmps35
  go_wp2
  go_ret
  exact ⟨congrArg (fun b => Ending.returned (.bool b)) (by simp), rfl⟩
set_option maxRecDepth 100000 in
set_option maxHeartbeats 400000 in
theorem isVerb35_no (n : Int) (w : World) (h : n < 1 ∨ 11 < n) : Calls Tryd.prog 35 #[.int .i64 n] w fun e w' => e = .returned (.bool false) ∧ w' = w := by
  rcases h with h | h
  · go_enter Tryd.func35, Tryd.ntmps35
    go_wp2
    go_ret
    exact ⟨congrArg (fun b => Ending.returned (.bool b)) (by simp <;> omega), rfl⟩
  · have h1 : 1 ≤ n := by omega
    go_enter Tryd.func35, Tryd.ntmps35
    go_wp2
    go_ret
    exact ⟨congrArg (fun b => Ending.returned (.bool b)) (by simp <;> omega), rfl⟩
def psL (b1 b2 b3 b4 b5 b6 b7 : Bool) : List Pr := [(b1, 1), (b2, 2), (b3, 4), (b4, 8), (b5, 16), (b6, 32), (b7, 64)]
def isSlP (xs : List Pr) : Value → World → Prop := fun v w => ∃ A c, v = .slice A 7 c ∧ 7 ≤ c ∧ Sl w cP A xs
theorem Mono.slP (xs : List Pr) : Mono (isSlP xs) := fun _ _ _ hb ⟨A, c, h1, h2, h3⟩ => ⟨A, c, h1, h2, h3.keep hb⟩
theorem isSlP.mk (u : World) (b1 b2 b3 b4 b5 b6 b7 : Bool) : isSlP (psL b1 b2 b3 b4 b5 b6 b7) (.slice (some ⟨u.heap.size, 0, none⟩) 7 7) (u.alloc (.cells (aPs [(b1, 1), (b2, 2), (b3, 4), (b4, 8), (b5, 16), (b6, 32), (b7, 64)]) 114)) :=
  ⟨_, _, rfl, Nat.le_refl _, fun _ => ⟨_, rfl, at_new u _ 114 _ rfl⟩⟩
/-- The fields that are present. -/
def orL (l : List Pr) : Int := l.foldl (fun n p => if p.1 = true then bits BinOp.or .i64 n p.2 else n) 0
theorem orL_snoc (l : List Pr) (p : Pr) : orL (l ++ [p]) = if p.1 = true then bits BinOp.or .i64 (orL l) p.2 else orL l := by unfold orL; rw [List.foldl_append]; rfl
theorem psL_length (b1 b2 b3 b4 b5 b6 b7 : Bool) : (psL b1 b2 b3 b4 b5 b6 b7).length = 7 := rfl
theorem Sl.pr {w : World} {A : Option Addr} {xs : List Pr} (h : Sl w cP A xs) {k : Nat} (hk : k < xs.length) : ∃ ad, A = some ad ∧ okA w (ad.add (k * 2)) 2 = true ∧ rdA w (ad.add (k * 2)) 2 = vP xs[k] := by
  obtain ⟨ad, rfl, hat⟩ := Sl.at_ cP_length h hk
  have h1 := hat.ok
  have h2 := hat.rd
  rw [cP_length] at h1 h2
  exact ⟨ad, rfl, h1, h2⟩
set_option maxRecDepth 100000 in
set_option maxHeartbeats 3200000 in
theorem present36 (c : Cm) (w : World) (b1 b2 b3 b4 b5 b6 b7 : Bool) (hb : (c.name.toList.isEmpty = !b1) ∧ (decide (c.id = zI) = !b2) ∧ ((c.size != 0) = b3) ∧ ((c.from_ != 0) = b4) ∧ ((c.count != 0) = b5) ∧ ((c.code != 0) = b6) ∧ (c.text.toList.isEmpty = !b7)) :
    Calls Tryd.prog 36 #[vC c] w fun e w' => e = .returned (.int .i64 (orL (psL b1 b2 b3 b4 b5 b6 b7))) ∧ Below w.heap.size w w' := by
  have HB := Lib.hid hb
  clear hb
  have hR := Row.new w (cC c) 27
  have k1 : (w.alloc (.cells (aC c) 27)).cell? ⟨w.heap.size, 1, none⟩ = some (.string c.name) := hR.cell 1
  have k34 : (w.alloc (.cells (aC c) 27)).cell? ⟨w.heap.size, 34, none⟩ = _ := (hR.cell 34).trans (cC_at (aC_34 c))
  have k35 : (w.alloc (.cells (aC c) 27)).cell? ⟨w.heap.size, 35, none⟩ = _ := (hR.cell 35).trans (cC_at (aC_35 c))
  have k36 : (w.alloc (.cells (aC c) 27)).cell? ⟨w.heap.size, 36, none⟩ = _ := (hR.cell 36).trans (cC_at (aC_36 c))
  have k37 : (w.alloc (.cells (aC c) 27)).cell? ⟨w.heap.size, 37, none⟩ = _ := (hR.cell 37).trans (cC_at (aC_37 c))
  have k38 : (w.alloc (.cells (aC c) 27)).cell? ⟨w.heap.size, 38, none⟩ = _ := (hR.cell 38).trans (cC_at (aC_38 c))
  have k2 := okA_Cid w c 27 w.heap.size rfl
  have k2' := rdA_Cid w c 27 w.heap.size rfl
  have hsz : w.heap.size < (w.alloc (.cells (aC c) 27)).heap.size := by simp
  have hB1 := below_alloc w (.cells (aC c) 27)
  clear hR
  go_enter Tryd.func36, Tryd.ntmps36
  go_wp2
  change Code.wp _ _ _ _ (w.alloc (.cells (aC c) 27))
  generalize hW1 : w.alloc (.cells (aC c) 27) = W1 at k1 k34 k35 k36 k37 k38 k2 k2' hsz hB1 ⊢
  refine AnyO.wp_any (by kernel_rfl) (by kernel_rfl) (pstP [isV (.pointer (some ⟨w.heap.size, 1, none⟩)), isV (.string c.name), isV (.bool b1), isV (vP (b1, 1)), isV (.pointer (some ⟨w.heap.size, 2, none⟩)), isV (vI c.id), isV (.bool (!b2)), isV (.bool b2), isV (vP (b2, 2)), isV (.pointer (some ⟨w.heap.size, 34, none⟩)), isV (.int .i64 c.size), isV (.bool b3), isV (vP (b3, 4)), isV (.pointer (some ⟨w.heap.size, 35, none⟩)), isV (.int .i64 c.from_), isV (.bool b4), isV (vP (b4, 8)), isV (.pointer (some ⟨w.heap.size, 36, none⟩)), isV (.int .i64 c.count), isV (.bool b5), isV (vP (b5, 16)), isV (.pointer (some ⟨w.heap.size, 37, none⟩)), isV (.int .i64 c.code), isV (.bool b6), isV (vP (b6, 32)), isV (.pointer (some ⟨w.heap.size, 38, none⟩)), isV (.string c.text), isV (.bool b7), isV (vP (b7, 64)), isSlP (psL b1 b2 b3 b4 b5 b6 b7), isV (.int .i64 7), isV (Value.int IntKind.i64 0)]) (MonoL.cons (Mono.v _) (MonoL.cons (Mono.v _) (MonoL.cons (Mono.v _) (MonoL.cons (Mono.v _) (MonoL.cons (Mono.v _) (MonoL.cons (Mono.v _) (MonoL.cons (Mono.v _) (MonoL.cons (Mono.v _) (MonoL.cons (Mono.v _) (MonoL.cons (Mono.v _) (MonoL.cons (Mono.v _) (MonoL.cons (Mono.v _) (MonoL.cons (Mono.v _) (MonoL.cons (Mono.v _) (MonoL.cons (Mono.v _) (MonoL.cons (Mono.v _) (MonoL.cons (Mono.v _) (MonoL.cons (Mono.v _) (MonoL.cons (Mono.v _) (MonoL.cons (Mono.v _) (MonoL.cons (Mono.v _) (MonoL.cons (Mono.v _) (MonoL.cons (Mono.v _) (MonoL.cons (Mono.v _) (MonoL.cons (Mono.v _) (MonoL.cons (Mono.v _) (MonoL.cons (Mono.v _) (MonoL.cons (Mono.v _) (MonoL.cons (Mono.v _) (MonoL.cons (Mono.slP _) (MonoL.cons (Mono.v _) (MonoL.cons (Mono.v _) MonoL.nil)))))))))))))))))))))))))))))))) ?_ ?_
  · intro i hi
    have hi2 : i = 0 ∨ i = 1 ∨ i = 2 ∨ i = 3 ∨ i = 4 ∨ i = 5 ∨ i = 6 ∨ i = 7 ∨ i = 8 ∨ i = 9 ∨ i = 10 ∨ i = 11 ∨ i = 12 ∨ i = 13 ∨ i = 14 ∨ i = 15 ∨ i = 16 ∨ i = 17 ∨ i = 18 ∨ i = 19 ∨ i = 20 ∨ i = 21 ∨ i = 22 ∨ i = 23 ∨ i = 24 ∨ i = 25 ∨ i = 26 ∨ i = 27 ∨ i = 28 ∨ i = 29 ∨ i = 30 ∨ i = 31 := by simp only [List.size_toArray, List.length_cons, List.length_nil] at hi; omega
    clear hi
    rcases hi2 with rfl | rfl | rfl | rfl | rfl | rfl | rfl | rfl | rfl | rfl | rfl | rfl | rfl | rfl | rfl | rfl | rfl | rfl | rfl | rfl | rfl | rfl | rfl | rfl | rfl | rfl | rfl | rfl | rfl | rfl | rfl | rfl
    · -- 0: Op.fieldAddr 27 (Operand.tmp 1) 1
      refine AnyO.Step.mk rfl [] (by kernel_rfl) ?_
      intro vs u hE hp ac hb K hK
      have s1 : ac.tmps[1]?.getD undef = .pointer (some ⟨w.heap.size, 0, none⟩) := by rw [hb]; kernel_rfl
      rw [if_pos (AnyO.wanted_none rfl)]
      clear hb hp
      go_simp
      exact hK _ _ (Below.refl _ _) rfl
    · -- 1: Op.load 9 (Operand.tmp 6)
      refine AnyO.Step.mk rfl [0] (by kernel_rfl) ?_
      intro vs u hE hp ac hb K hK
      have s6 : ac.tmps[6]?.getD undef = .pointer (some ⟨w.heap.size, 1, none⟩) := by rw [hb]; exact (show _ = vs 0 by kernel_rfl).trans (hp 0 (by decide))
      rw [if_pos (AnyO.wanted_none rfl)]
      clear hb hp
      have rr := cell_below k1 (Below.step (below_drew _) hE)
      go_simp
      exact hK _ _ (Below.refl _ _) rfl
    · -- 2: Op.binOp BinOp.neq 9 (Operand.tmp 7) (Operand.const (Value.s
      refine AnyO.Step.mk rfl [1] (by kernel_rfl) ?_
      intro vs u hE hp ac hb K hK
      have s7 : ac.tmps[7]?.getD undef = .string c.name := by rw [hb]; exact (show _ = vs 1 by kernel_rfl).trans (hp 1 (by decide))
      rw [if_pos (AnyO.wanted_none rfl)]
      clear hb hp
      have rr := HB.out.1
      go_simp
      exact hK _ _ (Below.refl _ _) rfl
    · -- 3: Op.build 114 #[(0, Operand.tmp 8), (1, Operand.const (Value.
      refine AnyO.Step.mk rfl [2] (by kernel_rfl) ?_
      intro vs u hE hp ac hb K hK
      have s8 : ac.tmps[8]?.getD undef = .bool b1 := by rw [hb]; exact (show _ = vs 2 by kernel_rfl).trans (hp 2 (by decide))
      rw [if_pos (AnyO.wanted_none rfl)]
      clear hb hp
      go_simp
      exact hK _ _ (Below.refl _ _) rfl
    · -- 4: Op.fieldAddr 27 (Operand.tmp 1) 2
      refine AnyO.Step.mk rfl [] (by kernel_rfl) ?_
      intro vs u hE hp ac hb K hK
      have s1 : ac.tmps[1]?.getD undef = .pointer (some ⟨w.heap.size, 0, none⟩) := by rw [hb]; kernel_rfl
      rw [if_pos (AnyO.wanted_none rfl)]
      clear hb hp
      go_simp
      exact hK _ _ (Below.refl _ _) rfl
    · -- 5: Op.load 24 (Operand.tmp 10)
      refine AnyO.Step.mk rfl [4] (by kernel_rfl) ?_
      intro vs u hE hp ac hb K hK
      have s10 : ac.tmps[10]?.getD undef = .pointer (some ⟨w.heap.size, 2, none⟩) := by rw [hb]; exact (show _ = vs 4 by kernel_rfl).trans (hp 4 (by decide))
      rw [if_pos (AnyO.wanted_none rfl)]
      clear hb hp
      have rr := okA_below k2 hsz (Below.step (below_drew _) hE)
      rw [k2'] at rr
      obtain ⟨rr1, rr2⟩ := rr
      go_simp
      exact hK _ _ (Below.refl _ _) rfl
    · -- 6: Op.call { callee := Callee.value (Operand.func 38), args := 
      refine AnyO.Step.mk rfl [5] (by kernel_rfl) ?_
      intro vs u hE hp ac hb K hK
      have s11 : ac.tmps[11]?.getD undef = vI c.id := by rw [hb]; exact (show _ = vs 5 by kernel_rfl).trans (hp 5 (by decide))
      rw [if_pos (AnyO.wanted_none rfl)]
      clear hb hp
      go_simp
      go_at_call 38
      refine (isZero38 c.id u).mono ?_
      rintro e w2 ⟨rfl, hb2⟩
      rw [HB.out.2.1]
      exact hK _ _ hb2 rfl
    · -- 7: Op.unOp UnOp.not 4 (Operand.tmp 12)
      refine AnyO.Step.mk rfl [6] (by kernel_rfl) ?_
      intro vs u hE hp ac hb K hK
      have s12 : ac.tmps[12]?.getD undef = .bool (!b2) := by rw [hb]; exact (show _ = vs 6 by kernel_rfl).trans (hp 6 (by decide))
      rw [if_pos (AnyO.wanted_none rfl)]
      clear hb hp
      go_simp
      exact hK _ _ (Below.refl _ _) rfl
    · -- 8: Op.build 114 #[(0, Operand.tmp 13), (1, Operand.const (Value
      refine AnyO.Step.mk rfl [7] (by kernel_rfl) ?_
      intro vs u hE hp ac hb K hK
      have s13 : ac.tmps[13]?.getD undef = .bool b2 := by rw [hb]; exact (show _ = vs 7 by kernel_rfl).trans (hp 7 (by decide))
      rw [if_pos (AnyO.wanted_none rfl)]
      clear hb hp
      go_simp
      exact hK _ _ (Below.refl _ _) rfl
    · -- 9: Op.fieldAddr 27 (Operand.tmp 1) 3
      refine AnyO.Step.mk rfl [] (by kernel_rfl) ?_
      intro vs u hE hp ac hb K hK
      have s1 : ac.tmps[1]?.getD undef = .pointer (some ⟨w.heap.size, 0, none⟩) := by rw [hb]; kernel_rfl
      rw [if_pos (AnyO.wanted_none rfl)]
      clear hb hp
      go_simp
      exact hK _ _ (Below.refl _ _) rfl
    · -- 10: Op.load 3 (Operand.tmp 15)
      refine AnyO.Step.mk rfl [9] (by kernel_rfl) ?_
      intro vs u hE hp ac hb K hK
      have s15 : ac.tmps[15]?.getD undef = .pointer (some ⟨w.heap.size, 34, none⟩) := by rw [hb]; exact (show _ = vs 9 by kernel_rfl).trans (hp 9 (by decide))
      rw [if_pos (AnyO.wanted_none rfl)]
      clear hb hp
      have rr := cell_below k34 (Below.step (below_drew _) hE)
      go_simp
      exact hK _ _ (Below.refl _ _) rfl
    · -- 11: Op.binOp BinOp.neq 3 (Operand.tmp 16) (Operand.const (Value.
      refine AnyO.Step.mk rfl [10] (by kernel_rfl) ?_
      intro vs u hE hp ac hb K hK
      have s16 : ac.tmps[16]?.getD undef = .int .i64 c.size := by rw [hb]; exact (show _ = vs 10 by kernel_rfl).trans (hp 10 (by decide))
      rw [if_pos (AnyO.wanted_none rfl)]
      clear hb hp
      have rr := HB.out.2.2.1
      go_simp
      exact hK _ _ (Below.refl _ _) rfl
    · -- 12: Op.build 114 #[(0, Operand.tmp 17), (1, Operand.const (Value
      refine AnyO.Step.mk rfl [11] (by kernel_rfl) ?_
      intro vs u hE hp ac hb K hK
      have s17 : ac.tmps[17]?.getD undef = .bool b3 := by rw [hb]; exact (show _ = vs 11 by kernel_rfl).trans (hp 11 (by decide))
      rw [if_pos (AnyO.wanted_none rfl)]
      clear hb hp
      go_simp
      exact hK _ _ (Below.refl _ _) rfl
    · -- 13: Op.fieldAddr 27 (Operand.tmp 1) 4
      refine AnyO.Step.mk rfl [] (by kernel_rfl) ?_
      intro vs u hE hp ac hb K hK
      have s1 : ac.tmps[1]?.getD undef = .pointer (some ⟨w.heap.size, 0, none⟩) := by rw [hb]; kernel_rfl
      rw [if_pos (AnyO.wanted_none rfl)]
      clear hb hp
      go_simp
      exact hK _ _ (Below.refl _ _) rfl
    · -- 14: Op.load 3 (Operand.tmp 19)
      refine AnyO.Step.mk rfl [13] (by kernel_rfl) ?_
      intro vs u hE hp ac hb K hK
      have s19 : ac.tmps[19]?.getD undef = .pointer (some ⟨w.heap.size, 35, none⟩) := by rw [hb]; exact (show _ = vs 13 by kernel_rfl).trans (hp 13 (by decide))
      rw [if_pos (AnyO.wanted_none rfl)]
      clear hb hp
      have rr := cell_below k35 (Below.step (below_drew _) hE)
      go_simp
      exact hK _ _ (Below.refl _ _) rfl
    · -- 15: Op.binOp BinOp.neq 3 (Operand.tmp 20) (Operand.const (Value.
      refine AnyO.Step.mk rfl [14] (by kernel_rfl) ?_
      intro vs u hE hp ac hb K hK
      have s20 : ac.tmps[20]?.getD undef = .int .i64 c.from_ := by rw [hb]; exact (show _ = vs 14 by kernel_rfl).trans (hp 14 (by decide))
      rw [if_pos (AnyO.wanted_none rfl)]
      clear hb hp
      have rr := HB.out.2.2.2.1
      go_simp
      exact hK _ _ (Below.refl _ _) rfl
    · -- 16: Op.build 114 #[(0, Operand.tmp 21), (1, Operand.const (Value
      refine AnyO.Step.mk rfl [15] (by kernel_rfl) ?_
      intro vs u hE hp ac hb K hK
      have s21 : ac.tmps[21]?.getD undef = .bool b4 := by rw [hb]; exact (show _ = vs 15 by kernel_rfl).trans (hp 15 (by decide))
      rw [if_pos (AnyO.wanted_none rfl)]
      clear hb hp
      go_simp
      exact hK _ _ (Below.refl _ _) rfl
    · -- 17: Op.fieldAddr 27 (Operand.tmp 1) 5
      refine AnyO.Step.mk rfl [] (by kernel_rfl) ?_
      intro vs u hE hp ac hb K hK
      have s1 : ac.tmps[1]?.getD undef = .pointer (some ⟨w.heap.size, 0, none⟩) := by rw [hb]; kernel_rfl
      rw [if_pos (AnyO.wanted_none rfl)]
      clear hb hp
      go_simp
      exact hK _ _ (Below.refl _ _) rfl
    · -- 18: Op.load 3 (Operand.tmp 23)
      refine AnyO.Step.mk rfl [17] (by kernel_rfl) ?_
      intro vs u hE hp ac hb K hK
      have s23 : ac.tmps[23]?.getD undef = .pointer (some ⟨w.heap.size, 36, none⟩) := by rw [hb]; exact (show _ = vs 17 by kernel_rfl).trans (hp 17 (by decide))
      rw [if_pos (AnyO.wanted_none rfl)]
      clear hb hp
      have rr := cell_below k36 (Below.step (below_drew _) hE)
      go_simp
      exact hK _ _ (Below.refl _ _) rfl
    · -- 19: Op.binOp BinOp.neq 3 (Operand.tmp 24) (Operand.const (Value.
      refine AnyO.Step.mk rfl [18] (by kernel_rfl) ?_
      intro vs u hE hp ac hb K hK
      have s24 : ac.tmps[24]?.getD undef = .int .i64 c.count := by rw [hb]; exact (show _ = vs 18 by kernel_rfl).trans (hp 18 (by decide))
      rw [if_pos (AnyO.wanted_none rfl)]
      clear hb hp
      have rr := HB.out.2.2.2.2.1
      go_simp
      exact hK _ _ (Below.refl _ _) rfl
    · -- 20: Op.build 114 #[(0, Operand.tmp 25), (1, Operand.const (Value
      refine AnyO.Step.mk rfl [19] (by kernel_rfl) ?_
      intro vs u hE hp ac hb K hK
      have s25 : ac.tmps[25]?.getD undef = .bool b5 := by rw [hb]; exact (show _ = vs 19 by kernel_rfl).trans (hp 19 (by decide))
      rw [if_pos (AnyO.wanted_none rfl)]
      clear hb hp
      go_simp
      exact hK _ _ (Below.refl _ _) rfl
    · -- 21: Op.fieldAddr 27 (Operand.tmp 1) 6
      refine AnyO.Step.mk rfl [] (by kernel_rfl) ?_
      intro vs u hE hp ac hb K hK
      have s1 : ac.tmps[1]?.getD undef = .pointer (some ⟨w.heap.size, 0, none⟩) := by rw [hb]; kernel_rfl
      rw [if_pos (AnyO.wanted_none rfl)]
      clear hb hp
      go_simp
      exact hK _ _ (Below.refl _ _) rfl
    · -- 22: Op.load 25 (Operand.tmp 27)
      refine AnyO.Step.mk rfl [21] (by kernel_rfl) ?_
      intro vs u hE hp ac hb K hK
      have s27 : ac.tmps[27]?.getD undef = .pointer (some ⟨w.heap.size, 37, none⟩) := by rw [hb]; exact (show _ = vs 21 by kernel_rfl).trans (hp 21 (by decide))
      rw [if_pos (AnyO.wanted_none rfl)]
      clear hb hp
      have rr := cell_below k37 (Below.step (below_drew _) hE)
      go_simp
      exact hK _ _ (Below.refl _ _) rfl
    · -- 23: Op.binOp BinOp.neq 25 (Operand.tmp 28) (Operand.const (Value
      refine AnyO.Step.mk rfl [22] (by kernel_rfl) ?_
      intro vs u hE hp ac hb K hK
      have s28 : ac.tmps[28]?.getD undef = .int .i64 c.code := by rw [hb]; exact (show _ = vs 22 by kernel_rfl).trans (hp 22 (by decide))
      rw [if_pos (AnyO.wanted_none rfl)]
      clear hb hp
      have rr := HB.out.2.2.2.2.2.1
      go_simp
      exact hK _ _ (Below.refl _ _) rfl
    · -- 24: Op.build 114 #[(0, Operand.tmp 29), (1, Operand.const (Value
      refine AnyO.Step.mk rfl [23] (by kernel_rfl) ?_
      intro vs u hE hp ac hb K hK
      have s29 : ac.tmps[29]?.getD undef = .bool b6 := by rw [hb]; exact (show _ = vs 23 by kernel_rfl).trans (hp 23 (by decide))
      rw [if_pos (AnyO.wanted_none rfl)]
      clear hb hp
      go_simp
      exact hK _ _ (Below.refl _ _) rfl
    · -- 25: Op.fieldAddr 27 (Operand.tmp 1) 7
      refine AnyO.Step.mk rfl [] (by kernel_rfl) ?_
      intro vs u hE hp ac hb K hK
      have s1 : ac.tmps[1]?.getD undef = .pointer (some ⟨w.heap.size, 0, none⟩) := by rw [hb]; kernel_rfl
      rw [if_pos (AnyO.wanted_none rfl)]
      clear hb hp
      go_simp
      exact hK _ _ (Below.refl _ _) rfl
    · -- 26: Op.load 9 (Operand.tmp 31)
      refine AnyO.Step.mk rfl [25] (by kernel_rfl) ?_
      intro vs u hE hp ac hb K hK
      have s31 : ac.tmps[31]?.getD undef = .pointer (some ⟨w.heap.size, 38, none⟩) := by rw [hb]; exact (show _ = vs 25 by kernel_rfl).trans (hp 25 (by decide))
      rw [if_pos (AnyO.wanted_none rfl)]
      clear hb hp
      have rr := cell_below k38 (Below.step (below_drew _) hE)
      go_simp
      exact hK _ _ (Below.refl _ _) rfl
    · -- 27: Op.binOp BinOp.neq 9 (Operand.tmp 32) (Operand.const (Value.
      refine AnyO.Step.mk rfl [26] (by kernel_rfl) ?_
      intro vs u hE hp ac hb K hK
      have s32 : ac.tmps[32]?.getD undef = .string c.text := by rw [hb]; exact (show _ = vs 26 by kernel_rfl).trans (hp 26 (by decide))
      rw [if_pos (AnyO.wanted_none rfl)]
      clear hb hp
      have rr := HB.out.2.2.2.2.2.2
      go_simp
      exact hK _ _ (Below.refl _ _) rfl
    · -- 28: Op.build 114 #[(0, Operand.tmp 33), (1, Operand.const (Value
      refine AnyO.Step.mk rfl [27] (by kernel_rfl) ?_
      intro vs u hE hp ac hb K hK
      have s33 : ac.tmps[33]?.getD undef = .bool b7 := by rw [hb]; exact (show _ = vs 27 by kernel_rfl).trans (hp 27 (by decide))
      rw [if_pos (AnyO.wanted_none rfl)]
      clear hb hp
      go_simp
      exact hK _ _ (Below.refl _ _) rfl
    · -- 29: Op.buildSlice 115 7 #[(0, Operand.tmp 9), (1, Operand.tmp 14
      refine AnyO.Step.mk rfl [3, 8, 12, 16, 20, 24, 28] (by kernel_rfl) ?_
      intro vs u hE hp ac hb K hK
      have s9 : ac.tmps[9]?.getD undef = vP (b1, 1) := by rw [hb]; exact (show _ = vs 3 by kernel_rfl).trans (hp 3 (by decide))
      have s14 : ac.tmps[14]?.getD undef = vP (b2, 2) := by rw [hb]; exact (show _ = vs 8 by kernel_rfl).trans (hp 8 (by decide))
      have s18 : ac.tmps[18]?.getD undef = vP (b3, 4) := by rw [hb]; exact (show _ = vs 12 by kernel_rfl).trans (hp 12 (by decide))
      have s22 : ac.tmps[22]?.getD undef = vP (b4, 8) := by rw [hb]; exact (show _ = vs 16 by kernel_rfl).trans (hp 16 (by decide))
      have s26 : ac.tmps[26]?.getD undef = vP (b5, 16) := by rw [hb]; exact (show _ = vs 20 by kernel_rfl).trans (hp 20 (by decide))
      have s30 : ac.tmps[30]?.getD undef = vP (b6, 32) := by rw [hb]; exact (show _ = vs 24 by kernel_rfl).trans (hp 24 (by decide))
      have s34 : ac.tmps[34]?.getD undef = vP (b7, 64) := by rw [hb]; exact (show _ = vs 28 by kernel_rfl).trans (hp 28 (by decide))
      rw [if_pos (AnyO.wanted_none rfl)]
      clear hb hp
      go_simp
      exact hK _ _ (below_alloc _ _) (isSlP.mk u _ _ _ _ _ _ _)
    · -- 30: Op.call { callee := Callee.builtin Builtin.len, args := #[Op
      refine AnyO.Step.mk rfl [29] (by kernel_rfl) ?_
      intro vs u hE hp ac hb K hK
      obtain ⟨A35, c35, e35, h35⟩ := hp 29 (by decide)
      have s35 : ac.tmps[35]?.getD undef = .slice A35 7 c35 := by rw [hb]; exact (show _ = vs 29 by kernel_rfl).trans e35
      clear e35
      rw [if_pos (AnyO.wanted_none rfl)]
      clear hb hp
      go_simp
      exact hK _ _ (Below.refl _ _) rfl
    · -- 31: Op.move (Operand.const (Value.int IntKind.i64 0))
      refine AnyO.Step.mk rfl [] (by kernel_rfl) ?_
      intro vs u hE hp ac hb K hK
      rw [if_pos (AnyO.wanted_none rfl)]
      clear hb hp
      go_simp
      exact hK _ _ (Below.refl _ _) rfl
  · intro vs u hE hp
    have e0 : vs 0 = .pointer (some ⟨w.heap.size, 1, none⟩) := hp 0 (by decide)
    have e1 : vs 1 = .string c.name := hp 1 (by decide)
    have e2 : vs 2 = .bool b1 := hp 2 (by decide)
    have e3 : vs 3 = vP (b1, 1) := hp 3 (by decide)
    have e4 : vs 4 = .pointer (some ⟨w.heap.size, 2, none⟩) := hp 4 (by decide)
    have e5 : vs 5 = vI c.id := hp 5 (by decide)
    have e6 : vs 6 = .bool (!b2) := hp 6 (by decide)
    have e7 : vs 7 = .bool b2 := hp 7 (by decide)
    have e8 : vs 8 = vP (b2, 2) := hp 8 (by decide)
    have e9 : vs 9 = .pointer (some ⟨w.heap.size, 34, none⟩) := hp 9 (by decide)
    have e10 : vs 10 = .int .i64 c.size := hp 10 (by decide)
    have e11 : vs 11 = .bool b3 := hp 11 (by decide)
    have e12 : vs 12 = vP (b3, 4) := hp 12 (by decide)
    have e13 : vs 13 = .pointer (some ⟨w.heap.size, 35, none⟩) := hp 13 (by decide)
    have e14 : vs 14 = .int .i64 c.from_ := hp 14 (by decide)
    have e15 : vs 15 = .bool b4 := hp 15 (by decide)
    have e16 : vs 16 = vP (b4, 8) := hp 16 (by decide)
    have e17 : vs 17 = .pointer (some ⟨w.heap.size, 36, none⟩) := hp 17 (by decide)
    have e18 : vs 18 = .int .i64 c.count := hp 18 (by decide)
    have e19 : vs 19 = .bool b5 := hp 19 (by decide)
    have e20 : vs 20 = vP (b5, 16) := hp 20 (by decide)
    have e21 : vs 21 = .pointer (some ⟨w.heap.size, 37, none⟩) := hp 21 (by decide)
    have e22 : vs 22 = .int .i64 c.code := hp 22 (by decide)
    have e23 : vs 23 = .bool b6 := hp 23 (by decide)
    have e24 : vs 24 = vP (b6, 32) := hp 24 (by decide)
    have e25 : vs 25 = .pointer (some ⟨w.heap.size, 38, none⟩) := hp 25 (by decide)
    have e26 : vs 26 = .string c.text := hp 26 (by decide)
    have e27 : vs 27 = .bool b7 := hp 27 (by decide)
    have e28 : vs 28 = vP (b7, 64) := hp 28 (by decide)
    obtain ⟨A_29, c_29, e29, h_29⟩ := show isSlP (psL b1 b2 b3 b4 b5 b6 b7) (vs 29) u from hp 29 (by decide)
    have e30 : vs 30 = .int .i64 7 := hp 30 (by decide)
    have e31 : vs 31 = Value.int IntKind.i64 0 := hp 31 (by decide)
    clear hp
    have HE := Lib.hid (And.intro hE h_29)
    clear hE h_29
    rw [puts_range [some 6, some 7, some 8, some 9, some 10, some 11, some 12, some 13, some 14, some 15, some 16, some 17, some 18, some 19, some 20, some 21, some 22, some 23, some 24, some 25, some 26, some 27, some 28, some 29, some 30, some 31, some 32, some 33, some 34, some 35, some 36, some 37] (by kernel_rfl)]
    simp only [putL, Nat.reduceAdd, e0, e1, e2, e3, e4, e5, e6, e7, e8, e9, e10, e11, e12, e13, e14, e15, e16, e17, e18, e19, e20, e21, e22, e23, e24, e25, e26, e27, e28, e29, e30, e31]
    clear e0 e1 e2 e3 e4 e5 e6 e7 e8 e9 e10 e11 e12 e13 e14 e15 e16 e17 e18 e19 e20 e21 e22 e23 e24 e25 e26 e27 e28 e29 e30 e31
    go_simp
    generalize hxs : psL b1 b2 b3 b4 b5 b6 b7 = xs at HE ⊢
    have hl7 : xs.length = 7 := by rw [← hxs]; rfl
    have HL := Lib.hid hxs
    clear hxs
    go_wp2
    go_loopw [3, 37] (fun v i wr => ∃ k : Nat, k ≤ 7 ∧ i = .int .i64 k ∧ v = .int .i64 (orL (xs.take k)) ∧ Below u.heap.size u wr) (fun _ i _ => 7 - (intOf i).toNat)
    case atStart => exact ⟨0, by omega, rfl, rfl, Below.refl _ _⟩
    case round =>
      obtain ⟨k, hk, rfl, rfl, hb⟩ := hrel
      have HB2 := Lib.hid hb
      by_cases hlt : k < 7
      · obtain ⟨ad, rfl, hok, hrd⟩ := Sl.pr (HE.out.2.2.keep hb) (show k < xs.length by omega)
        have HT := Lib.hid (show orL (xs.take (k + 1)) = _ by rw [List.take_succ_eq_append_getElem (show k < xs.length by omega), orL_snoc])
        have hlk : (k : Int) < 7 := by omega
        generalize xs[k] = p at hok hrd HT
        obtain ⟨b, n⟩ := p
        clear hb
        cases b with
        | true =>
          go_wp2
          go_roundw
          case rel => exact ⟨k + 1, hlt, by go_num, by rw [HT.out]; rfl, Below.step HB2.out (below_alloc _ _)⟩
          case measure => simp [intOf] <;> omega
        | false =>
          go_wp2
          go_roundw
          case rel => exact ⟨k + 1, hlt, by go_num, by rw [HT.out]; rfl, Below.step HB2.out (below_alloc _ _)⟩
          case measure => simp [intOf] <;> omega
      · have hk7 : k = 7 := by omega
        subst hk7
        go_wp2
        go_ret
        exact ⟨by rw [List.take_of_length_le (by omega), HL.out]; rfl, Below.step hB1 (Below.step HE.out.1 HB2.out)⟩
end Go.Proofs.YtfbpipknhghneaaDoor
