/- Words rotated by the program and by Go's library. The initial state, a round, the sum of two states. A round of SHA-256. The words of a schedule in a ring of sixteen: plain. -/
import Derived.Test.YtecalodcbkljoaaGreatDoorMCore
import Derived.Test.YtecalodcbkljoaaGreatDoorMSha
import Derived.Test.YtecalodcbkljoaaGreatDoorMTy
import Derived.Test.YtecalodcbkljoaaGreatDoorMCell
import Derived.BigQuiet
namespace Go.Proofs.YtecalodcbkljoaaGreatDoor
open Go.RowKit
theorem m_shl (a : Wd) (n : Nat) : iW a * ((2 ^ n : Nat) : Int) % 4294967296 = iW (a <<< n) := by
  rw [← w_shl]
  simp only [IntKind.wrap, IntKind.bits, IntKind.signed]
  simp
theorem m_add (a b : Wd) : (iW a + iW b) % 4294967296 = iW (a + b) := by
  rw [← w_add]
  simp only [IntKind.wrap, IntKind.bits, IntKind.signed]
  simp
theorem rr_rot (x : Wd) (n : Nat) (k : Nat) (h : k + n = 32) : (x <<< k) ||| (x >>> n) = rr x n := by
  unfold rr
  rw [show 32 - n = k by omega, BitVec.or_comm]
theorem rot_eq (x : Wd) (n k : Nat) (p q : Int) (h : k + n = 32) (hp : ((2 ^ k : Nat) : Int) = p) (hq : ((2 ^ n : Nat) : Int) = q) : bits BinOp.or IntKind.u32 (iW x * p % 4294967296) (iW x / q) = iW (rr x n) := by
  rw [← hp, ← hq, m_shl, w_shr, w_or, rr_rot x n k h]
theorem ret_w {a : Int} {b : Wd} (h : a = iW b) : Ending.returned (.int .u32 a) = .returned (vW b) := by rw [h]
section
variable (x : Wd) (w : World)
set_option maxHeartbeats 800000 in
theorem rotl2 : Calls Tryz.prog 125 #[vW x, .int .i64 (-2)] w fun e w' => e = .returned (vW (rr x 2)) ∧ w = w' := by
  have hA : bits BinOp.and IntKind.u64 (IntKind.u64.wrap (-2)) 31 = 30 := by decide
  go_enter Tryz.func125, Tryz.ntmps125
  go_wp2
  go_ret
  exact ⟨ret_w (rot_eq x 2 30 1073741824 4 rfl rfl rfl), rfl⟩
theorem rot2 : Calls Tryz.prog 116 #[vW x, .int .i64 2] w fun e w' => e = .returned (vW (rr x 2)) ∧ w = w' := by
  go_enter Tryz.func116, Tryz.ntmps116
  go_wp2_with (go_at_call 125; refine (rotl2 x _).mono ?_; rintro e w' ⟨rfl, rfl⟩)
  go_ret
  exact ⟨rfl, rfl⟩
set_option maxHeartbeats 800000 in
theorem rotl13 : Calls Tryz.prog 125 #[vW x, .int .i64 (-13)] w fun e w' => e = .returned (vW (rr x 13)) ∧ w = w' := by
  have hA : bits BinOp.and IntKind.u64 (IntKind.u64.wrap (-13)) 31 = 19 := by decide
  go_enter Tryz.func125, Tryz.ntmps125
  go_wp2
  go_ret
  exact ⟨ret_w (rot_eq x 13 19 524288 8192 rfl rfl rfl), rfl⟩
theorem rot13 : Calls Tryz.prog 116 #[vW x, .int .i64 13] w fun e w' => e = .returned (vW (rr x 13)) ∧ w = w' := by
  go_enter Tryz.func116, Tryz.ntmps116
  go_wp2_with (go_at_call 125; refine (rotl13 x _).mono ?_; rintro e w' ⟨rfl, rfl⟩)
  go_ret
  exact ⟨rfl, rfl⟩
set_option maxHeartbeats 800000 in
theorem rotl22 : Calls Tryz.prog 125 #[vW x, .int .i64 (-22)] w fun e w' => e = .returned (vW (rr x 22)) ∧ w = w' := by
  have hA : bits BinOp.and IntKind.u64 (IntKind.u64.wrap (-22)) 31 = 10 := by decide
  go_enter Tryz.func125, Tryz.ntmps125
  go_wp2
  go_ret
  exact ⟨ret_w (rot_eq x 22 10 1024 4194304 rfl rfl rfl), rfl⟩
theorem rot22 : Calls Tryz.prog 116 #[vW x, .int .i64 22] w fun e w' => e = .returned (vW (rr x 22)) ∧ w = w' := by
  go_enter Tryz.func116, Tryz.ntmps116
  go_wp2_with (go_at_call 125; refine (rotl22 x _).mono ?_; rintro e w' ⟨rfl, rfl⟩)
  go_ret
  exact ⟨rfl, rfl⟩
set_option maxHeartbeats 800000 in
theorem rotl6 : Calls Tryz.prog 125 #[vW x, .int .i64 (-6)] w fun e w' => e = .returned (vW (rr x 6)) ∧ w = w' := by
  have hA : bits BinOp.and IntKind.u64 (IntKind.u64.wrap (-6)) 31 = 26 := by decide
  go_enter Tryz.func125, Tryz.ntmps125
  go_wp2
  go_ret
  exact ⟨ret_w (rot_eq x 6 26 67108864 64 rfl rfl rfl), rfl⟩
theorem rot6 : Calls Tryz.prog 116 #[vW x, .int .i64 6] w fun e w' => e = .returned (vW (rr x 6)) ∧ w = w' := by
  go_enter Tryz.func116, Tryz.ntmps116
  go_wp2_with (go_at_call 125; refine (rotl6 x _).mono ?_; rintro e w' ⟨rfl, rfl⟩)
  go_ret
  exact ⟨rfl, rfl⟩
set_option maxHeartbeats 800000 in
theorem rotl11 : Calls Tryz.prog 125 #[vW x, .int .i64 (-11)] w fun e w' => e = .returned (vW (rr x 11)) ∧ w = w' := by
  have hA : bits BinOp.and IntKind.u64 (IntKind.u64.wrap (-11)) 31 = 21 := by decide
  go_enter Tryz.func125, Tryz.ntmps125
  go_wp2
  go_ret
  exact ⟨ret_w (rot_eq x 11 21 2097152 2048 rfl rfl rfl), rfl⟩
theorem rot11 : Calls Tryz.prog 116 #[vW x, .int .i64 11] w fun e w' => e = .returned (vW (rr x 11)) ∧ w = w' := by
  go_enter Tryz.func116, Tryz.ntmps116
  go_wp2_with (go_at_call 125; refine (rotl11 x _).mono ?_; rintro e w' ⟨rfl, rfl⟩)
  go_ret
  exact ⟨rfl, rfl⟩
set_option maxHeartbeats 800000 in
theorem rotl25 : Calls Tryz.prog 125 #[vW x, .int .i64 (-25)] w fun e w' => e = .returned (vW (rr x 25)) ∧ w = w' := by
  have hA : bits BinOp.and IntKind.u64 (IntKind.u64.wrap (-25)) 31 = 7 := by decide
  go_enter Tryz.func125, Tryz.ntmps125
  go_wp2
  go_ret
  exact ⟨ret_w (rot_eq x 25 7 128 33554432 rfl rfl rfl), rfl⟩
theorem rot25 : Calls Tryz.prog 116 #[vW x, .int .i64 25] w fun e w' => e = .returned (vW (rr x 25)) ∧ w = w' := by
  go_enter Tryz.func116, Tryz.ntmps116
  go_wp2_with (go_at_call 125; refine (rotl25 x _).mono ?_; rintro e w' ⟨rfl, rfl⟩)
  go_ret
  exact ⟨rfl, rfl⟩
set_option maxHeartbeats 800000 in
theorem rotl7 : Calls Tryz.prog 125 #[vW x, .int .i64 (-7)] w fun e w' => e = .returned (vW (rr x 7)) ∧ w = w' := by
  have hA : bits BinOp.and IntKind.u64 (IntKind.u64.wrap (-7)) 31 = 25 := by decide
  go_enter Tryz.func125, Tryz.ntmps125
  go_wp2
  go_ret
  exact ⟨ret_w (rot_eq x 7 25 33554432 128 rfl rfl rfl), rfl⟩
theorem rot7 : Calls Tryz.prog 116 #[vW x, .int .i64 7] w fun e w' => e = .returned (vW (rr x 7)) ∧ w = w' := by
  go_enter Tryz.func116, Tryz.ntmps116
  go_wp2_with (go_at_call 125; refine (rotl7 x _).mono ?_; rintro e w' ⟨rfl, rfl⟩)
  go_ret
  exact ⟨rfl, rfl⟩
set_option maxHeartbeats 800000 in
theorem rotl18 : Calls Tryz.prog 125 #[vW x, .int .i64 (-18)] w fun e w' => e = .returned (vW (rr x 18)) ∧ w = w' := by
  have hA : bits BinOp.and IntKind.u64 (IntKind.u64.wrap (-18)) 31 = 14 := by decide
  go_enter Tryz.func125, Tryz.ntmps125
  go_wp2
  go_ret
  exact ⟨ret_w (rot_eq x 18 14 16384 262144 rfl rfl rfl), rfl⟩
theorem rot18 : Calls Tryz.prog 116 #[vW x, .int .i64 18] w fun e w' => e = .returned (vW (rr x 18)) ∧ w = w' := by
  go_enter Tryz.func116, Tryz.ntmps116
  go_wp2_with (go_at_call 125; refine (rotl18 x _).mono ?_; rintro e w' ⟨rfl, rfl⟩)
  go_ret
  exact ⟨rfl, rfl⟩
set_option maxHeartbeats 800000 in
theorem rotl17 : Calls Tryz.prog 125 #[vW x, .int .i64 (-17)] w fun e w' => e = .returned (vW (rr x 17)) ∧ w = w' := by
  have hA : bits BinOp.and IntKind.u64 (IntKind.u64.wrap (-17)) 31 = 15 := by decide
  go_enter Tryz.func125, Tryz.ntmps125
  go_wp2
  go_ret
  exact ⟨ret_w (rot_eq x 17 15 32768 131072 rfl rfl rfl), rfl⟩
theorem rot17 : Calls Tryz.prog 116 #[vW x, .int .i64 17] w fun e w' => e = .returned (vW (rr x 17)) ∧ w = w' := by
  go_enter Tryz.func116, Tryz.ntmps116
  go_wp2_with (go_at_call 125; refine (rotl17 x _).mono ?_; rintro e w' ⟨rfl, rfl⟩)
  go_ret
  exact ⟨rfl, rfl⟩
set_option maxHeartbeats 800000 in
theorem rotl19 : Calls Tryz.prog 125 #[vW x, .int .i64 (-19)] w fun e w' => e = .returned (vW (rr x 19)) ∧ w = w' := by
  have hA : bits BinOp.and IntKind.u64 (IntKind.u64.wrap (-19)) 31 = 13 := by decide
  go_enter Tryz.func125, Tryz.ntmps125
  go_wp2
  go_ret
  exact ⟨ret_w (rot_eq x 19 13 8192 524288 rfl rfl rfl), rfl⟩
theorem rot19 : Calls Tryz.prog 116 #[vW x, .int .i64 19] w fun e w' => e = .returned (vW (rr x 19)) ∧ w = w' := by
  go_enter Tryz.func116, Tryz.ntmps116
  go_wp2_with (go_at_call 125; refine (rotl19 x _).mono ?_; rintro e w' ⟨rfl, rfl⟩)
  go_ret
  exact ⟨rfl, rfl⟩
/-- The numbers by which the program rotates. -/
def okN (i : Int) : Bool := [2, 13, 22, 6, 11, 25, 7, 18, 17, 19].contains i
theorem rot_n (i : Int) (h : okN i = true) : Calls Tryz.prog 116 #[vW x, .int .i64 i] w fun e w' => e = .returned (vW (rr x i.toNat)) ∧ w' = w := by
  have hi : i = 2 ∨ i = 13 ∨ i = 22 ∨ i = 6 ∨ i = 11 ∨ i = 25 ∨ i = 7 ∨ i = 18 ∨ i = 17 ∨ i = 19 := by simpa [okN] using h
  rcases hi with rfl | rfl | rfl | rfl | rfl | rfl | rfl | rfl | rfl | rfl
  · exact (rot2 x w).mono fun _ _ h => ⟨h.1, h.2.symm⟩
  · exact (rot13 x w).mono fun _ _ h => ⟨h.1, h.2.symm⟩
  · exact (rot22 x w).mono fun _ _ h => ⟨h.1, h.2.symm⟩
  · exact (rot6 x w).mono fun _ _ h => ⟨h.1, h.2.symm⟩
  · exact (rot11 x w).mono fun _ _ h => ⟨h.1, h.2.symm⟩
  · exact (rot25 x w).mono fun _ _ h => ⟨h.1, h.2.symm⟩
  · exact (rot7 x w).mono fun _ _ h => ⟨h.1, h.2.symm⟩
  · exact (rot18 x w).mono fun _ _ h => ⟨h.1, h.2.symm⟩
  · exact (rot17 x w).mono fun _ _ h => ⟨h.1, h.2.symm⟩
  · exact (rot19 x w).mono fun _ _ h => ⟨h.1, h.2.symm⟩
end
end Go.Proofs.YtecalodcbkljoaaGreatDoor
namespace Go.Proofs.YtecalodcbkljoaaGreatDoor
open Go.RowKit
@[go_sem] theorem maxU32 : IntKind.u32.max = 4294967295 := by decide
@[go_sem] theorem sgnU32 : IntKind.u32.signed = false := rfl
attribute [go_sem] w_xor w_and w_or w_not m_add w_shr3 w_shr10
theorem load_v {w : World} {ad : Addr} {v : Vs} (h : At w ad (cV v)) : (loadVar 156 ad).run Tryz.prog w = .ok (vV v) w :=
  run_loadVar_at w ad 156 (cV v) _ h Tryz.underlying156 rfl (by rw [cV_length]; exact size156)
set_option maxHeartbeats 800000 in
theorem initial_v (w : World) : Calls Tryz.prog 104 #[] w fun e w' => e = .returned (vV iniV) ∧ Below w.heap.size w w' := by
  have hz := (show (blA 156 #[(0, .int .u32 1779033703), (1, .int .u32 3144134277), (2, .int .u32 1013904242), (3, .int .u32 2773480762), (4, .int .u32 1359893119), (5, .int .u32 2600822924), (6, .int .u32 528734635), (7, .int .u32 1541459225)]).run Tryz.prog (w.alloc (.cells (aV zV) 156)) = .ok (vV iniV) (w.alloc (.cells (aV zV) 156)) by kernel_rfl)
  have hld := load_v (at_new w (cV iniV) 156 w.heap.size rfl)
  have HB := Lib.hid (And.intro (below_alloc w (.cells (aV iniV) 156)) hld)
  clear hld
  go_enter Tryz.func104, Tryz.ntmps104
  go_wp2
  exact bodyPost_ret (results_c1 (ad := ⟨w.heap.size, 0, none⟩) rfl rfl HB.out.2) rfl ⟨rfl, HB.out.1⟩
set_option maxHeartbeats 1600000 in
theorem plus_v (x y : Vs) (w : World) : Calls Tryz.prog 118 #[vV x, vV y] w fun e w' => e = .returned (vV (addV x y)) ∧ Below w.heap.size w w' := by
  have hb := Below.step (Below.step (below_alloc w (.cells (aV x) 156)) (below_alloc _ (.cells (aV y) 156))) (below_alloc _ (.cells (aV (addV x y)) 156))
  have hld := load_v (at_new ((w.alloc (.cells (aV x) 156)).alloc (.cells (aV y) 156)) (cV (addV x y)) 156 (w.heap.size + 1 + 1) (by simp))
  have HB := Lib.hid (And.intro hb hld)
  clear hld hb
  go_enter Tryz.func118, Tryz.ntmps118
  go_wp2
  exact bodyPost_ret (results_c1 (ad := ⟨w.heap.size + 1 + 1, 0, none⟩) rfl rfl HB.out.2) rfl ⟨rfl, HB.out.1⟩
end Go.Proofs.YtecalodcbkljoaaGreatDoor
namespace Go.Proofs.YtecalodcbkljoaaGreatDoor
open Go.RowKit
theorem Row.drewN {w : World} {b : Nat} {cs : List Value} {t : TypeId} (h : Row w b cs t) (n : Nat) : Row (w.drewN n) b cs t := h
theorem Row.okv {w : World} {b : Nat} {v : Vs} {t : TypeId} (h : Row w b (cV v) t) : rowOk w b 8 = true := by
  unfold Row at h
  unfold rowOk
  rw [h]
  rfl
set_option maxRecDepth 100000 in
set_option maxHeartbeats 3200000 in
theorem round_v (v : Vs) (k x : Wd) (w : World) : Calls Tryz.prog 117 #[vV v, vW k, vW x] w fun e w' => e = .returned (vV (rnd v k x)) ∧ Below w.heap.size w w' := by
  obtain ⟨b, hb⟩ : ∃ b, w.heap.size = b := ⟨_, rfl⟩
  obtain ⟨W0, hW0⟩ : ∃ W0, (w.alloc (.cells (aV v) 156)).alloc (.cells (aV zV) 156) = W0 := ⟨_, rfl⟩
  have HK := Lib.hid (show Below w.heap.size w W0 ∧ Row W0 b (cV v) 156 ∧ Row W0 (b + 1) (cV zV) 156 from by
    subst hW0 hb
    refine ⟨Below.step (below_alloc _ _) (below_alloc _ _), (Row.new w (cV v) _).keep (below_alloc _ _), ?_⟩
    have := Row.new (w.alloc (.cells (aV v) 156)) (cV zV) 156
    rw [show (w.alloc (.cells (aV v) 156)).heap.size = w.heap.size + 1 by simp] at this
    exact this)
  have HH := Lib.hid hb
  have q0 : ∀ n, (W0.drewN n).cell? ⟨b, 0, none⟩ = some (.int .u32 (iW v.a)) := fun n => (HK.out.2.1.drewN n).cell 0
  have q4 : ∀ n, (W0.drewN n).cell? ⟨b, 4, none⟩ = some (.int .u32 (iW v.e)) := fun n => (HK.out.2.1.drewN n).cell 4
  go_enter Tryz.func117, Tryz.ntmps117
  go_wp2
  go_quiet (first | (go_at_call 116; exact Calls.quiet_of_same (rot_n _ _ _ (by decide))))
  obtain ⟨W1, hW1⟩ : ∃ W1, W0.drewN nq = W1 := ⟨_, rfl⟩
  have HK1 := Lib.hid (show Below w.heap.size w W1 ∧ Row W1 b (cV v) 156 ∧ Row W1 (b + 1) (cV zV) 156 from by
    subst hW1
    exact ⟨Below.step HK.out.1 (below_drewN _ _), HK.out.2.1.drewN _, HK.out.2.2.drewN _⟩)
  rw [hW1]
  clear q0 q4
  have q4 : ∀ n, (W1.drewN n).cell? ⟨b, 4, none⟩ = some (.int .u32 (iW v.e)) := fun n => (HK1.out.2.1.drewN n).cell 4
  clear hW0 hW1 hb
  go_wp2
  go_quiet (first | (go_at_call 116; exact Calls.quiet_of_same (rot_n _ _ _ (by decide))))
  obtain ⟨W2, hW2⟩ : ∃ W2, W1.drewN nq = W2 := ⟨_, rfl⟩
  have HK2 := Lib.hid (show Below w.heap.size w W2 ∧ Row W2 b (cV v) 156 ∧ Row W2 (b + 1) (cV zV) 156 from by
    subst hW2
    exact ⟨Below.step HK1.out.1 (below_drewN _ _), HK1.out.2.1.drewN _, HK1.out.2.2.drewN _⟩)
  rw [hW2]
  clear q4 hW2
  have c0 := HK2.out.2.1.cell 0
  have c1 := HK2.out.2.1.cell 1
  have c2 := HK2.out.2.1.cell 2
  have c3 := HK2.out.2.1.cell 3
  have c4 := HK2.out.2.1.cell 4
  have c5 := HK2.out.2.1.cell 5
  have c6 := HK2.out.2.1.cell 6
  have c7 := HK2.out.2.1.cell 7
  have ro := HK2.out.2.2.okv
  simp only [cV, List.getElem?_cons_zero, List.getElem?_cons_succ] at c0 c1 c2 c3 c4 c5 c6 c7
  go_wp2
  have hld := load_v (at_setRow (cV (rnd v k x)) ro)
  have hle : w.heap.size ≤ b + 1 := by have := HH.out; omega
  exact bodyPost_ret (results_c1 (ad := ⟨b + 1, 0, none⟩) rfl rfl hld) rfl ⟨rfl, Below.setRow HK2.out.1 hle _⟩
end Go.Proofs.YtecalodcbkljoaaGreatDoor
namespace Go.Proofs.YtecalodcbkljoaaGreatDoor
/-- The ring before round t. -/
def rg (m : Nat → Wd) : Nat → List Wd
  | 0 => (List.range 16).map m
  | t + 1 => if t < 16 then rg m t else (rg m t).set (t % 16) (sw m t)
theorem rg_length (m : Nat → Wd) : ∀ t, (rg m t).length = 16
  | 0 => by simp [rg]
  | t + 1 => by
    unfold rg
    split
    · exact rg_length m t
    · rw [List.length_set, rg_length m t]
theorem rg_lo (m : Nat → Wd) : ∀ t, t ≤ 16 → rg m t = (List.range 16).map m
  | 0, _ => rfl
  | t + 1, h => by
    unfold rg
    rw [if_pos (by omega), rg_lo m t (by omega)]
/-- A word that is still in the ring. -/
theorem rg_at (m : Nat → Wd) : ∀ t j, j < t ∨ j < 16 → t ≤ j + 16 → (rg m t)[j % 16]? = some (sw m j)
  | 0, j, h, _ => by
    have hj : j < 16 := by omega
    rw [Nat.mod_eq_of_lt hj]
    simp [rg, hj, sw_lo m j hj]
  | t + 1, j, h, h2 => by
    unfold rg
    split
    · exact rg_at m t j (by omega) (by omega)
    · rename_i ht
      by_cases e : j = t
      · subst e
        rw [List.getElem?_set_self (by rw [rg_length]; exact Nat.mod_lt _ (by omega))]
      · rw [List.getElem?_set_ne (by omega)]
        exact rg_at m t j (by omega) (by omega)
end Go.Proofs.YtecalodcbkljoaaGreatDoor
