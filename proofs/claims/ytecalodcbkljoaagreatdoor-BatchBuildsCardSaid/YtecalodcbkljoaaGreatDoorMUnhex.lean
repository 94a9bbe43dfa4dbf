/- ascii.Unhex: the bytes of a text of hexadecimal digits, or the code of the error. -/
import Derived.Test.YtecalodcbkljoaaGreatDoorMSkip
namespace Go.Proofs.YtecalodcbkljoaaGreatDoor
open Go.RowKit
theorem underBs : Tryz.prog.underlying 47 = some (.slice 5) := Tryz.underlying47
theorem rowB : (Tryz.prog.info? 5).map (fun i => (i.zero.map (·.cells.size), i.size, i.bytes)) = some (some 1, 1, 1) := by kernel_rfl
/-- The cells of a byte. -/
def c1 (b : UInt8) : List Value := [cB b]
theorem c1_length (b : UInt8) : (c1 b).length = 1 := rfl
theorem c1_one (b : UInt8) : ∀ u ∈ c1 b, u.oneCell' = true := by
  intro u hu
  obtain rfl : u = cB b := by simpa [c1] using hu
  rfl
theorem sl_newB (w : World) (b : UInt8) : Sl (w.alloc (.cells #[cB b] 5)) c1 (some ⟨w.heap.size, 0, none⟩) [b] :=
  fun _ => ⟨_, rfl, at_new w [cB b] 5 _ rfl⟩
def isSlB (xs : List UInt8) : Value → World → Prop := fun v w => ∃ A n c, v = .slice A n c ∧ xs.length = n ∧ n ≤ c ∧ Sl w c1 A xs
theorem Mono.slB (xs : List UInt8) : Mono (isSlB xs) := fun _ _ _ hb ⟨A, n, c, h1, h2, h3, h4⟩ => ⟨A, n, c, h1, h2, h3, h4.keep hb⟩
/-- The byte of two hexadecimal digits, and the bytes of a text of them. -/
def pairV (a b : UInt8) : UInt8 := UInt8.ofNat (16 * hexV a + hexV b)
def unhexL : List UInt8 → List UInt8
  | a :: b :: r => pairV a b :: unhexL r
  | _ => []
theorem unhexL_append : ∀ (n : Nat) (l : List UInt8) (a b : UInt8), l.length = 2 * n → unhexL (l ++ [a, b]) = unhexL l ++ [pairV a b]
  | 0, [], a, b, _ => rfl
  | n + 1, x :: y :: r, a, b, h => by
    have hr : r.length = 2 * n := by simp at h; omega
    simp only [List.cons_append, unhexL, unhexL_append n r a b hr]
  | n + 1, [x], a, b, h => by simp at h; omega
  | n + 1, [], a, b, h => by simp at h
  | 0, x :: r, a, b, h => by simp at h
theorem unhexL_length : ∀ (n : Nat) (l : List UInt8), l.length = 2 * n → (unhexL l).length = n
  | 0, [], _ => rfl
  | n + 1, x :: y :: r, h => by
    have hr : r.length = 2 * n := by simp at h; omega
    simp only [unhexL, List.length_cons, unhexL_length n r hr]
  | n + 1, [x], h => by simp at h; omega
  | n + 1, [], h => by simp at h
  | 0, x :: r, h => by simp at h
theorem unhexL_step (s : ByteArray) (k : Nat) (h : k + 1 < s.size) (he : k % 2 = 0 := by omega) : unhexL ((bl s).take (k + 2)) = unhexL ((bl s).take k) ++ [pairV s[k] s[k + 1]] := by
  have h1 : (bl s).take (k + 2) = (bl s).take k ++ [s[k], s[k + 1]] := by
    rw [List.take_succ_eq_append_getElem (by rw [bl_length]; exact h), List.take_succ_eq_append_getElem (by rw [bl_length]; omega), List.append_assoc]
    rfl
  rw [h1]
  exact unhexL_append (k / 2) _ _ _ (by rw [List.length_take, bl_length]; omega)
theorem or_nib {a b : Nat} (ha : a < 16) (hb : b < 16) : bits BinOp.or IntKind.u8 ((a : Int) * 16) (b : Int) = ((16 * a + b : Nat) : Int) := by
  have h : (List.range 16).all (fun a => (List.range 16).all fun b => decide (bits BinOp.or IntKind.u8 ((a : Int) * 16) (b : Int) = ((16 * a + b : Nat) : Int))) = true := by decide +kernel
  exact of_decide_eq_true (List.all_eq_true.1 (List.all_eq_true.1 h a (List.mem_range.2 ha)) b (List.mem_range.2 hb))
theorem pairV_toNat {a b : UInt8} (ha : hexB a = true) (hb : hexB b = true) : (pairV a b).toNat = 16 * hexV a + hexV b := by
  have h1 := hexV_lt a ha
  have h2 := hexV_lt b hb
  unfold pairV
  rw [UInt8.toNat_ofNat']
  omega
theorem or_pair {a b : UInt8} (ha : hexB a = true) (hb : hexB b = true) : bits BinOp.or IntKind.u8 ((hexV a : Int) * 16) (hexV b : Int) = ((pairV a b).toNat : Int) := by
  rw [or_nib (hexV_lt a ha) (hexV_lt b hb), pairV_toNat ha hb]
theorem shl_hex {a : UInt8} (ha : hexB a = true) : IntKind.u8.wrap ((hexV a : Int) * 16) = (hexV a : Int) * 16 := by
  have := hexV_lt a ha
  simp [IntKind.wrap, IntKind.bits, IntKind.signed]; omega
theorem hex_at (s : ByteArray) (h : (bl s).all hexB = true) (k : Nat) (hk : k < s.size) : hexB s[k] = true :=
  List.all_eq_true.1 h s[k] (by rw [show s[k] = (bl s)[k]'(by rw [bl_length]; exact hk) from rfl]; exact List.getElem_mem _)
theorem runL_all (p : UInt8 → Bool) (l : List UInt8) : runL p l = l.length ↔ l.all p = true := by
  unfold runL
  induction l with
  | nil => simp
  | cons x r ih =>
    rw [List.takeWhile_cons]
    by_cases hx : p x = true
    · rw [if_pos hx, List.all_cons, hx]
      simpa using ih
    · rw [if_neg hx]
      simp [hx]
theorem skip_all (s : ByteArray) (w : World) (hs : s.size ≤ 4611686018427387904) (h : (bl s).all hexB = true) :
    Calls Tryz.prog 71 #[.string s, .int .i64 0, .func (.func 86) #[] #[]] w fun e w' => e = .returned (.int .i64 (s.size : Int)) ∧ w = w' := by
  have := skip_hex s 0 w (Nat.zero_le _) hs
  rw [List.drop_zero, (runL_all hexB (bl s)).2 h, bl_length, Nat.zero_add] at this
  exact this
theorem skip_not (s : ByteArray) (w : World) (hs : s.size ≤ 4611686018427387904) (n : Nat) (h : runL hexB (bl s) = n) :
    Calls Tryz.prog 71 #[.string s, .int .i64 0, .func (.func 86) #[] #[]] w fun e w' => e = .returned (.int .i64 (n : Int)) ∧ w = w' := by
  have := skip_hex s 0 w (Nat.zero_le _) hs
  rw [List.drop_zero, h, Nat.zero_add] at this
  exact this
set_option maxRecDepth 100000 in
set_option maxHeartbeats 800000 in
theorem unhex_no (s : ByteArray) (w : World) (hs : s.size ≤ 4294967296) (h : ¬ (s.size % 2 = 0 ∧ (bl s).all hexB = true)) :
    Calls Tryz.prog 74 #[.string s] w fun e w' => e = .returned (.tuple #[.slice none 0 0, .int .i64 3]) ∧ w = w' := by
  by_cases h1 : s.size % 2 = 0
  · have h2 : ((s.size : Int) % 2 != 0) = false := by simp; omega
    obtain ⟨n, hn⟩ : ∃ n, runL hexB (bl s) = n := ⟨_, rfl⟩
    have hlt : n < s.size := by
      have hle := runL_le hexB (bl s)
      rw [bl_length] at hle
      have : ¬ n = s.size := fun e => h ⟨h1, (runL_all hexB (bl s)).1 (by rw [hn, e, bl_length])⟩
      omega
    have HN := Lib.hid hn
    clear h hn h1
    go_enter Tryz.func74, Tryz.ntmps74
    go_wp2_with (go_at_call 71; refine (skip_not s _ (by omega) n HN.out).mono ?_; rintro e w' ⟨rfl, rfl⟩)
    go_ret2
    exact ⟨rfl, rfl⟩
  · have h2 : ((s.size : Int) % 2 != 0) = true := by simp; omega
    clear h h1
    go_enter Tryz.func74, Tryz.ntmps74
    go_wp2
    go_ret2
    exact ⟨rfl, rfl⟩
set_option maxRecDepth 100000 in
set_option maxHeartbeats 1600000 in
theorem unhex_yes (s : ByteArray) (w : World) (hs : s.size ≤ 4294967296) (h1 : s.size % 2 = 0) (h : (bl s).all hexB = true) :
    Calls Tryz.prog 74 #[.string s] w fun e w' => ∃ v, e = .returned (.tuple #[v, .int .i64 0]) ∧ Below w.heap.size w w' ∧ Own w' w.heap.size 5 1 c1 v (unhexL (bl s)) := by
  have h2 : ((s.size : Int) % 2 != 0) = false := by simp; omega
  have HA := Lib.hid h
  have HL := Lib.hid hs
  obtain ⟨i, z, hi, hz, hsz⟩ := info_of rowB
  have hby : i.bytes = 1 := by have := rowB; rw [hi] at this; simp at this; exact this.2.2
  obtain ⟨w1, hmk, hown, hg⟩ := run_make_own (P := Tryz.prog) w w.heap.size 47 5 i z 1 underBs hi hz hsz .i64 .i64 (s.size / 2) (by rw [hby]; omega) (by unfold maxLen; omega) (Nat.le_refl _)
  have H1 := Lib.hid (And.intro (show Below w.heap.size w w1 from ⟨hg.os, hg.tape, hg.output, hg.size, fun k hk => hg.block k hk (by simp)⟩) (show Own w1 w.heap.size 5 1 c1 (.slice (some ⟨w.heap.size, 0, none⟩) 0 (s.size / 2)) [] from hown))
  have hmk2 : (Instr.makeSlice 47 (.int .i64 0) (.int .i64 ((s.size : Int) / 2))).run Tryz.prog w = .ok (.slice (some ⟨w.heap.size, 0, none⟩) 0 (s.size / 2)) w1 := hmk
  clear h hown hg hmk hi hz hsz hby
  go_enter Tryz.func74, Tryz.ntmps74
  go_wp2_with (go_at_call 71; refine (skip_all s _ (by omega) HA.out).mono ?_; rintro e w' ⟨rfl, rfl⟩)
  go_loopw [6, 7] (fun v i wr => ∃ k : Nat, k ≤ s.size ∧ k % 2 = 0 ∧ i = .int .i64 k ∧ Below w.heap.size w wr ∧ Own wr w.heap.size 5 1 c1 v (unhexL ((bl s).take k))) (fun _ i _ => s.size - (intOf i).toNat)
  case atStart => exact ⟨0, Nat.zero_le _, rfl, rfl, H1.out.1, H1.out.2⟩
  case round =>
    obtain ⟨k, hk, hev, rfl, hb, ho⟩ := hrel
    have HO := Lib.hid (And.intro hb ho)
    clear hb ho
    by_cases hlt : k < s.size
    · have hlt1 : k + 1 < s.size := by omega
      have HC := Lib.hid (And.intro (hex_at s HA.out k hlt) (And.intro (hex_at s HA.out (k + 1) hlt1) (And.intro (shl_hex (hex_at s HA.out k hlt)) (or_pair (hex_at s HA.out k hlt) (hex_at s HA.out (k + 1) hlt1)))))
      have HU := Lib.hid (unhexL_length (k / 2) ((bl s).take k) (by rw [List.length_take, bl_length]; omega))
      have hlti : (k : Int) < (s.size : Int) := by omega
      have q3 : IntKind.i64.wrap ((k : Int) + 1) = (k : Int) + 1 := IntWalk.i64_in _ (by omega)
      have q4 : (k : Int) + 1 < (s.size : Int) := by omega
      go_wp2_with fail
      refine AnyO.wp_any_tail 15 (by kernel_rfl) (by kernel_rfl) (by kernel_rfl) (by kernel_rfl) (by kernel_rfl) (by kernel_rfl) (pstP [isV (u6), isV (.func (.func 87) #[] #[]), isV (.string s), isV (.int .i64 (k : Int)), isV (vB s[k]), isV (.int .u8 (hexV s[k] : Int)), isV (.int .u8 ((hexV s[k] : Int) * 16)), isV (.func (.func 87) #[] #[]), isV (.string s), isV (.int .i64 (k : Int)), isV (.int .i64 ((k : Int) + 1)), isV (vB s[k + 1]), isV (.int .u8 (hexV s[k + 1] : Int)), isV (vB (pairV s[k] s[k + 1])), isSlB [pairV s[k] s[k + 1]]]) (MonoL.cons (Mono.v _) (MonoL.cons (Mono.v _) (MonoL.cons (Mono.v _) (MonoL.cons (Mono.v _) (MonoL.cons (Mono.v _) (MonoL.cons (Mono.v _) (MonoL.cons (Mono.v _) (MonoL.cons (Mono.v _) (MonoL.cons (Mono.v _) (MonoL.cons (Mono.v _) (MonoL.cons (Mono.v _) (MonoL.cons (Mono.v _) (MonoL.cons (Mono.v _) (MonoL.cons (Mono.v _) (MonoL.cons (Mono.slB _) MonoL.nil))))))))))))))) ?_ ?_
      · intro i hi
        have hi2 : i = 0 ∨ i = 1 ∨ i = 2 ∨ i = 3 ∨ i = 4 ∨ i = 5 ∨ i = 6 ∨ i = 7 ∨ i = 8 ∨ i = 9 ∨ i = 10 ∨ i = 11 ∨ i = 12 ∨ i = 13 ∨ i = 14 := by omega
        clear hi
        rcases hi2 with rfl | rfl | rfl | rfl | rfl | rfl | rfl | rfl | rfl | rfl | rfl | rfl | rfl | rfl | rfl
        · -- 0: Op.move (Operand.tmp 6)
          refine AnyO.Step.mk rfl [] (by kernel_rfl) ?_
          intro vs u hE hp ac hb K hK
          have s6 : ac.tmps[6]?.getD undef = u6 := by rw [hb]; kernel_rfl
          rw [if_pos (AnyO.wanted_none rfl)]
          clear hb hp
          go_simp
          exact hK _ _ (Below.refl _ _) rfl
        · -- 1: Op.move (Operand.tmp 5)
          refine AnyO.Step.mk rfl [] (by kernel_rfl) ?_
          intro vs u hE hp ac hb K hK
          have s5 : ac.tmps[5]?.getD undef = .func (.func 87) #[] #[] := by rw [hb]; kernel_rfl
          rw [if_pos (AnyO.wanted_none rfl)]
          clear hb hp
          go_simp
          exact hK _ _ (Below.refl _ _) rfl
        · -- 2: Op.move (Operand.tmp 0)
          refine AnyO.Step.mk rfl [] (by kernel_rfl) ?_
          intro vs u hE hp ac hb K hK
          have s0 : ac.tmps[0]?.getD undef = .string s := by rw [hb]; kernel_rfl
          rw [if_pos (AnyO.wanted_none rfl)]
          clear hb hp
          go_simp
          exact hK _ _ (Below.refl _ _) rfl
        · -- 3: Op.move (Operand.tmp 7)
          refine AnyO.Step.mk rfl [] (by kernel_rfl) ?_
          intro vs u hE hp ac hb K hK
          have s7 : ac.tmps[7]?.getD undef = .int .i64 (k : Int) := by rw [hb]; kernel_rfl
          rw [if_pos (AnyO.wanted_none rfl)]
          clear hb hp
          go_simp
          exact hK _ _ (Below.refl _ _) rfl
        · -- 4: Op.index 9 (Operand.tmp 32) (Operand.tmp 33)
          refine AnyO.Step.mk rfl [2, 3] (by kernel_rfl) ?_
          intro vs u hE hp ac hb K hK
          have s32 : ac.tmps[32]?.getD undef = .string s := by rw [hb]; exact (show _ = vs 2 by kernel_rfl).trans (hp 2 (by decide))
          have s33 : ac.tmps[33]?.getD undef = .int .i64 (k : Int) := by rw [hb]; exact (show _ = vs 3 by kernel_rfl).trans (hp 3 (by decide))
          rw [if_pos (AnyO.wanted_none rfl)]
          clear hb hp
          go_simp
          exact hK _ _ (Below.refl _ _) rfl
        · -- 5: Op.call { callee := Callee.value (Operand.tmp 31), args := #
          refine AnyO.Step.mk rfl [1, 4] (by kernel_rfl) ?_
          intro vs u hE hp ac hb K hK
          have s31 : ac.tmps[31]?.getD undef = .func (.func 87) #[] #[] := by rw [hb]; exact (show _ = vs 1 by kernel_rfl).trans (hp 1 (by decide))
          have s34 : ac.tmps[34]?.getD undef = vB s[k] := by rw [hb]; exact (show _ = vs 4 by kernel_rfl).trans (hp 4 (by decide))
          rw [if_pos (AnyO.wanted_none rfl)]
          clear hb hp
          go_simp
          go_at_call 87
          refine (hexValue_b _ HC.out.1 u).mono ?_
          rintro e w2 ⟨rfl, rfl⟩
          exact hK _ _ (Below.refl _ _) rfl
        · -- 6: Op.binOp BinOp.shl 5 (Operand.tmp 35) (Operand.const (Value.
          refine AnyO.Step.mk rfl [5] (by kernel_rfl) ?_
          intro vs u hE hp ac hb K hK
          have s35 : ac.tmps[35]?.getD undef = .int .u8 (hexV s[k] : Int) := by rw [hb]; exact (show _ = vs 5 by kernel_rfl).trans (hp 5 (by decide))
          rw [if_pos (AnyO.wanted_none rfl)]
          clear hb hp
          have q1 := HC.out.2.2.1
          go_simp
          exact hK _ _ (Below.refl _ _) rfl
        · -- 7: Op.move (Operand.tmp 5)
          refine AnyO.Step.mk rfl [] (by kernel_rfl) ?_
          intro vs u hE hp ac hb K hK
          have s5 : ac.tmps[5]?.getD undef = .func (.func 87) #[] #[] := by rw [hb]; kernel_rfl
          rw [if_pos (AnyO.wanted_none rfl)]
          clear hb hp
          go_simp
          exact hK _ _ (Below.refl _ _) rfl
        · -- 8: Op.move (Operand.tmp 0)
          refine AnyO.Step.mk rfl [] (by kernel_rfl) ?_
          intro vs u hE hp ac hb K hK
          have s0 : ac.tmps[0]?.getD undef = .string s := by rw [hb]; kernel_rfl
          rw [if_pos (AnyO.wanted_none rfl)]
          clear hb hp
          go_simp
          exact hK _ _ (Below.refl _ _) rfl
        · -- 9: Op.move (Operand.tmp 7)
          refine AnyO.Step.mk rfl [] (by kernel_rfl) ?_
          intro vs u hE hp ac hb K hK
          have s7 : ac.tmps[7]?.getD undef = .int .i64 (k : Int) := by rw [hb]; kernel_rfl
          rw [if_pos (AnyO.wanted_none rfl)]
          clear hb hp
          go_simp
          exact hK _ _ (Below.refl _ _) rfl
        · -- 10: Op.binOp BinOp.add 3 (Operand.tmp 39) (Operand.const (Value.
          refine AnyO.Step.mk rfl [9] (by kernel_rfl) ?_
          intro vs u hE hp ac hb K hK
          have s39 : ac.tmps[39]?.getD undef = .int .i64 (k : Int) := by rw [hb]; exact (show _ = vs 9 by kernel_rfl).trans (hp 9 (by decide))
          rw [if_pos (AnyO.wanted_none rfl)]
          clear hb hp
          go_simp
          exact hK _ _ (Below.refl _ _) rfl
        · -- 11: Op.index 9 (Operand.tmp 38) (Operand.tmp 40)
          refine AnyO.Step.mk rfl [8, 10] (by kernel_rfl) ?_
          intro vs u hE hp ac hb K hK
          have s38 : ac.tmps[38]?.getD undef = .string s := by rw [hb]; exact (show _ = vs 8 by kernel_rfl).trans (hp 8 (by decide))
          have s40 : ac.tmps[40]?.getD undef = .int .i64 ((k : Int) + 1) := by rw [hb]; exact (show _ = vs 10 by kernel_rfl).trans (hp 10 (by decide))
          rw [if_pos (AnyO.wanted_none rfl)]
          clear hb hp
          go_simp
          exact hK _ _ (Below.refl _ _) rfl
        · -- 12: Op.call { callee := Callee.value (Operand.tmp 37), args := #
          refine AnyO.Step.mk rfl [7, 11, 5] (by kernel_rfl) ?_
          intro vs u hE hp ac hb K hK
          have s37 : ac.tmps[37]?.getD undef = .func (.func 87) #[] #[] := by rw [hb]; exact (show _ = vs 7 by kernel_rfl).trans (hp 7 (by decide))
          have s41 : ac.tmps[41]?.getD undef = vB s[k + 1] := by rw [hb]; exact (show _ = vs 11 by kernel_rfl).trans (hp 11 (by decide))
          rw [if_pos (AnyO.wanted_none rfl)]
          clear hb hp
          go_simp
          go_at_call 87
          refine (hexValue_b _ HC.out.2.1 u).mono ?_
          rintro e w2 ⟨rfl, rfl⟩
          exact hK _ _ (Below.refl _ _) rfl
        · -- 13: Op.binOp BinOp.or 5 (Operand.tmp 36) (Operand.tmp 42) 5
          refine AnyO.Step.mk rfl [6, 12] (by kernel_rfl) ?_
          intro vs u hE hp ac hb K hK
          have s36 : ac.tmps[36]?.getD undef = .int .u8 ((hexV s[k] : Int) * 16) := by rw [hb]; exact (show _ = vs 6 by kernel_rfl).trans (hp 6 (by decide))
          have s42 : ac.tmps[42]?.getD undef = .int .u8 (hexV s[k + 1] : Int) := by rw [hb]; exact (show _ = vs 12 by kernel_rfl).trans (hp 12 (by decide))
          rw [if_pos (AnyO.wanted_none rfl)]
          clear hb hp
          have q2 := HC.out.2.2.2
          go_simp
          exact hK _ _ (Below.refl _ _) rfl
        · -- 14: Op.buildSlice 85 1 #[(0, Operand.tmp 43)]
          refine AnyO.Step.mk rfl [13] (by kernel_rfl) ?_
          intro vs u hE hp ac hb K hK
          have s43 : ac.tmps[43]?.getD undef = vB (pairV s[k] s[k + 1]) := by rw [hb]; exact (show _ = vs 13 by kernel_rfl).trans (hp 13 (by decide))
          rw [if_pos (AnyO.wanted_none rfl)]
          clear hb hp
          go_simp
          exact hK _ _ (below_alloc _ _) ⟨_, _, _, rfl, rfl, Nat.le_refl _, sl_newB _ _⟩
      · intro vs u hE hp
        have e0 : vs 0 = u6 := hp 0 (by decide)
        have e1 : vs 1 = .func (.func 87) #[] #[] := hp 1 (by decide)
        have e2 : vs 2 = .string s := hp 2 (by decide)
        have e3 : vs 3 = .int .i64 (k : Int) := hp 3 (by decide)
        have e4 : vs 4 = vB s[k] := hp 4 (by decide)
        have e5 : vs 5 = .int .u8 (hexV s[k] : Int) := hp 5 (by decide)
        have e6 : vs 6 = .int .u8 ((hexV s[k] : Int) * 16) := hp 6 (by decide)
        have e7 : vs 7 = .func (.func 87) #[] #[] := hp 7 (by decide)
        have e8 : vs 8 = .string s := hp 8 (by decide)
        have e9 : vs 9 = .int .i64 (k : Int) := hp 9 (by decide)
        have e10 : vs 10 = .int .i64 ((k : Int) + 1) := hp 10 (by decide)
        have e11 : vs 11 = vB s[k + 1] := hp 11 (by decide)
        have e12 : vs 12 = .int .u8 (hexV s[k + 1] : Int) := hp 12 (by decide)
        have e13 : vs 13 = vB (pairV s[k] s[k + 1]) := hp 13 (by decide)
        obtain ⟨A_14, n_14, c_14, e14, h_14⟩ := show isSlB [pairV s[k] s[k + 1]] (vs 14) u from hp 14 (by decide)
        clear hp
        have HE := Lib.hid (And.intro hE h_14); clear hE h_14
        rw [puts_range [some 30, some 31, some 32, some 33, some 34, some 35, some 36, some 37, some 38, some 39, some 40, some 41, some 42, some 43, some 44] (by kernel_rfl)]
        simp only [putL, Nat.reduceAdd, List.drop_succ_cons, List.drop_zero, e0, e1, e2, e3, e4, e5, e6, e7, e8, e9, e10, e11, e12, e13, e14]
        clear e0 e1 e2 e3 e4 e5 e6 e7 e8 e9 e10 e11 e12 e13 e14
        go_simp
        go_wp2_with (at_builtin; refine wpList_append_sl _ rfl (.tmp 30) (.tmp 44) 47 rfl w.heap.size 5 1 1 c1 underBs rowB (by decide) c1_length c1_one u6 (unhexL ((bl s).take k)) rfl (Own.keep HO.out.2 HE.out.1) _ _ _ [pairV s[k] s[k + 1]] HE.out.2.1 rfl HE.out.2.2.2 (by have := HL.out; have := HU.out; have := HU.out; have : 1 = n_14 := HE.out.2.1; omega) (by have := HL.out; have := HU.out; have := HU.out; have : 1 = n_14 := HE.out.2.1; omega) (by have := HO.out.1.size; have := HE.out.1.size; omega) ?_)
        intro v2 w2 ho hg
        have hb2 := Own.grew (Own.keep HO.out.2 HE.out.1) hg (HO.out.1.trans (HE.out.1.mono HO.out.1.size)) (Nat.le_refl _) (by have := HO.out.1.size; have := HE.out.1.size; omega)
        have H2 := Lib.hid (And.intro hb2 ho); clear hb2 ho hg
        go_wp2
        go_roundw
        case rel => exact ⟨k + 2, by omega, by omega, by go_num, H2.out.1, by rw [unhexL_step s k hlt1]; exact H2.out.2⟩
        case measure => simp [intOf]; omega
    · have hkn : k = s.size := by omega
      subst hkn
      go_wp2
      go_ret2
      exact ⟨_, rfl, HO.out.1, by have := HO.out.2; rwa [show (bl s).take s.size = bl s from by rw [← bl_length, List.take_length]] at this⟩
end Go.Proofs.YtecalodcbkljoaaGreatDoor
