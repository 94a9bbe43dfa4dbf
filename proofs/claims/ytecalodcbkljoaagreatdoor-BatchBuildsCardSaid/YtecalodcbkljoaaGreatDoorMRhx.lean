/- The reference's Digits. The reference's Hex. -/
import Derived.Test.YtecalodcbkljoaaGreatDoorMHam
import Derived.Test.YtecalodcbkljoaaGreatDoorMDigits
import Derived.Laws.BytesArg
namespace Go.Proofs.YtecalodcbkljoaaGreatDoor
open Go.RowKit
def mkS (l : List UInt8) : ByteArray := ⟨l.toArray⟩
theorem bl_mkS (l : List UInt8) : bl (mkS l) = l := by simp [bl, mkS]
theorem mkS_bl (s : ByteArray) : mkS (bl s) = s := by simp [bl, mkS]
theorem conv_any {w : World} {A : Option Addr} {n c : Nat} {l : List UInt8} (h : Sl w c1 A l) (hn : l.length = n) : (convert 47 9 (.slice A n c)).run Tryz.prog w = .ok (.string ⟨l.toArray⟩) w := by
  cases A with
  | some ad => exact conv_bs h hn (by simp)
  | none =>
    have h0 : l = [] := by
      refine Classical.byContradiction fun hne => ?_
      obtain ⟨ad, e, _⟩ := h hne
      cases e
    subst h0
    subst hn
    exact run_convert_bytes_nil w 47 5 underBs Tryz.underlying5 0 c 9 Tryz.underlying9
theorem conv_keep {w : World} {A : Option Addr} {n c : Nat} {l : List UInt8} (h : Sl w c1 A l) (hn : l.length = n) {w' : World} (hb : Below w.heap.size w w') : (convert 47 9 (.slice A n c)).run Tryz.prog w' = .ok (.string (mkS l)) w' := conv_any (h.keep hb) hn
/-- A digit as a byte; a number in decimal as a string. -/
def dgB (x : Nat) : UInt8 := UInt8.ofNat (48 + x)
def decS (u : Nat) : ByteArray := mkS (Lib.decDigits u)
theorem dgB_toNat (x : Nat) (h : x < 10) : (dgB x).toNat = 48 + x := by unfold dgB; rw [UInt8.toNat_ofNat']; omega
theorem dec_len1 : ∀ (k u : Nat), u < 10 ^ (k + 1) → (Lib.decDigits u).length ≤ k + 1
  | 0, u, h => by rw [Lib.decDigits, dif_pos (by simpa using h)]; simp
  | k + 1, u, h => by
    rw [Lib.decDigits]
    split
    · simp
    · have := dec_len1 k (u / 10) (by rw [Nat.pow_succ] at h; omega)
      rw [List.length_append, List.length_singleton]
      omega
theorem decS_size (u : Nat) (h : u < 18446744073709551616) : (decS u).size ≤ 20 := by
  rw [← bl_length, decS, bl_mkS]
  exact dec_len1 19 u (by omega)
theorem decS_small (u : Nat) (h : u < 10) : decS u = mkS [dgB u] := by unfold decS; rw [Lib.decDigits, dif_pos h]; rfl
theorem decS_step (u : Nat) (h : ¬ u < 10) : decS (u / 10) ++ mkS [dgB (u % 10)] = decS u := by
  conv => rhs; unfold decS; rw [Lib.decDigits, dif_neg h]
  unfold decS mkS
  rw [mk_append]
  rfl
set_option maxRecDepth 100000 in
set_option maxHeartbeats 1600000 in
theorem plain56_small (u : Nat) (hu : u < 10) (w : World) : Calls Tryz.prog 69 #[.int .u64 (u : Int)] w fun e w' => e = .returned (.string (decS u)) ∧ Below w.heap.size w w' := by
  rw [decS_small u hu]
  have h1 : (u : Int) < 10 := by omega
  have h2 : IntKind.u64.wrap (48 + (u : Int)) = 48 + (u : Int) := by simp [IntKind.wrap, IntKind.bits, IntKind.signed]; omega
  have h3 : IntKind.u8.wrap (48 + (u : Int)) = ((dgB u).toNat : Int) := by rw [dgB_toNat u hu]; simp [IntKind.wrap, IntKind.bits, IntKind.signed]; omega
  have h4 : (convert 47 9 (.slice (some ⟨w.heap.size, 0, none⟩) 1 1)).run Tryz.prog (w.alloc (.cells #[.int .u8 ((dgB u).toNat : Int)] 5)) = .ok (.string (mkS [dgB u])) (w.alloc (.cells #[.int .u8 ((dgB u).toNat : Int)] 5)) := conv_keep (c := 1) (sl_newBs w [dgB u]) rfl (Below.refl _ _)
  go_enter Tryz.func69, Tryz.ntmps69
  go_wp2
  go_ret
  exact ⟨rfl, below_alloc _ _⟩
set_option maxRecDepth 100000 in
set_option maxHeartbeats 1600000 in
theorem plain56_step (un : Nat) (hu : ¬ un < 10) (h64 : un < 18446744073709551616) (ih : ∀ q, q < un → ∀ w, Calls Tryz.prog 69 #[.int .u64 (q : Int)] w fun e w' => e = .returned (.string (decS q)) ∧ Below w.heap.size w w') (w : World) :
    Calls Tryz.prog 69 #[.int .u64 (un : Int)] w fun e w' => e = .returned (.string (decS un)) ∧ Below w.heap.size w w' := by
  obtain ⟨q, hq⟩ : ∃ q, un / 10 = q := ⟨_, rfl⟩
  obtain ⟨x, hx⟩ : ∃ x, un % 10 = x := ⟨_, rfl⟩
  have HD := Lib.hid (show decS q ++ mkS [dgB x] = decS un by rw [← hq, ← hx]; exact decS_step un hu)
  have HZ := Lib.hid (show (decS q).size + (mkS [dgB x]).size ≤ 40 by
    have h1 := decS_size q (by omega)
    have h2 : (mkS [dgB x]).size = 1 := rfl
    omega)
  have HI := Lib.hid ih
  have HA := Lib.hid (And.intro (show (un : Int) / 10 = (q : Int) by omega) (And.intro (show IntKind.u64.wrap (q : Int) = (q : Int) by simp [IntKind.wrap, IntKind.bits, IntKind.signed]; omega) (And.intro (show ((un : Int)).tmod 10 = (x : Int) by rw [Int.tmod_eq_emod_of_nonneg (by omega)]; omega) (And.intro (show IntKind.u64.wrap (48 + (x : Int)) = 48 + (x : Int) by simp [IntKind.wrap, IntKind.bits, IntKind.signed]; omega) (And.intro (show IntKind.u8.wrap (48 + (x : Int)) = ((dgB x).toNat : Int) by rw [dgB_toNat x (by omega)]; simp [IntKind.wrap, IntKind.bits, IntKind.signed]; omega) (show q < un by omega))))))
  have h1 : ¬ (un : Int) < 10 := by omega
  clear ih hq hx hu h64
  go_enter Tryz.func69, Tryz.ntmps69
  go_wp2_with fail
  refine AnyO.wp_any_tail 9 (by kernel_rfl) (by kernel_rfl) (by kernel_rfl) (by kernel_rfl) (by kernel_rfl) (by kernel_rfl) (pstP [isV (.int .u64 (un : Int)), isV (.int .u64 (q : Int)), isV (.string (decS q)), isV (.int .u64 (un : Int)), isV (.int .u64 (x : Int)), isV (.int .u64 (48 + (x : Int))), isV (vB (dgB x)), isSlB [dgB x], isV (.string (mkS [dgB x]))]) (MonoL.cons (Mono.v _) (MonoL.cons (Mono.v _) (MonoL.cons (Mono.v _) (MonoL.cons (Mono.v _) (MonoL.cons (Mono.v _) (MonoL.cons (Mono.v _) (MonoL.cons (Mono.v _) (MonoL.cons (Mono.slB _) (MonoL.cons (Mono.v _) MonoL.nil))))))))) ?_ ?_
  · intro i hi
    have hi2 : i = 0 ∨ i = 1 ∨ i = 2 ∨ i = 3 ∨ i = 4 ∨ i = 5 ∨ i = 6 ∨ i = 7 ∨ i = 8 := by omega
    clear hi
    rcases hi2 with rfl | rfl | rfl | rfl | rfl | rfl | rfl | rfl | rfl
    · -- 0: Op.move (Operand.tmp 0)
      refine AnyO.Step.mk rfl [] (by kernel_rfl) ?_
      intro vs u hE hp ac hb K hK
      have s0 : ac.tmps[0]?.getD undef = .int .u64 (un : Int) := by rw [hb]; kernel_rfl
      rw [if_pos (AnyO.wanted_none rfl)]
      clear hb hp
      go_simp
      exact hK _ _ (Below.refl _ _) rfl
    · -- 1: Op.binOp BinOp.quo 122 (Operand.tmp 10) (Operand.const (Valu
      refine AnyO.Step.mk rfl [0] (by kernel_rfl) ?_
      intro vs u hE hp ac hb K hK
      have s10 : ac.tmps[10]?.getD undef = .int .u64 (un : Int) := by rw [hb]; exact (show _ = vs 0 by kernel_rfl).trans (hp 0 (by decide))
      rw [if_pos (AnyO.wanted_none rfl)]
      clear hb hp
      have r1 := HA.out.1
      have r2 := HA.out.2.1
      go_simp
      exact hK _ _ (Below.refl _ _) rfl
    · -- 2: Op.call { callee := Callee.value (Operand.func 69), args := 
      refine AnyO.Step.mk rfl [1] (by kernel_rfl) ?_
      intro vs u hE hp ac hb K hK
      have s11 : ac.tmps[11]?.getD undef = .int .u64 (q : Int) := by rw [hb]; exact (show _ = vs 1 by kernel_rfl).trans (hp 1 (by decide))
      rw [if_pos (AnyO.wanted_none rfl)]
      clear hb hp
      go_simp
      go_at_call 69
      refine (HI.out q HA.out.2.2.2.2.2 _).mono ?_
      rintro e w2 ⟨rfl, hb2⟩
      exact hK _ _ hb2 rfl
    · -- 3: Op.move (Operand.tmp 0)
      refine AnyO.Step.mk rfl [] (by kernel_rfl) ?_
      intro vs u hE hp ac hb K hK
      have s0 : ac.tmps[0]?.getD undef = .int .u64 (un : Int) := by rw [hb]; kernel_rfl
      rw [if_pos (AnyO.wanted_none rfl)]
      clear hb hp
      go_simp
      exact hK _ _ (Below.refl _ _) rfl
    · -- 4: Op.binOp BinOp.rem 122 (Operand.tmp 13) (Operand.const (Valu
      refine AnyO.Step.mk rfl [3] (by kernel_rfl) ?_
      intro vs u hE hp ac hb K hK
      have s13 : ac.tmps[13]?.getD undef = .int .u64 (un : Int) := by rw [hb]; exact (show _ = vs 3 by kernel_rfl).trans (hp 3 (by decide))
      rw [if_pos (AnyO.wanted_none rfl)]
      clear hb hp
      have r1 := HA.out.2.2.1
      go_simp
      exact hK _ _ (Below.refl _ _) rfl
    · -- 5: Op.binOp BinOp.add 122 (Operand.const (Value.int IntKind.u64
      refine AnyO.Step.mk rfl [4] (by kernel_rfl) ?_
      intro vs u hE hp ac hb K hK
      have s14 : ac.tmps[14]?.getD undef = .int .u64 (x : Int) := by rw [hb]; exact (show _ = vs 4 by kernel_rfl).trans (hp 4 (by decide))
      rw [if_pos (AnyO.wanted_none rfl)]
      clear hb hp
      have r1 := HA.out.2.2.2.1
      go_simp
      exact hK _ _ (Below.refl _ _) rfl
    · -- 6: Op.convert 122 5 (Operand.tmp 15)
      refine AnyO.Step.mk rfl [5] (by kernel_rfl) ?_
      intro vs u hE hp ac hb K hK
      have s15 : ac.tmps[15]?.getD undef = .int .u64 (48 + (x : Int)) := by rw [hb]; exact (show _ = vs 5 by kernel_rfl).trans (hp 5 (by decide))
      rw [if_pos (AnyO.wanted_none rfl)]
      clear hb hp
      have r1 := HA.out.2.2.2.2.1
      go_simp
      exact hK _ _ (Below.refl _ _) rfl
    · -- 7: Op.buildSlice 47 1 #[(0, Operand.tmp 16)]
      refine AnyO.Step.mk rfl [6] (by kernel_rfl) ?_
      intro vs u hE hp ac hb K hK
      have s16 : ac.tmps[16]?.getD undef = vB (dgB x) := by rw [hb]; exact (show _ = vs 6 by kernel_rfl).trans (hp 6 (by decide))
      rw [if_pos (AnyO.wanted_none rfl)]
      clear hb hp
      go_simp
      exact hK _ _ (below_alloc _ _) ⟨_, _, _, rfl, rfl, Nat.le_refl _, sl_newBs _ [dgB x]⟩
    · -- 8: Op.convert 47 9 (Operand.tmp 17)
      refine AnyO.Step.mk rfl [7] (by kernel_rfl) ?_
      intro vs u hE hp ac hb K hK
      obtain ⟨A17, n17, c17, e17, h17⟩ := hp 7 (by decide)
      have s17 : ac.tmps[17]?.getD undef = .slice A17 n17 c17 := by rw [hb]; exact (show _ = vs 7 by kernel_rfl).trans e17
      clear e17
      rw [if_pos (AnyO.wanted_none rfl)]
      clear hb hp
      have r1 := conv_keep (c := c17) h17.2.2 h17.1 (Below.refl _ _)
      go_simp
      exact hK _ _ (Below.refl _ _) rfl
  · intro vs u hE hp
    have e0 : vs 0 = .int .u64 (un : Int) := hp 0 (by decide)
    have e1 : vs 1 = .int .u64 (q : Int) := hp 1 (by decide)
    have e2 : vs 2 = .string (decS q) := hp 2 (by decide)
    have e3 : vs 3 = .int .u64 (un : Int) := hp 3 (by decide)
    have e4 : vs 4 = .int .u64 (x : Int) := hp 4 (by decide)
    have e5 : vs 5 = .int .u64 (48 + (x : Int)) := hp 5 (by decide)
    have e6 : vs 6 = vB (dgB x) := hp 6 (by decide)
    obtain ⟨A_7, n_7, c_7, e7, h_7⟩ := show isSlB [dgB x] (vs 7) u from hp 7 (by decide)
    have e8 : vs 8 = .string (mkS [dgB x]) := hp 8 (by decide)
    clear hp
    have HE := Lib.hid hE; clear hE
    rw [puts_range [some 10, some 11, some 12, some 13, some 14, some 15, some 16, some 17, some 18] (by kernel_rfl)]
    simp only [putL, Nat.reduceAdd, List.drop_succ_cons, List.drop_zero, e0, e1, e2, e3, e4, e5, e6, e7, e8]
    clear e0 e1 e2 e3 e4 e5 e6 e7 e8
    go_simp
    have hz : ¬ 9223372036854775807 < (decS q).size + (mkS [dgB x]).size := by have := HZ.out; omega
    go_wp2
    go_ret
    refine ⟨?_, HE.out⟩
    rw [← HD.out]
    rfl
theorem plain56 (u : Nat) : u < 18446744073709551616 → ∀ w, Calls Tryz.prog 69 #[.int .u64 (u : Int)] w fun e w' => e = .returned (.string (decS u)) ∧ Below w.heap.size w w' := by
  induction u using Nat.strongRecOn with
  | _ u ih =>
    intro h64 w
    by_cases hu : u < 10
    · exact plain56_small u hu w
    · exact plain56_step u hu h64 (fun q hq w => ih q hq (by omega) w) w

def itS (n : Int) : ByteArray := mkS (Lib.itoa n)
theorem itS_pos (u : Nat) : itS (u : Int) = decS u := by
  unfold itS Lib.itoa decS
  rw [if_neg (by omega)]
  rfl
theorem itS_neg (u : Nat) (h : 0 < u) : itS (-(u : Int)) = (⟨#[45]⟩ : ByteArray) ++ decS u := by
  unfold itS Lib.itoa decS mkS
  rw [if_pos (by omega), show (-(u : Int)).natAbs = u by omega, show (⟨#[45]⟩ : ByteArray) = ⟨[45].toArray⟩ from rfl, mk_append]
  rfl
set_option maxRecDepth 100000 in
set_option maxHeartbeats 1600000 in
theorem refDigits30 (n : Int) (h0 : -9223372036854775808 ≤ n) (h1 : n ≤ 9223372036854775807) (w : World) :
    Calls Tryz.prog 47 #[.int .i64 n] w fun e w' => e = .returned (.string (itS n)) ∧ Below w.heap.size w w' := by
  by_cases hn : n < 0
  · obtain ⟨u, hu⟩ : ∃ u : Nat, u = n.natAbs := ⟨_, rfl⟩
    have hnu : n = -(u : Int) := by omega
    have HS := Lib.hid (show itS n = (⟨#[45]⟩ : ByteArray) ++ decS u by rw [hnu]; exact itS_neg u (by omega))
    have hz : ¬ 9223372036854775807 < 1 + (decS u).size := by have := decS_size u (by omega); omega
    have HP := Lib.hid (plain56 u (by omega))
    have g1 : IntKind.u64.wrap (-(n + 1)) = -(n + 1) := by simp [IntKind.wrap, IntKind.bits, IntKind.signed]; omega
    have g2 : IntKind.u64.wrap (-(n + 1) + 1) = (u : Int) := by simp [IntKind.wrap, IntKind.bits, IntKind.signed]; omega
    clear hu hnu
    go_enter Tryz.func47, Tryz.ntmps47
    go_wp2_with (go_at_call 69; refine (HP.out _).mono ?_; rintro e w1 ⟨rfl, hb⟩; have H1 := Lib.hid hb; clear hb)
    go_ret
    exact ⟨by rw [HS.out]; rfl, H1.out⟩
  · obtain ⟨u, rfl⟩ : ∃ u : Nat, n = (u : Int) := ⟨n.toNat, by omega⟩
    have HP := Lib.hid (plain56 u (by omega))
    have g1 : IntKind.u64.wrap (u : Int) = (u : Int) := by simp [IntKind.wrap, IntKind.bits, IntKind.signed]; omega
    rw [itS_pos]
    go_enter Tryz.func47, Tryz.ntmps47
    go_wp2_with (go_at_call 69; refine (HP.out _).mono ?_; rintro e w1 ⟨rfl, hb⟩; have H1 := Lib.hid hb; clear hb)
    go_ret
    exact ⟨rfl, H1.out⟩
end Go.Proofs.YtecalodcbkljoaaGreatDoor
namespace Go.Proofs.YtecalodcbkljoaaGreatDoor
open Go.RowKit
theorem cell_below {w w' : World} {a : Addr} {v : Value} (h : w.cell? a = some v) (hb : Below w.heap.size w w') : w'.cell? a = some v := (hb.cell (block_lt_of_cell h)).trans h
set_option maxRecDepth 100000 in
set_option maxHeartbeats 1600000 in
theorem refHex34 (A : Option Addr) (c n : Nat) (xs : List UInt8) (w : World) (hn : xs.length = n) (hx : Sl w c1 A xs) (hm : n ≤ 1073741824) :
    Calls Tryz.prog 48 #[.slice A n c] w fun e w' => e = .returned (.string ⟨(hexL xs).toArray⟩) ∧ Below w.heap.size w w' := by
  subst hn
  have HX := Lib.hid (And.intro hx trivial)
  have HL := Lib.hid hm
  clear hx
  go_enter Tryz.func48, Tryz.ntmps48
  go_wp2_with fail
  go_loopw [3, 4] (fun v i wr => ∃ k : Nat, k ≤ xs.length ∧ i = .int .i64 k ∧ Below w.heap.size w wr ∧ Own wr w.heap.size 5 1 c1 v (hexL (xs.take k))) (fun _ i _ => xs.length - (intOf i).toNat)
  case atStart => exact ⟨0, Nat.zero_le _, rfl, Below.refl _ _, Own.nil _ _ _ _ _⟩
  case round =>
    obtain ⟨k, hk, rfl, hb, ho⟩ := hrel
    have HO := Lib.hid (And.intro hb ho)
    by_cases hlt : k < xs.length
    · obtain ⟨ad, rfl, hcell⟩ := Sl.byte (HX.out.1.keep hb) hlt
      obtain ⟨x, hx⟩ : ∃ x, xs[k] = x := ⟨_, rfl⟩
      rw [hx] at hcell
      obtain ⟨p, hp⟩ : ∃ p, p = x.toNat / 16 := ⟨_, rfl⟩
      obtain ⟨q, hq⟩ : ∃ q, q = x.toNat % 16 := ⟨_, rfl⟩
      have hx8 := x.toNat_lt
      have HC := Lib.hid (And.intro (show p < 16 by omega) (And.intro (show q < 16 by omega) (And.intro (show (x.toNat : Int) / 16 = (p : Int) by omega) (show ((x.toNat : Int)).tmod 16 = (q : Int) by rw [Int.tmod_eq_emod_of_nonneg (by omega)]; omega))))
      have HU := Lib.hid (show (hexL (xs.take k)).length ≤ 2 * xs.length by rw [hexL_length, List.length_take]; omega)
      have HX2 := Lib.hid (show hexL (xs.take (k + 1)) = hexL (xs.take k) ++ [dig16 p HC.out.1, dig16 q HC.out.2.1] by
        rw [dig16_eq, dig16_eq, hp, hq, List.take_succ_eq_append_getElem hlt, hx]
        unfold hexL
        rw [List.flatMap_append, List.flatMap_singleton]
        rfl)
      clear hb ho hp hq hx hx8
      go_wp2_with fail
      refine AnyO.wp_any_tail 14 (by kernel_rfl) (by kernel_rfl) (by kernel_rfl) (by kernel_rfl) (by kernel_rfl) (by kernel_rfl) (pstP [isV (u3), isV (.slice (some ad) xs.length c), isV (.int .i64 (k : Int)), isV (.pointer (some (ad.add k))), isV (vB x), isV (.int .u8 (p : Int)), isV (vB (dig16 p HC.out.1)), isV (.slice (some ad) xs.length c), isV (.int .i64 (k : Int)), isV (.pointer (some (ad.add k))), isV (vB x), isV (.int .u8 (q : Int)), isV (vB (dig16 q HC.out.2.1)), isSlB [dig16 p HC.out.1, dig16 q HC.out.2.1]]) (MonoL.cons (Mono.v _) (MonoL.cons (Mono.v _) (MonoL.cons (Mono.v _) (MonoL.cons (Mono.v _) (MonoL.cons (Mono.v _) (MonoL.cons (Mono.v _) (MonoL.cons (Mono.v _) (MonoL.cons (Mono.v _) (MonoL.cons (Mono.v _) (MonoL.cons (Mono.v _) (MonoL.cons (Mono.v _) (MonoL.cons (Mono.v _) (MonoL.cons (Mono.v _) (MonoL.cons (Mono.slB _) MonoL.nil)))))))))))))) ?_ ?_
      · intro i hi
        have hi2 : i = 0 ∨ i = 1 ∨ i = 2 ∨ i = 3 ∨ i = 4 ∨ i = 5 ∨ i = 6 ∨ i = 7 ∨ i = 8 ∨ i = 9 ∨ i = 10 ∨ i = 11 ∨ i = 12 ∨ i = 13 := by omega
        clear hi
        rcases hi2 with rfl | rfl | rfl | rfl | rfl | rfl | rfl | rfl | rfl | rfl | rfl | rfl | rfl | rfl
        · -- 0: Op.move (Operand.tmp 3)
          refine AnyO.Step.mk rfl [] (by kernel_rfl) ?_
          intro vs u hE hp ac hb K hK
          have s3 : ac.tmps[3]?.getD undef = u3 := by rw [hb]; kernel_rfl
          rw [if_pos (AnyO.wanted_none rfl)]
          clear hb hp
          go_simp
          exact hK _ _ (Below.refl _ _) rfl
        · -- 1: Op.move (Operand.tmp 0)
          refine AnyO.Step.mk rfl [] (by kernel_rfl) ?_
          intro vs u hE hp ac hb K hK
          have s0 : ac.tmps[0]?.getD undef = .slice (some ad) xs.length c := by rw [hb]; kernel_rfl
          rw [if_pos (AnyO.wanted_none rfl)]
          clear hb hp
          go_simp
          exact hK _ _ (Below.refl _ _) rfl
        · -- 2: Op.move (Operand.tmp 4)
          refine AnyO.Step.mk rfl [] (by kernel_rfl) ?_
          intro vs u hE hp ac hb K hK
          have s4 : ac.tmps[4]?.getD undef = .int .i64 (k : Int) := by rw [hb]; kernel_rfl
          rw [if_pos (AnyO.wanted_none rfl)]
          clear hb hp
          go_simp
          exact hK _ _ (Below.refl _ _) rfl
        · -- 3: Op.indexAddr 47 (Operand.tmp 12) (Operand.tmp 13)
          refine AnyO.Step.mk rfl [1, 2] (by kernel_rfl) ?_
          intro vs u hE hp ac hb K hK
          have s12 : ac.tmps[12]?.getD undef = .slice (some ad) xs.length c := by rw [hb]; exact (show _ = vs 1 by kernel_rfl).trans (hp 1 (by decide))
          have s13 : ac.tmps[13]?.getD undef = .int .i64 (k : Int) := by rw [hb]; exact (show _ = vs 2 by kernel_rfl).trans (hp 2 (by decide))
          rw [if_pos (AnyO.wanted_none rfl)]
          clear hb hp
          have r1 : (k : Int) < (xs.length : Int) := by omega
          go_simp
          exact hK _ _ (Below.refl _ _) rfl
        · -- 4: Op.load 5 (Operand.tmp 14)
          refine AnyO.Step.mk rfl [3] (by kernel_rfl) ?_
          intro vs u hE hp ac hb K hK
          have s14 : ac.tmps[14]?.getD undef = .pointer (some (ad.add k)) := by rw [hb]; exact (show _ = vs 3 by kernel_rfl).trans (hp 3 (by decide))
          rw [if_pos (AnyO.wanted_none rfl)]
          clear hb hp
          have r1 := cell_below hcell (Below.step (below_drew wr) hE)
          go_simp
          exact hK _ _ (Below.refl _ _) rfl
        · -- 5: Op.binOp BinOp.quo 5 (Operand.tmp 15) (Operand.const (Value.
          refine AnyO.Step.mk rfl [4] (by kernel_rfl) ?_
          intro vs u hE hp ac hb K hK
          have s15 : ac.tmps[15]?.getD undef = vB x := by rw [hb]; exact (show _ = vs 4 by kernel_rfl).trans (hp 4 (by decide))
          rw [if_pos (AnyO.wanted_none rfl)]
          clear hb hp
          have r1 := HC.out.2.2.1
          have r2 : IntKind.u8.wrap (p : Int) = (p : Int) := by have := HC.out.1; simp [IntKind.wrap, IntKind.bits, IntKind.signed]; omega
          go_simp
          exact hK _ _ (Below.refl _ _) rfl
        · -- 6: Op.index 9 (Operand.const (Value.string { data := #[48, 49, 
          refine AnyO.Step.mk rfl [5] (by kernel_rfl) ?_
          intro vs u hE hp ac hb K hK
          have s16 : ac.tmps[16]?.getD undef = .int .u8 (p : Int) := by rw [hb]; exact (show _ = vs 5 by kernel_rfl).trans (hp 5 (by decide))
          rw [if_pos (AnyO.wanted_none rfl)]
          clear hb hp
          have r1 : (p : Int) < 16 := by have := HC.out.1; omega
          go_simp
          exact hK _ _ (Below.refl _ _) rfl
        · -- 7: Op.move (Operand.tmp 0)
          refine AnyO.Step.mk rfl [] (by kernel_rfl) ?_
          intro vs u hE hp ac hb K hK
          have s0 : ac.tmps[0]?.getD undef = .slice (some ad) xs.length c := by rw [hb]; kernel_rfl
          rw [if_pos (AnyO.wanted_none rfl)]
          clear hb hp
          go_simp
          exact hK _ _ (Below.refl _ _) rfl
        · -- 8: Op.move (Operand.tmp 4)
          refine AnyO.Step.mk rfl [] (by kernel_rfl) ?_
          intro vs u hE hp ac hb K hK
          have s4 : ac.tmps[4]?.getD undef = .int .i64 (k : Int) := by rw [hb]; kernel_rfl
          rw [if_pos (AnyO.wanted_none rfl)]
          clear hb hp
          go_simp
          exact hK _ _ (Below.refl _ _) rfl
        · -- 9: Op.indexAddr 47 (Operand.tmp 18) (Operand.tmp 19)
          refine AnyO.Step.mk rfl [7, 8] (by kernel_rfl) ?_
          intro vs u hE hp ac hb K hK
          have s18 : ac.tmps[18]?.getD undef = .slice (some ad) xs.length c := by rw [hb]; exact (show _ = vs 7 by kernel_rfl).trans (hp 7 (by decide))
          have s19 : ac.tmps[19]?.getD undef = .int .i64 (k : Int) := by rw [hb]; exact (show _ = vs 8 by kernel_rfl).trans (hp 8 (by decide))
          rw [if_pos (AnyO.wanted_none rfl)]
          clear hb hp
          have r1 : (k : Int) < (xs.length : Int) := by omega
          go_simp
          exact hK _ _ (Below.refl _ _) rfl
        · -- 10: Op.load 5 (Operand.tmp 20)
          refine AnyO.Step.mk rfl [9] (by kernel_rfl) ?_
          intro vs u hE hp ac hb K hK
          have s20 : ac.tmps[20]?.getD undef = .pointer (some (ad.add k)) := by rw [hb]; exact (show _ = vs 9 by kernel_rfl).trans (hp 9 (by decide))
          rw [if_pos (AnyO.wanted_none rfl)]
          clear hb hp
          have r1 := cell_below hcell (Below.step (below_drew wr) hE)
          go_simp
          exact hK _ _ (Below.refl _ _) rfl
        · -- 11: Op.binOp BinOp.rem 5 (Operand.tmp 21) (Operand.const (Value.
          refine AnyO.Step.mk rfl [10] (by kernel_rfl) ?_
          intro vs u hE hp ac hb K hK
          have s21 : ac.tmps[21]?.getD undef = vB x := by rw [hb]; exact (show _ = vs 10 by kernel_rfl).trans (hp 10 (by decide))
          rw [if_pos (AnyO.wanted_none rfl)]
          clear hb hp
          have r1 := HC.out.2.2.2
          go_simp
          exact hK _ _ (Below.refl _ _) rfl
        · -- 12: Op.index 9 (Operand.const (Value.string { data := #[48, 49, 
          refine AnyO.Step.mk rfl [11] (by kernel_rfl) ?_
          intro vs u hE hp ac hb K hK
          have s22 : ac.tmps[22]?.getD undef = .int .u8 (q : Int) := by rw [hb]; exact (show _ = vs 11 by kernel_rfl).trans (hp 11 (by decide))
          rw [if_pos (AnyO.wanted_none rfl)]
          clear hb hp
          have r1 : (q : Int) < 16 := by have := HC.out.2.1; omega
          go_simp
          exact hK _ _ (Below.refl _ _) rfl
        · -- 13: Op.buildSlice 47 2 #[(0, Operand.tmp 17), (1, Operand.tmp 23
          refine AnyO.Step.mk rfl [6, 12] (by kernel_rfl) ?_
          intro vs u hE hp ac hb K hK
          have s17 : ac.tmps[17]?.getD undef = vB (dig16 p HC.out.1) := by rw [hb]; exact (show _ = vs 6 by kernel_rfl).trans (hp 6 (by decide))
          have s23 : ac.tmps[23]?.getD undef = vB (dig16 q HC.out.2.1) := by rw [hb]; exact (show _ = vs 12 by kernel_rfl).trans (hp 12 (by decide))
          rw [if_pos (AnyO.wanted_none rfl)]
          clear hb hp
          go_simp
          exact hK _ _ (below_alloc _ _) ⟨_, _, _, rfl, rfl, Nat.le_refl _, sl_newBs u [dig16 p HC.out.1, dig16 q HC.out.2.1]⟩
      · intro vs u hE hp
        have e0 : vs 0 = u3 := hp 0 (by decide)
        have e1 : vs 1 = .slice (some ad) xs.length c := hp 1 (by decide)
        have e2 : vs 2 = .int .i64 (k : Int) := hp 2 (by decide)
        have e3 : vs 3 = .pointer (some (ad.add k)) := hp 3 (by decide)
        have e4 : vs 4 = vB x := hp 4 (by decide)
        have e5 : vs 5 = .int .u8 (p : Int) := hp 5 (by decide)
        have e6 : vs 6 = vB (dig16 p HC.out.1) := hp 6 (by decide)
        have e7 : vs 7 = .slice (some ad) xs.length c := hp 7 (by decide)
        have e8 : vs 8 = .int .i64 (k : Int) := hp 8 (by decide)
        have e9 : vs 9 = .pointer (some (ad.add k)) := hp 9 (by decide)
        have e10 : vs 10 = vB x := hp 10 (by decide)
        have e11 : vs 11 = .int .u8 (q : Int) := hp 11 (by decide)
        have e12 : vs 12 = vB (dig16 q HC.out.2.1) := hp 12 (by decide)
        obtain ⟨A_13, n_13, c_13, e13, h_13⟩ := show isSlB [dig16 p HC.out.1, dig16 q HC.out.2.1] (vs 13) u from hp 13 (by decide)
        clear hp
        have HE := Lib.hid (And.intro hE h_13); clear hE h_13
        rw [puts_range [some 11, some 12, some 13, some 14, some 15, some 16, some 17, some 18, some 19, some 20, some 21, some 22, some 23, some 24] (by kernel_rfl)]
        simp only [putL, Nat.reduceAdd, List.drop_succ_cons, List.drop_zero, e0, e1, e2, e3, e4, e5, e6, e7, e8, e9, e10, e11, e12, e13]
        clear e0 e1 e2 e3 e4 e5 e6 e7 e8 e9 e10 e11 e12 e13
        go_simp
        go_wp2_with (at_builtin; refine wpList_append_sl _ rfl (.tmp 11) (.tmp 24) 47 rfl w.heap.size 5 1 1 c1 underBs rowB (by decide) c1_length c1_one u3 (hexL (xs.take k)) rfl (Own.keep HO.out.2 HE.out.1) _ _ _ [dig16 p HC.out.1, dig16 q HC.out.2.1] HE.out.2.1 rfl HE.out.2.2.2 (by have := HL.out; have := HU.out; have : 2 = n_13 := HE.out.2.1; omega) (by have := HL.out; have := HU.out; have : 2 = n_13 := HE.out.2.1; omega) (by have := HO.out.1.size; have := HE.out.1.size; omega) ?_)
        intro v2 w2 ho hg
        have hb2 := Own.grew (Own.keep HO.out.2 HE.out.1) hg (HO.out.1.trans (HE.out.1.mono HO.out.1.size)) (Nat.le_refl _) (by have := HO.out.1.size; have := HE.out.1.size; omega)
        have H2 := Lib.hid (And.intro hb2 ho); clear hb2 ho hg
        go_wp2
        go_roundw
        case rel => exact ⟨k + 1, by omega, by go_num, H2.out.1, by rw [HX2.out]; exact H2.out.2⟩
        case measure => simp [intOf] <;> omega
    · have hkn : k = xs.length := by omega
      subst hkn
      rw [List.take_length] at ho
      obtain ⟨A2, cc, rfl, hc, hs⟩ := ho.sl
      obtain ⟨n2, hn2⟩ : ∃ n2, (hexL xs).length = n2 := ⟨_, rfl⟩
      rw [hn2]
      have hcv := conv_any (c := cc) hs hn2
      clear hb ho hc hs hn2
      go_wp2
      go_ret
      exact ⟨rfl, HO.out.1⟩
end Go.Proofs.YtecalodcbkljoaaGreatDoor
