/- Identity of the reference: the identity of a message identifier. -/
import Derived.Test.YtcchpenaiomeeaaMidNo
namespace Go.Proofs.Ytcchpenaiomeeaa
open Go.RowKit
def identR (l : List UInt8) : Id × Bool := if identB l = true then (midL l, true) else (zI, false)
theorem identR_yes {l : List UInt8} (h : identB l = true) : identR l = (midL l, true) := by unfold identR; rw [if_pos h]
theorem identR_no {l : List UInt8} (h : identB l = false) : identR l = (zI, false) := by unfold identR; rw [if_neg (by simp [h])]
theorem okAt_end (l : List UInt8) (h : l.length = 6) : (∀ j (hj : j < 6), l[j].toNat = [64, 104, 97, 115, 104, 62].getD j 0) ↔ l = [64, 104, 97, 115, 104, 62] := by
  match l, h with
  | [a, b, c, d, e, f], _ =>
    constructor
    · intro h
      have h0 := h 0 (by omega)
      have h1 := h 1 (by omega)
      have h2 := h 2 (by omega)
      have h3 := h 3 (by omega)
      have h4 := h 4 (by omega)
      have h5 := h 5 (by omega)
      simp at h0 h1 h2 h3 h4 h5
      simp [← UInt8.toNat_inj, h0, h1, h2, h3, h4, h5]
    · intro h j hj
      simp only [List.cons.injEq, and_true] at h
      obtain ⟨rfl, rfl, rfl, rfl, rfl, rfl⟩ := h
      match j, hj with
      | 0, _ => rfl
      | 1, _ => rfl
      | 2, _ => rfl
      | 3, _ => rfl
      | 4, _ => rfl
      | 5, _ => rfl
theorem drop65_get {s : ByteArray} (hz : s.size = 71) (j : Nat) (hj : j < 6) : ((bl s).drop 65)[j]'(by rw [List.length_drop, bl_length]; omega) = s[65 + j]'(by omega) := by
  rw [List.getElem_drop]
  rfl
theorem AllOk.mk71 {s : ByteArray} (hz : s.size = 71) (h0 : (s[0]'(by omega)).toNat = 60) (h1 : (bl s).drop 65 = [64, 104, 97, 115, 104, 62]) (h2 : ∀ j (h : 1 + j < s.size), j < 64 → hexB s[1 + j] = true) : identB (bl s) = true := by
  refine AllOk.ident s hz fun j hj hlt => ?_
  unfold okAt
  by_cases c1 : j < 1
  · rw [if_pos c1]
    obtain rfl : j = 0 := by omega
    simp [h0]
  · rw [if_neg c1]
    by_cases c2 : j < 65
    · rw [if_pos c2]
      have := h2 (j - 1) (by omega) (by omega)
      simpa [show 1 + (j - 1) = j by omega] using this
    · rw [if_neg c2]
      have := (okAt_end ((bl s).drop 65) (by rw [List.length_drop, bl_length]; omega)).2 h1 (j - 65) (by omega)
      rw [drop65_get hz (j - 65) (by omega)] at this
      simpa [show 65 + (j - 65) = j by omega] using this
theorem identB_parts {s : ByteArray} (h : identB (bl s) = true) : s.size = 71 ∧ (∀ hz : 0 < s.size, s[0].toNat = 60) ∧ (bl s).drop 65 = [64, 104, 97, 115, 104, 62] := by
  have hz := identB_size h
  refine ⟨hz, fun h0 => ?_, ?_⟩
  · have := identB_at h 0 (by omega) h0
    unfold okAt at this
    rw [if_pos (by omega)] at this
    simpa using this
  · refine (okAt_end _ (by rw [List.length_drop, bl_length]; omega)).1 fun j hj => ?_
    rw [drop65_get hz j hj]
    have := identB_at h (65 + j) (by omega) (by omega)
    unfold okAt at this
    rw [if_neg (by omega), if_neg (by omega)] at this
    simpa using this
def RidP (w : World) (s : ByteArray) (e : Ending) (w' : World) : Prop := e = .returned (.tuple #[vI (identR (bl s)).1, .bool (identR (bl s)).2]) ∧ Below w.heap.size w w'
/-- The identity of k bytes, the others zero. -/
def partI (l : List UInt8) (k : Nat) : Id := if h : (unhexL (((l.drop 1).take (2 * k))) ++ List.replicate (32 - k) 0).length = 32 then ⟨_, h⟩ else zI
theorem partI_zero (l : List UInt8) : partI l 0 = zI := rfl
theorem part_len {l : List UInt8} (hl : l.length = 71) {k : Nat} (hk : k ≤ 32) : (unhexL ((l.drop 1).take (2 * k))).length = k :=
  unhexL_length k _ (by rw [List.length_take, List.length_drop]; omega)
theorem partI_val {l : List UInt8} (hl : l.length = 71) {k : Nat} (hk : k ≤ 32) : (partI l k).1 = unhexL ((l.drop 1).take (2 * k)) ++ List.replicate (32 - k) 0 := by
  unfold partI
  rw [dif_pos (by rw [List.length_append, part_len hl hk, List.length_replicate]; omega)]
theorem partI_last {l : List UInt8} (hl : l.length = 71) : partI l 32 = midL l := by
  have h := partI_val hl (Nat.le_refl 32)
  apply Subtype.ext
  rw [h]
  unfold midL toId
  rw [dif_pos (part_len hl (Nat.le_refl 32))]
  simp
theorem partI_step {s : ByteArray} (hz : s.size = 71) {k : Nat} (hk : k < 32) : cI (partI (bl s) (k + 1)) = (cI (partI (bl s) k)).set k (vB (pairV (s[1 + 2 * k]'(by omega)) (s[2 + 2 * k]'(by omega)))) := by
  have hl : (bl s).length = 71 := by rw [bl_length]; exact hz
  have h1 : ((bl s).drop 1).take (2 * (k + 1)) = ((bl s).drop 1).take (2 * k) ++ [s[1 + 2 * k]'(by omega), s[2 + 2 * k]'(by omega)] := by
    rw [show 2 * (k + 1) = 2 * k + 1 + 1 by omega, List.take_succ_eq_append_getElem (by rw [List.length_drop]; omega), List.take_succ_eq_append_getElem (by rw [List.length_drop]; omega), List.append_assoc]
    congr 1
    simp only [List.getElem_drop, List.singleton_append, List.cons.injEq, and_true]
    refine ⟨rfl, ?_⟩
    have : 1 + (2 * k + 1) = 2 + 2 * k := by omega
    simp only [this]
    rfl
  have h2 := unhexL_append k (((bl s).drop 1).take (2 * k)) (s[1 + 2 * k]'(by omega)) (s[2 + 2 * k]'(by omega)) (by rw [List.length_take, List.length_drop]; omega)
  have h3 : List.replicate (32 - k) (0 : UInt8) = 0 :: List.replicate (32 - (k + 1)) 0 := by rw [show 32 - k = (32 - (k + 1)) + 1 by omega, List.replicate_succ]
  unfold cI
  rw [partI_val hl (by omega : k + 1 ≤ 32), partI_val hl (by omega : k ≤ 32), h1, h2, h3, show vB (pairV (s[1 + 2 * k]'(by omega)) (s[2 + 2 * k]'(by omega))) = cB (pairV (s[1 + 2 * k]'(by omega)) (s[2 + 2 * k]'(by omega))) from rfl, ← List.map_set]
  congr 1
  rw [List.set_append_right _ _ (by rw [part_len hl (by omega)]; exact Nat.le_refl _), part_len hl (by omega), Nat.sub_self, List.set_cons_zero, List.append_assoc, List.singleton_append]
theorem hexI_neg {c : UInt8} (h : hexB c = false) : hexI c = -1 := by unfold hexI; rw [if_neg (by simp [h])]
theorem hexI_pos {c : UInt8} (h : hexB c = true) : hexI c = (hexV c : Int) := by unfold hexI; rw [if_pos h]
theorem wrap_pair {a b : UInt8} (ha : hexB a = true) (hb : hexB b = true) : IntKind.u8.wrap (16 * (hexV a : Int) + (hexV b : Int)) = ((pairV a b).toNat : Int) := by
  rw [pairV_toNat ha hb]
  have h1 := hexV_lt a ha
  have h2 := hexV_lt b hb
  simp [IntKind.wrap, IntKind.bits, IntKind.signed]; omega
set_option maxRecDepth 100000 in
set_option maxHeartbeats 1600000 in
theorem rid_any (s : ByteArray) (w : World) (_hs : s.size ≤ 4294967296) : Calls Try.prog 48 #[.string s] w (RidP w s) := by
  have HB := Lib.hid (below_alloc w (.cells (aI zI) 38))
  have HB2 := Lib.hid (Below.step HB.out (below_alloc (w.alloc (.cells (aI zI) 38)) (.cells (aI zI) 38)))
  by_cases hz : s.size = 71
  case neg =>
    have hq : ((s.size : Int) != 71) = true := by simp; omega
    have HN := Lib.hid (identR_no (l := bl s) (Bool.eq_false_iff.2 fun h => hz (identB_size h)))
    clear hz
    go_enter Try.func48, Try.ntmps48
    go_wp2
    have hld := load_id2 (at_new w (cI zI) 38 w.heap.size rfl |>.keep (below_alloc (w.alloc (.cells (aI zI) 38)) (.cells (aI zI) 38)))
    exact bodyPost_ret (v := .tuple #[vI zI, .bool false]) (results_c2 (ad := ⟨w.heap.size, 0, none⟩) rfl rfl hld rfl) rfl ⟨by rw [HN.out], HB2.out⟩
  by_cases h0 : (s[0]'(by omega)).toNat = 60
  case neg =>
    have hq : ¬ ((s[0]'(by omega)).toNat : Int) = 60 := by omega
    have HN := Lib.hid (identR_no (l := bl s) (Bool.eq_false_iff.2 fun h => h0 ((identB_parts h).2.1 (by omega))))
    clear h0
    go_enter Try.func48, Try.ntmps48
    go_wp2
    have hld := load_id2 (at_new w (cI zI) 38 w.heap.size rfl |>.keep (below_alloc (w.alloc (.cells (aI zI) 38)) (.cells (aI zI) 38)))
    exact bodyPost_ret (v := .tuple #[vI zI, .bool false]) (results_c2 (ad := ⟨w.heap.size, 0, none⟩) rfl rfl hld rfl) rfl ⟨by rw [HN.out], HB2.out⟩
  have hq : ((s[0]'(by omega)).toNat : Int) = 60 := by omega
  have hex : (s.extract 65 71).toList = (bl s).drop 65 := by
    rw [Lib.extract_toList, List.take_of_length_le (by rw [List.length_drop, bl_length]; omega)]
  by_cases h1 : (bl s).drop 65 = [64, 104, 97, 115, 104, 62]
  case neg =>
    have hq2 : (!(s.extract 65 71).toList == [64, 104, 97, 115, 104, 62]) = true := by rw [hex]; simp [h1]
    have HN := Lib.hid (identR_no (l := bl s) (Bool.eq_false_iff.2 fun h => h1 (identB_parts h).2.2))
    clear h1 h0 hex
    go_enter Try.func48, Try.ntmps48
    go_wp2
    have hld := load_id2 (at_new w (cI zI) 38 w.heap.size rfl |>.keep (below_alloc (w.alloc (.cells (aI zI) 38)) (.cells (aI zI) 38)))
    exact bodyPost_ret (v := .tuple #[vI zI, .bool false]) (results_c2 (ad := ⟨w.heap.size, 0, none⟩) rfl rfl hld rfl) rfl ⟨by rw [HN.out], HB2.out⟩
  have hq2 : (!(s.extract 65 71).toList == [64, 104, 97, 115, 104, 62]) = false := by rw [hex]; simp [h1]
  have HM := Lib.hid (And.intro h0 h1)
  clear hex h0 h1
  go_enter Try.func48, Try.ntmps48
  go_wp2
  go_loopw [5] (fun i wr => ∃ k : Nat, k ≤ 32 ∧ i = .int .i64 k ∧ (∀ j (h : 1 + j < s.size), j < 2 * k → hexB s[1 + j] = true) ∧ Below w.heap.size w wr ∧ rowOk wr w.heap.size 32 = true ∧ rowOk wr (w.heap.size + 1) 32 = true ∧ At wr ⟨w.heap.size + 1, 0, none⟩ (cI (partI (bl s) k))) (fun i _ => 32 - (intOf i).toNat)
  case atStart => exact ⟨0, Nat.zero_le _, rfl, fun j _ h => absurd h (by omega), HB2.out, rowOk_kept (rowOk_newI w zI 38 w.heap.size rfl) (below_alloc _ _), rowOk_newI _ zI 38 _ (by simp), at_new _ (cI zI) 38 _ (by simp)⟩
  case round =>
    obtain ⟨k, hk, rfl, ha, hb, hr1, hr2, hat⟩ := hrel
    have HA := Lib.hid (And.intro ha (And.intro hb (And.intro hr1 (And.intro hr2 hat)))); clear ha hb hr1 hr2 hat
    by_cases hlt : k < 32
    · have h71 : 1 + 2 * k < s.size := by omega
      have h72 : 2 + 2 * k < s.size := by omega
      have HR := Lib.hid (And.intro (show IntKind.i64.wrap (2 * (k : Int)) = 2 * (k : Int) from IntWalk.i64_in _ (by omega)) (And.intro (show IntKind.i64.wrap (1 + 2 * (k : Int)) = 1 + 2 * (k : Int) from IntWalk.i64_in _ (by omega)) (show IntKind.i64.wrap (2 + 2 * (k : Int)) = 2 + 2 * (k : Int) from IntWalk.i64_in _ (by omega))))
      go_wp2_with fail
      refine AnyO.wp_any_tail 12 (by kernel_rfl) (by kernel_rfl) (by kernel_rfl) (by kernel_rfl) (by kernel_rfl) (by kernel_rfl) (pstP [isV (.string s), isV (.int .i64 (k : Int)), isV (.int .i64 (2 * (k : Int))), isV (.int .i64 (1 + 2 * (k : Int))), isV (vB (s[1 + 2 * k]'h71)), isV (.int .i64 (hexI (s[1 + 2 * k]'h71))), isV (.string s), isV (.int .i64 (k : Int)), isV (.int .i64 (2 * (k : Int))), isV (.int .i64 (2 + 2 * (k : Int))), isV (vB (s[2 + 2 * k]'h72)), isV (.int .i64 (hexI (s[2 + 2 * k]'h72)))]) (MonoL.cons (Mono.v _) (MonoL.cons (Mono.v _) (MonoL.cons (Mono.v _) (MonoL.cons (Mono.v _) (MonoL.cons (Mono.v _) (MonoL.cons (Mono.v _) (MonoL.cons (Mono.v _) (MonoL.cons (Mono.v _) (MonoL.cons (Mono.v _) (MonoL.cons (Mono.v _) (MonoL.cons (Mono.v _) (MonoL.cons (Mono.v _) MonoL.nil)))))))))))) ?_ ?_
      · intro i hi
        have hi2 : i = 0 ∨ i = 1 ∨ i = 2 ∨ i = 3 ∨ i = 4 ∨ i = 5 ∨ i = 6 ∨ i = 7 ∨ i = 8 ∨ i = 9 ∨ i = 10 ∨ i = 11 := by omega
        clear hi
        rcases hi2 with rfl | rfl | rfl | rfl | rfl | rfl | rfl | rfl | rfl | rfl | rfl | rfl
        · -- 0: Op.move (Operand.tmp 0)
          refine AnyO.Step.mk rfl [] (by kernel_rfl) ?_
          intro vs u hE hp ac hb K hK
          have s0 : ac.tmps[0]?.getD undef = .string s := by rw [hb]; kernel_rfl
          rw [if_pos (AnyO.wanted_none rfl)]
          clear hb hp
          go_simp
          exact hK _ _ (Below.refl _ _) rfl
        · -- 1: Op.move (Operand.tmp 5)
          refine AnyO.Step.mk rfl [] (by kernel_rfl) ?_
          intro vs u hE hp ac hb K hK
          have s5 : ac.tmps[5]?.getD undef = .int .i64 (k : Int) := by rw [hb]; kernel_rfl
          rw [if_pos (AnyO.wanted_none rfl)]
          clear hb hp
          go_simp
          exact hK _ _ (Below.refl _ _) rfl
        · -- 2: Op.binOp BinOp.mul 3 (Operand.const (Value.int IntKind.i64 2
          refine AnyO.Step.mk rfl [1] (by kernel_rfl) ?_
          intro vs u hE hp ac hb K hK
          have s27 : ac.tmps[27]?.getD undef = .int .i64 (k : Int) := by rw [hb]; exact (show _ = vs 1 by kernel_rfl).trans (hp 1 (by decide))
          rw [if_pos (AnyO.wanted_none rfl)]
          clear hb hp
          have r1 := HR.out.1
          go_simp
          exact hK _ _ (Below.refl _ _) rfl
        · -- 3: Op.binOp BinOp.add 3 (Operand.const (Value.int IntKind.i64 1
          refine AnyO.Step.mk rfl [2] (by kernel_rfl) ?_
          intro vs u hE hp ac hb K hK
          have s28 : ac.tmps[28]?.getD undef = .int .i64 (2 * (k : Int)) := by rw [hb]; exact (show _ = vs 2 by kernel_rfl).trans (hp 2 (by decide))
          rw [if_pos (AnyO.wanted_none rfl)]
          clear hb hp
          have r2 := HR.out.2.1
          go_simp
          exact hK _ _ (Below.refl _ _) rfl
        · -- 4: Op.index 9 (Operand.tmp 26) (Operand.tmp 29)
          refine AnyO.Step.mk rfl [0, 3] (by kernel_rfl) ?_
          intro vs u hE hp ac hb K hK
          have s26 : ac.tmps[26]?.getD undef = .string s := by rw [hb]; exact (show _ = vs 0 by kernel_rfl).trans (hp 0 (by decide))
          have s29 : ac.tmps[29]?.getD undef = .int .i64 (1 + 2 * (k : Int)) := by rw [hb]; exact (show _ = vs 3 by kernel_rfl).trans (hp 3 (by decide))
          rw [if_pos (AnyO.wanted_none rfl)]
          clear hb hp
          have b1 : (0 : Int) ≤ 1 + 2 * (k : Int) := by omega
          have b2 : 1 + 2 * (k : Int) < 71 := by omega
          have b3 : (1 + 2 * (k : Int)).toNat = 1 + 2 * k := by omega
          go_simp
          exact hK _ _ (Below.refl _ _) rfl
        · -- 5: Op.call { callee := Callee.value (Operand.func 56), args := 
          refine AnyO.Step.mk rfl [4] (by kernel_rfl) ?_
          intro vs u hE hp ac hb K hK
          have s30 : ac.tmps[30]?.getD undef = vB (s[1 + 2 * k]'h71) := by rw [hb]; exact (show _ = vs 4 by kernel_rfl).trans (hp 4 (by decide))
          rw [if_pos (AnyO.wanted_none rfl)]
          clear hb hp
          go_simp
          go_at_call 56
          refine (value_r _ u).mono ?_
          rintro e w2 ⟨rfl, rfl⟩
          exact hK _ _ (Below.refl _ _) rfl
        · -- 6: Op.move (Operand.tmp 0)
          refine AnyO.Step.mk rfl [] (by kernel_rfl) ?_
          intro vs u hE hp ac hb K hK
          have s0 : ac.tmps[0]?.getD undef = .string s := by rw [hb]; kernel_rfl
          rw [if_pos (AnyO.wanted_none rfl)]
          clear hb hp
          go_simp
          exact hK _ _ (Below.refl _ _) rfl
        · -- 7: Op.move (Operand.tmp 5)
          refine AnyO.Step.mk rfl [] (by kernel_rfl) ?_
          intro vs u hE hp ac hb K hK
          have s5 : ac.tmps[5]?.getD undef = .int .i64 (k : Int) := by rw [hb]; kernel_rfl
          rw [if_pos (AnyO.wanted_none rfl)]
          clear hb hp
          go_simp
          exact hK _ _ (Below.refl _ _) rfl
        · -- 8: Op.binOp BinOp.mul 3 (Operand.const (Value.int IntKind.i64 2
          refine AnyO.Step.mk rfl [7] (by kernel_rfl) ?_
          intro vs u hE hp ac hb K hK
          have s33 : ac.tmps[33]?.getD undef = .int .i64 (k : Int) := by rw [hb]; exact (show _ = vs 7 by kernel_rfl).trans (hp 7 (by decide))
          rw [if_pos (AnyO.wanted_none rfl)]
          clear hb hp
          have r1 := HR.out.1
          go_simp
          exact hK _ _ (Below.refl _ _) rfl
        · -- 9: Op.binOp BinOp.add 3 (Operand.const (Value.int IntKind.i64 2
          refine AnyO.Step.mk rfl [8] (by kernel_rfl) ?_
          intro vs u hE hp ac hb K hK
          have s34 : ac.tmps[34]?.getD undef = .int .i64 (2 * (k : Int)) := by rw [hb]; exact (show _ = vs 8 by kernel_rfl).trans (hp 8 (by decide))
          rw [if_pos (AnyO.wanted_none rfl)]
          clear hb hp
          have r3 := HR.out.2.2
          go_simp
          exact hK _ _ (Below.refl _ _) rfl
        · -- 10: Op.index 9 (Operand.tmp 32) (Operand.tmp 35)
          refine AnyO.Step.mk rfl [6, 9] (by kernel_rfl) ?_
          intro vs u hE hp ac hb K hK
          have s32 : ac.tmps[32]?.getD undef = .string s := by rw [hb]; exact (show _ = vs 6 by kernel_rfl).trans (hp 6 (by decide))
          have s35 : ac.tmps[35]?.getD undef = .int .i64 (2 + 2 * (k : Int)) := by rw [hb]; exact (show _ = vs 9 by kernel_rfl).trans (hp 9 (by decide))
          rw [if_pos (AnyO.wanted_none rfl)]
          clear hb hp
          have b1 : (0 : Int) ≤ 2 + 2 * (k : Int) := by omega
          have b2 : 2 + 2 * (k : Int) < 71 := by omega
          have b3 : (2 + 2 * (k : Int)).toNat = 2 + 2 * k := by omega
          go_simp
          exact hK _ _ (Below.refl _ _) rfl
        · -- 11: Op.call { callee := Callee.value (Operand.func 56), args := 
          refine AnyO.Step.mk rfl [10, 5] (by kernel_rfl) ?_
          intro vs u hE hp ac hb K hK
          have s36 : ac.tmps[36]?.getD undef = vB (s[2 + 2 * k]'h72) := by rw [hb]; exact (show _ = vs 10 by kernel_rfl).trans (hp 10 (by decide))
          rw [if_pos (AnyO.wanted_none rfl)]
          clear hb hp
          go_simp
          go_at_call 56
          refine (value_r _ u).mono ?_
          rintro e w2 ⟨rfl, rfl⟩
          exact hK _ _ (Below.refl _ _) rfl
      · intro vs u hE hp
        have e0 : vs 0 = .string s := hp 0 (by decide)
        have e1 : vs 1 = .int .i64 (k : Int) := hp 1 (by decide)
        have e2 : vs 2 = .int .i64 (2 * (k : Int)) := hp 2 (by decide)
        have e3 : vs 3 = .int .i64 (1 + 2 * (k : Int)) := hp 3 (by decide)
        have e4 : vs 4 = vB (s[1 + 2 * k]'h71) := hp 4 (by decide)
        have e5 : vs 5 = .int .i64 (hexI (s[1 + 2 * k]'h71)) := hp 5 (by decide)
        have e6 : vs 6 = .string s := hp 6 (by decide)
        have e7 : vs 7 = .int .i64 (k : Int) := hp 7 (by decide)
        have e8 : vs 8 = .int .i64 (2 * (k : Int)) := hp 8 (by decide)
        have e9 : vs 9 = .int .i64 (2 + 2 * (k : Int)) := hp 9 (by decide)
        have e10 : vs 10 = vB (s[2 + 2 * k]'h72) := hp 10 (by decide)
        have e11 : vs 11 = .int .i64 (hexI (s[2 + 2 * k]'h72)) := hp 11 (by decide)
        clear hp
        have HE := Lib.hid hE; clear hE
        have HW := Lib.hid (And.intro (HA.out.2.1.trans (HE.out.mono HA.out.2.1.size)) (And.intro (rowOk_kept HA.out.2.2.1 HE.out) (And.intro (rowOk_kept HA.out.2.2.2.1 HE.out) (HA.out.2.2.2.2.keep HE.out))))
        rw [puts_range [some 26, some 27, some 28, some 29, some 30, some 31, some 32, some 33, some 34, some 35, some 36, some 37] (by kernel_rfl)]
        simp only [putL, Nat.reduceAdd, List.drop_succ_cons, List.drop_zero, e0, e1, e2, e3, e4, e5, e6, e7, e8, e9, e10, e11]
        clear e0 e1 e2 e3 e4 e5 e6 e7 e8 e9 e10 e11
        go_simp
        rcases p1 : hexB (s[1 + 2 * k]'h71) with _ | _
        · have HN := Lib.hid (identR_no (l := bl s) (Bool.eq_false_iff.2 fun h => by have := okAt_hex (identB_at h (1 + 2 * k) (by omega) h71) (by omega) (by omega); rw [p1] at this; cases this))
          have q1 := hexI_neg p1
          have hr1 := HW.out.2.1
          go_wp2
          have hld := load_id2 (at_setRow (cI zI) HW.out.2.1)
          exact bodyPost_ret (v := .tuple #[vI zI, .bool false]) (results_c2 (ad := ⟨w.heap.size, 0, none⟩) rfl rfl hld rfl) rfl ⟨by rw [HN.out], Below.setRow HW.out.1 (Nat.le_refl _) _⟩
        · rcases p2 : hexB (s[2 + 2 * k]'h72) with _ | _
          · have HN := Lib.hid (identR_no (l := bl s) (Bool.eq_false_iff.2 fun h => by have := okAt_hex (identB_at h (2 + 2 * k) (by omega) h72) (by omega) (by omega); rw [p2] at this; cases this))
            have q1 := hexI_pos p1
            have q2 := hexI_neg p2
            have hr1 := HW.out.2.1
            go_wp2
            have hld := load_id2 (at_setRow (cI zI) HW.out.2.1)
            exact bodyPost_ret (v := .tuple #[vI zI, .bool false]) (results_c2 (ad := ⟨w.heap.size, 0, none⟩) rfl rfl hld rfl) rfl ⟨by rw [HN.out], Below.setRow HW.out.1 (Nat.le_refl _) _⟩
          · have q1 := hexI_pos p1
            have q2 := hexI_pos p2
            have q3 := wrap_pair p1 p2
            have q4 : ¬ (hexV (s[1 + 2 * k]'h71) : Int) < 0 := by omega
            have q5 : ¬ (hexV (s[2 + 2 * k]'h72) : Int) < 0 := by omega
            have q6 : IntKind.i64.wrap (16 * (hexV (s[1 + 2 * k]'h71) : Int)) = 16 * (hexV (s[1 + 2 * k]'h71) : Int) := IntWalk.i64_in _ (by have := hexV_lt _ p1; omega)
            have q7 : IntKind.i64.wrap (16 * (hexV (s[1 + 2 * k]'h71) : Int) + (hexV (s[2 + 2 * k]'h72) : Int)) = 16 * (hexV (s[1 + 2 * k]'h71) : Int) + (hexV (s[2 + 2 * k]'h72) : Int) := IntWalk.i64_in _ (by have := hexV_lt _ p1; have := hexV_lt _ p2; omega)
            have hc : u.cell? ⟨w.heap.size + 1, k, none⟩ = some ((cI (partI (bl s) k))[k]'(by rw [cI_length]; exact hlt)) := by
              have := HW.out.2.2.2.2 k _ (List.getElem?_eq_getElem (by rw [cI_length]; exact hlt))
              rwa [show (⟨w.heap.size + 1, 0, none⟩ : Addr).add k = ⟨w.heap.size + 1, k, none⟩ from by unfold Addr.add; split <;> simp_all] at this
            have hf := rowOk_frozen (k := k) HW.out.2.2.1
            have H2 := Lib.hid (And.intro (HW.out.1.setCell (p := ⟨w.heap.size + 1, k, none⟩) (by simp) (vB (pairV (s[1 + 2 * k]'h71) (s[2 + 2 * k]'h72)))) (And.intro ((rowOk_setCell u ⟨w.heap.size + 1, k, none⟩ (vB (pairV (s[1 + 2 * k]'h71) (s[2 + 2 * k]'h72))) w.heap.size 32).trans HW.out.2.1) (And.intro ((rowOk_setCell u ⟨w.heap.size + 1, k, none⟩ (vB (pairV (s[1 + 2 * k]'h71) (s[2 + 2 * k]'h72))) (w.heap.size + 1) 32).trans HW.out.2.2.1) (HW.out.2.2.2.setCell (by rw [cI_length]; exact hlt) (vB (pairV (s[1 + 2 * k]'h71) (s[2 + 2 * k]'h72)))))))
            have HH := Lib.hid (And.intro p1 p2)
            clear p1 p2
            go_wp2
            go_roundw
            case rel =>
              refine ⟨k + 1, by omega, by go_num, fun j h hj => ?_, H2.out.1, H2.out.2.1, H2.out.2.2.1, by rw [partI_step hz hlt]; exact H2.out.2.2.2⟩
              by_cases e1 : j = 2 * k
              · subst e1; exact HH.out.1
              · by_cases e2 : j = 2 * k + 1
                · subst e2
                  have := HH.out.2
                  simpa [show 1 + (2 * k + 1) = 2 + 2 * k by omega] using this
                · exact HA.out.1 j h (by omega)
            case measure => simp [intOf]; omega
    · have hkn : k = 32 := by omega
      subst hkn
      have HY := Lib.hid (identR_yes (l := bl s) (AllOk.mk71 hz HM.out.1 HM.out.2 (fun j h hj => HA.out.1 j h (by omega))))
      have hat := HA.out.2.2.2.2
      rw [partI_last (by rw [bl_length]; exact hz)] at hat
      have hok2 := hat.ok
      have hrd2 := hat.rd
      rw [cI_length] at hok2 hrd2
      have hr1 := HA.out.2.2.1
      clear hat
      go_wp2
      have hld := load_id2 (at_setRow (cI (midL (bl s))) HA.out.2.2.1)
      exact bodyPost_ret (v := .tuple #[vI (midL (bl s)), .bool true]) (results_c2 (ad := ⟨w.heap.size, 0, none⟩) rfl rfl hld rfl) rfl ⟨by rw [HY.out], Below.setRow HA.out.2.1 (Nat.le_refl _) _⟩
end Go.Proofs.Ytcchpenaiomeeaa
