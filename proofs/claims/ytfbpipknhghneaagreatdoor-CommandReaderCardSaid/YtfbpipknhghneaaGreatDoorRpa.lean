/- The reference's Parse of an identity. -/
import Derived.Test.YtfbpipknhghneaaGreatDoorRpA
namespace Go.Proofs.YtfbpipknhghneaaGreatDoor
open Go.RowKit
/-- The bytes of m digits. -/
def pd (l : List UInt8) : Nat → List UInt8
  | 0 => List.replicate 32 0
  | m + 1 => (pd l m).set (m / 2) (UInt8.ofNat (16 * ((pd l m).getD (m / 2) 0).toNat + hexV (l.getD (m + 1) 0)))
theorem pd_len (l : List UInt8) : ∀ m, (pd l m).length = 32
  | 0 => by simp [pd]
  | m + 1 => by rw [pd, List.length_set]; exact pd_len l m
def pdI (l : List UInt8) (m : Nat) : Id := ⟨pd l m, pd_len l m⟩
theorem pdI_zero (l : List UInt8) : pdI l 0 = zI := rfl
theorem pdI_step (l : List UInt8) (m : Nat) (v : UInt8) (hv : UInt8.ofNat (16 * ((pd l m).getD (m / 2) 0).toNat + hexV (l.getD (m + 1) 0)) = v) : (cI (pdI l m)).set (m / 2) (vB v) = cI (pdI l (m + 1)) := by
  subst hv
  show ((pd l m).map cB).set (m / 2) _ = ((pd l m).set (m / 2) _).map cB
  rw [List.map_set]
  rfl
theorem pdI_cell (l : List UInt8) (m j : Nat) (hj : j < 32) : (cI (pdI l m))[j]? = some (vB ((pd l m).getD j 0)) := by
  unfold cI pdI
  rw [List.getElem?_map, List.getD_eq_getElem?_getD, List.getElem?_eq_getElem (by rw [pd_len]; exact hj)]
  rfl
theorem pd_two (l : List UInt8) (hl : l.length = 71) (hx : ((l.drop 1).take 64).all hexB = true) : ∀ k, k ≤ 32 → pd l (2 * k) = unhexL ((l.drop 1).take (2 * k)) ++ List.replicate (32 - k) 0 := by
  intro k
  induction k with
  | zero => intro _; rfl
  | succ k ih =>
    intro hk
    have ih := ih (by omega)
    have hl2 : (unhexL ((l.drop 1).take (2 * k))).length = k := unhexL_length k _ (by rw [List.length_take, List.length_drop]; omega)
    have hd : ∀ j, j < 64 → ∃ h : 1 + j < l.length, hexB (l[1 + j]) = true := fun j hj => ⟨by omega, by
      refine List.all_eq_true.1 hx _ ?_
      rw [List.mem_iff_getElem]
      exact ⟨j, by rw [List.length_take, List.length_drop]; omega, by rw [List.getElem_take, List.getElem_drop]⟩⟩
    obtain ⟨ha, hah⟩ := hd (2 * k) (by omega)
    obtain ⟨hb, hbh⟩ := hd (2 * k + 1) (by omega)
    have h1 : (l.drop 1).take (2 * (k + 1)) = (l.drop 1).take (2 * k) ++ [l[1 + 2 * k], l[1 + (2 * k + 1)]] := by
      rw [show 2 * (k + 1) = 2 * k + 1 + 1 by omega, List.take_succ_eq_append_getElem (by rw [List.length_drop]; omega), List.take_succ_eq_append_getElem (by rw [List.length_drop]; omega), List.append_assoc]
      congr 1
      simp only [List.getElem_drop, List.singleton_append]
    have h2 := unhexL_append k ((l.drop 1).take (2 * k)) l[1 + 2 * k] l[1 + (2 * k + 1)] (by rw [List.length_take, List.length_drop]; omega)
    have h3 : List.replicate (32 - k) (0 : UInt8) = 0 :: List.replicate (32 - (k + 1)) 0 := by rw [show 32 - k = (32 - (k + 1)) + 1 by omega, List.replicate_succ]
    obtain ⟨U, hU⟩ : ∃ U, unhexL ((l.drop 1).take (2 * k)) = U := ⟨_, rfl⟩
    obtain ⟨R, hR⟩ : ∃ R, List.replicate (32 - (k + 1)) (0 : UInt8) = R := ⟨_, rfl⟩
    rw [hU] at ih hl2 h2
    rw [hR] at h3
    rw [h3] at ih
    rw [h1, h2, hR, show 2 * (k + 1) = 2 * k + 1 + 1 by omega]
    have e1 : pd l (2 * k + 1) = U ++ UInt8.ofNat (hexV l[1 + 2 * k]) :: R := by
      rw [pd, ih, show 2 * k / 2 = k by omega, List.set_append_right _ _ (by omega), hl2, Nat.sub_self, List.set_cons_zero]
      congr 2
      rw [List.getD_eq_getElem?_getD, List.getElem?_append_right (by omega), hl2, Nat.sub_self, List.getD_eq_getElem?_getD, List.getElem?_eq_getElem (show 2 * k + 1 < l.length by omega)]
      simp only [List.getElem?_cons_zero, Option.getD_some]
      rw [show (0 : UInt8).toNat = 0 from rfl, Nat.mul_zero, Nat.zero_add]
      congr 2
      simp only [show 1 + 2 * k = 2 * k + 1 by omega]
    rw [pd, e1, show (2 * k + 1) / 2 = k by omega, List.set_append_right _ _ (by omega), hl2, Nat.sub_self, List.set_cons_zero, List.append_assoc, List.singleton_append]
    congr 2
    rw [List.getD_eq_getElem?_getD, List.getElem?_append_right (by omega), hl2, Nat.sub_self, List.getD_eq_getElem?_getD, List.getElem?_eq_getElem (show 2 * k + 1 + 1 < l.length by omega)]
    simp only [List.getElem?_cons_zero, Option.getD_some]
    have hv := hexV_lt _ hah
    unfold pairV
    rw [UInt8.toNat_ofNat', Nat.mod_eq_of_lt (by omega)]
    congr 2
    simp only [show 1 + (2 * k + 1) = 2 * k + 1 + 1 by omega]
theorem pdI_last (s : ByteArray) (h : identB (bl s) = true) : pdI (bl s) 64 = midL (bl s) := by
  have hz := identB_size h
  have hl : (bl s).length = 71 := by rw [bl_length]; exact hz
  have h1 := pd_two (bl s) hl (mid_hex h) 32 (Nat.le_refl _)
  apply Subtype.ext
  have h2 : ∀ m, (pdI (bl s) m).1 = pd (bl s) m := fun _ => rfl
  rw [h2, show (64 : Nat) = 2 * 32 from rfl, h1]
  unfold midL toId
  rw [dif_pos (unhex_len32 hz)]
  simp
theorem w8 (z : Int) (h1 : 0 ≤ z) (h2 : z < 256) : IntKind.u8.wrap z = z := by simp [IntKind.wrap, IntKind.bits, IntKind.signed]; omega
theorem w8_step (a d : Nat) (_hd : d < 256) : IntKind.u8.wrap (IntKind.u8.wrap ((a : Int) * 16) + (d : Int)) = (((UInt8.ofNat (16 * a + d)).toNat : Nat) : Int) := by
  rw [UInt8.toNat_ofNat']
  simp [IntKind.wrap, IntKind.bits, IntKind.signed]
  omega
theorem heap_setRow_other (w : World) (b j : Nat) (c : Array Value) (h : j ≠ b) : (w.setRow b c).heap[j]? = w.heap[j]? := by
  show (w.heap.modify b _)[j]? = _
  rw [Array.getElem?_modify, if_neg (fun e => h e.symm)]
theorem Below.setRow' {B : Nat} {a w : World} (h : Below B a w) {g : Nat} (hg : B ≤ g) (c : Array Value) : Below B a (w.setRow g c) :=
  ⟨h.os, h.tape, h.output, by have := h.size; simpa [World.setRow] using this, fun j hj => (heap_setRow_other w g j c (by omega)).trans (h.block j hj)⟩
theorem Below.setCell' {B : Nat} {a w : World} (h : Below B a w) {g : Nat} (hg : B ≤ g) (k : Nat) (v : Value) : Below B a (w.setCell ⟨g, k, none⟩ v) :=
  ⟨h.os, h.tape, h.output, by have := h.size; simpa [World.setCell] using this, fun j hj => (heap_set_other w g k v j (by omega)).trans (h.block j hj)⟩
theorem okAt_tail (j : Nat) (hj : j < 6) (c : UInt8) : ∃ h : j < (⟨#[64, 104, 97, 115, 104, 62]⟩ : ByteArray).size, okAt (65 + j) c = ((c.toNat : Int) == (((⟨#[64, 104, 97, 115, 104, 62]⟩ : ByteArray)[j].toNat : Nat) : Int)) := by
  have hs : j < (⟨#[64, 104, 97, 115, 104, 62]⟩ : ByteArray).size := hj
  refine ⟨hs, ?_⟩
  unfold okAt
  rw [if_neg (by omega), if_neg (by omega), beq_byte, Nat.add_sub_cancel_left]
  have : j = 0 ∨ j = 1 ∨ j = 2 ∨ j = 3 ∨ j = 4 ∨ j = 5 := by omega
  rcases this with rfl | rfl | rfl | rfl | rfl | rfl <;> rfl
theorem ident_not {s : ByteArray} {k : Nat} (hk : k < s.size) (hk2 : k < 71) (h : okAt k s[k] = false) : identB (bl s) = false := by
  rw [Bool.eq_false_iff]
  intro e
  rw [identB_at e k hk2 hk] at h
  cases h
theorem ident_size {s : ByteArray} (h : s.size ≠ 71) : identB (bl s) = false := by
  rw [Bool.eq_false_iff]
  intro e
  exact h (identB_size e)
theorem load_108 {w : World} {g : Nat} {x : Id} (h : Row w g (cI x) 104) : (loadVar 104 ⟨g, 0, none⟩).run Tryz.prog w = .ok (vI x) w :=
  run_loadVar_at _ ⟨g, 0, none⟩ 104 (cI x) _ (h.at_ (k := 0) (n := 32) (by rw [List.drop_zero, List.take_of_length_le (by rw [cI_length]; exact Nat.le_refl _)])) Tryz.underlying104 rfl (by rw [cI_length]; exact size104)
def RpaP (s : ByteArray) (w : World) : Ending → World → Prop := fun e w' => ∃ a n : Int, e = .returned (.tuple #[vI (if identB (bl s) = true then midL (bl s) else zI), .int .i64 a, .int .i64 n]) ∧ decide (n = 0) = identB (bl s) ∧ Below w.heap.size w w'
set_option maxRecDepth 100000 in
set_option maxHeartbeats 3200000 in
theorem refParse65 (s : ByteArray) (w : World) (hs : s.size ≤ 1000000) : Calls Tryz.prog 59 #[.string s] w (RpaP s w) := by
  obtain ⟨r, hr⟩ : ∃ r, w.heap.size = r := ⟨_, rfl⟩
  obtain ⟨W2, hW2⟩ : ∃ W2, (w.alloc (.cells (aI zI) 104)).alloc (.cells (aI zI) 104) = W2 := ⟨_, rfl⟩
  have R1 : Row W2 r (cI zI) 104 := by rw [← hW2, ← hr]; exact (Row.new w (cI zI) 104).keep (below_alloc _ _)
  have R2 : Row W2 (r + 1) (cI zI) 104 := by
    have h := Row.new (w.alloc (.cells (aI zI) 104)) (cI zI) 104
    rw [show (w.alloc (.cells (aI zI) 104)).heap.size = r + 1 by rw [← hr]; simp] at h
    rw [← hW2]; exact h
  have HR := Lib.hid (And.intro R1 (And.intro R2 (show Below w.heap.size w W2 by rw [← hW2]; exact Below.step (below_alloc w _) (below_alloc _ _))))
  clear R1 R2
  go_enter Tryz.func59, Tryz.ntmps59
  go_wp2
  go_loopw [7] (fun i wr => ∃ k : Nat, k ≤ s.size ∧ k ≤ 71 ∧ i = .int .i64 (k : Int) ∧ AllOk s k ∧ Row wr r (cI zI) 104 ∧ Row wr (r + 1) (cI (pdI (bl s) (min (k - 1) 64))) 104 ∧ Below w.heap.size w wr) (fun i _ => 72 - (intOf i).toNat)
  case atStart => exact ⟨0, Nat.zero_le _, Nat.zero_le _, rfl, AllOk.zero s, HR.out.1, HR.out.2.1, HR.out.2.2⟩
  case round =>
    obtain ⟨k, hks, hk71, rfl, ha, hr1, hr2, hbw⟩ := hrel
    have HI := Lib.hid (And.intro ha (And.intro hr1 (And.intro hr2 hbw)))
    clear ha hr1 hr2 hbw hW2
    by_cases hgo : k < s.size ∧ k < 71
    · obtain ⟨hlt, hlt2⟩ := hgo
      have q1 : (k : Int) < (s.size : Int) := by omega
      have q2 : (k : Int) < 71 := by omega
      cases hok : okAt k s[k] with
      | false =>
        have HN := Lib.hid (ident_not hlt hlt2 hok)
        by_cases h0 : k = 0
        · subst h0
          have hb : (((s[0].toNat : Nat) : Int) != 60) = true := by
            have h1 : okAt 0 s[0] = decide (s[0].toNat = 60) := rfl
            rw [hok] at h1
            have h2 : s[0].toNat ≠ 60 := of_decide_eq_false h1.symm
            simp only [bne_iff_ne, ne_eq]
            omega
          clear hok
          have rr1 := HI.out.2.1.rowOk (cI_length zI)
          have HF := Lib.hid (show Row (wr.setRow r (aI zI)) r (cI zI) 104 from HI.out.2.1.setRow _)
          go_wp2
          exact bodyPost_ret (results_c3 (ad := ⟨r, 0, none⟩) rfl rfl (load_108 HF.out) rfl rfl) rfl ⟨_, _, by rw [HN.out]; rfl, by rw [HN.out]; decide, Below.setRow' HI.out.2.2.2 (by omega) _⟩
        by_cases h64 : k ≤ 64
        · have hx : hexB s[k] = false := by
            have h1 : okAt k s[k] = hexB s[k] := by unfold okAt; rw [if_neg (by omega), if_pos (by omega)]
            rw [← h1]; exact hok
          have HD := Lib.hid (fun w1 => value_r s[k] w1)
          rw [show hexI s[k] = -1 by unfold hexI; rw [if_neg (by rw [hx]; decide)]] at HD
          have q3 : ((k : Int) == 0) = false := by rw [beq_eq_false_iff_ne]; omega
          have q4 : (k : Int) ≤ 64 := by omega
          clear hok hx
          have rr1 := HI.out.2.1.rowOk (cI_length zI)
          have HF := Lib.hid (show Row (wr.setRow r (aI zI)) r (cI zI) 104 from HI.out.2.1.setRow _)
          go_wp2_with (go_at_call 76; refine (HD.out _).mono ?_; rintro e w1 ⟨rfl, rfl⟩)
          exact bodyPost_ret (results_c3 (ad := ⟨r, 0, none⟩) rfl rfl (load_108 HF.out) rfl rfl) rfl ⟨_, _, by rw [HN.out]; rfl, by rw [HN.out]; decide, Below.setRow' HI.out.2.2.2 (by omega) _⟩
        · obtain ⟨j, hj⟩ : ∃ j, k = 65 + j := ⟨k - 65, by omega⟩
          obtain ⟨htl, ht⟩ := okAt_tail j (by omega) s[k]
          rw [← hj, hok] at ht
          obtain ⟨tb, htb⟩ : ∃ tb, (⟨#[64, 104, 97, 115, 104, 62]⟩ : ByteArray)[j] = tb := ⟨_, rfl⟩
          rw [htb] at ht
          obtain ⟨ne, hne⟩ : ∃ ne, ne = true := ⟨_, rfl⟩
          have HNE := Lib.hid (show (((s[k].toNat : Nat) : Int) != ((tb.toNat : Nat) : Int)) = ne by rw [hne]; simpa [bne] using ht.symm)
          have HK := Lib.hid (And.intro q1 (And.intro (show (0 : Int) ≤ (k : Int) by omega) (And.intro (show (k : Int) - 65 = (j : Int) by omega) (And.intro (show IntKind.i64.wrap (j : Int) = (j : Int) from w64 _ (by omega) (by omega)) (And.intro (show (j : Int) < 6 by omega) htb)))))
          have q3 : ((k : Int) == 0) = false := by rw [beq_eq_false_iff_ne]; omega
          have q4 : ¬ (k : Int) ≤ 64 := by omega
          have HJ := Lib.hid hj
          have HNT := Lib.hid hne
          clear hok ht hj hne htb
          have rr1 := HI.out.2.1.rowOk (cI_length zI)
          have HF := Lib.hid (show Row (wr.setRow r (aI zI)) r (cI zI) 104 from HI.out.2.1.setRow _)
          go_wp2
          refine AnyO.wp_any (by kernel_rfl) (by kernel_rfl) (pstP [isV (.string s), isV (.int .i64 (k : Int)), isV (vB s[k]), isV (.string ⟨#[64, 104, 97, 115, 104, 62]⟩), isV (.int .i64 (k : Int)), isV (.int .i64 (j : Int)), isV (vB tb), isV (.bool ne)]) (MonoL.cons (Mono.v _) (MonoL.cons (Mono.v _) (MonoL.cons (Mono.v _) (MonoL.cons (Mono.v _) (MonoL.cons (Mono.v _) (MonoL.cons (Mono.v _) (MonoL.cons (Mono.v _) (MonoL.cons (Mono.v _) MonoL.nil)))))))) ?_ ?_
          · intro i hi
            have hi2 : i = 0 ∨ i = 1 ∨ i = 2 ∨ i = 3 ∨ i = 4 ∨ i = 5 ∨ i = 6 ∨ i = 7 := by simp only [List.size_toArray, List.length_cons, List.length_nil] at hi; omega
            clear hi
            rcases hi2 with rfl | rfl | rfl | rfl | rfl | rfl | rfl | rfl
            · -- 0: Op.move (Operand.tmp 0)
              refine AnyO.Step.mk rfl [] (by kernel_rfl) ?_
              intro vs u hE hp ac hb K hK
              have s0 : ac.tmps[0]?.getD undef = .string s := by rw [hb]; kernel_rfl
              rw [if_pos (AnyO.wanted_none rfl)]
              clear hb hp
              go_simp
              exact hK _ _ (Below.refl _ _) rfl
            · -- 1: Op.move (Operand.tmp 7)
              refine AnyO.Step.mk rfl [] (by kernel_rfl) ?_
              intro vs u hE hp ac hb K hK
              have s7 : ac.tmps[7]?.getD undef = .int .i64 (k : Int) := by rw [hb]; kernel_rfl
              rw [if_pos (AnyO.wanted_none rfl)]
              clear hb hp
              go_simp
              exact hK _ _ (Below.refl _ _) rfl
            · -- 2: Op.index 9 (Operand.tmp 19) (Operand.tmp 20)
              refine AnyO.Step.mk rfl [0, 1] (by kernel_rfl) ?_
              intro vs u hE hp ac hb K hK
              have s19 : ac.tmps[19]?.getD undef = .string s := by rw [hb]; exact (show _ = vs 0 by kernel_rfl).trans (hp 0 (by decide))
              have s20 : ac.tmps[20]?.getD undef = .int .i64 (k : Int) := by rw [hb]; exact (show _ = vs 1 by kernel_rfl).trans (hp 1 (by decide))
              rw [if_pos (AnyO.wanted_none rfl)]
              clear hb hp
              have z1 := HK.out.1
              have z2 := HK.out.2.1
              go_simp
              exact hK _ _ (Below.refl _ _) rfl
            · -- 3: Op.move (Operand.tmp 6)
              refine AnyO.Step.mk rfl [] (by kernel_rfl) ?_
              intro vs u hE hp ac hb K hK
              have s6 : ac.tmps[6]?.getD undef = .string ⟨#[64, 104, 97, 115, 104, 62]⟩ := by rw [hb]; kernel_rfl
              rw [if_pos (AnyO.wanted_none rfl)]
              clear hb hp
              go_simp
              exact hK _ _ (Below.refl _ _) rfl
            · -- 4: Op.move (Operand.tmp 7)
              refine AnyO.Step.mk rfl [] (by kernel_rfl) ?_
              intro vs u hE hp ac hb K hK
              have s7 : ac.tmps[7]?.getD undef = .int .i64 (k : Int) := by rw [hb]; kernel_rfl
              rw [if_pos (AnyO.wanted_none rfl)]
              clear hb hp
              go_simp
              exact hK _ _ (Below.refl _ _) rfl
            · -- 5: Op.binOp BinOp.sub 3 (Operand.tmp 23) (Operand.const (Value.
              refine AnyO.Step.mk rfl [4] (by kernel_rfl) ?_
              intro vs u hE hp ac hb K hK
              have s23 : ac.tmps[23]?.getD undef = .int .i64 (k : Int) := by rw [hb]; exact (show _ = vs 4 by kernel_rfl).trans (hp 4 (by decide))
              rw [if_pos (AnyO.wanted_none rfl)]
              clear hb hp
              have z1 := HK.out.2.2.1
              have z2 := HK.out.2.2.2.1
              go_simp
              exact hK _ _ (Below.refl _ _) rfl
            · -- 6: Op.index 9 (Operand.tmp 22) (Operand.tmp 24)
              refine AnyO.Step.mk rfl [3, 5] (by kernel_rfl) ?_
              intro vs u hE hp ac hb K hK
              have s22 : ac.tmps[22]?.getD undef = .string ⟨#[64, 104, 97, 115, 104, 62]⟩ := by rw [hb]; exact (show _ = vs 3 by kernel_rfl).trans (hp 3 (by decide))
              have s24 : ac.tmps[24]?.getD undef = .int .i64 (j : Int) := by rw [hb]; exact (show _ = vs 5 by kernel_rfl).trans (hp 5 (by decide))
              rw [if_pos (AnyO.wanted_none rfl)]
              clear hb hp
              have z1 := HK.out.2.2.2.2.1
              have z2 := HK.out.2.2.2.2.2
              go_simp
              exact hK _ _ (Below.refl _ _) rfl
            · -- 7: Op.binOp BinOp.neq 5 (Operand.tmp 21) (Operand.tmp 25) 5
              refine AnyO.Step.mk rfl [2, 6] (by kernel_rfl) ?_
              intro vs u hE hp ac hb K hK
              have s21 : ac.tmps[21]?.getD undef = vB s[k] := by rw [hb]; exact (show _ = vs 2 by kernel_rfl).trans (hp 2 (by decide))
              have s25 : ac.tmps[25]?.getD undef = vB tb := by rw [hb]; exact (show _ = vs 6 by kernel_rfl).trans (hp 6 (by decide))
              rw [if_pos (AnyO.wanted_none rfl)]
              clear hb hp
              have z1 := HNE.out
              go_simp
              exact hK _ _ (Below.refl _ _) rfl
          · intro vs u hE hp
            have e0 : vs 0 = .string s := hp 0 (by decide)
            have e1 : vs 1 = .int .i64 (k : Int) := hp 1 (by decide)
            have e2 : vs 2 = vB s[k] := hp 2 (by decide)
            have e3 : vs 3 = .string ⟨#[64, 104, 97, 115, 104, 62]⟩ := hp 3 (by decide)
            have e4 : vs 4 = .int .i64 (k : Int) := hp 4 (by decide)
            have e5 : vs 5 = .int .i64 (j : Int) := hp 5 (by decide)
            have e6 : vs 6 = vB tb := hp 6 (by decide)
            have e7 : vs 7 = .bool ne := hp 7 (by decide)
            clear hp
            have HE := Lib.hid hE
            clear hE
            rw [puts_range [some 19, some 20, some 21, some 22, some 23, some 24, some 25, some 26] (by kernel_rfl)]
            simp only [putL, Nat.reduceAdd, e0, e1, e2, e3, e4, e5, e6, e7]
            clear e0 e1 e2 e3 e4 e5 e6 e7
            go_simp
            rw [HNT.out]
            clear rr1
            have rr1 := (HI.out.2.1.keep HE.out).rowOk (cI_length zI)
            go_wp2
            have HF2 := Lib.hid (show Row (u.setRow r (aI zI)) r (cI zI) 104 from (HI.out.2.1.keep HE.out).setRow _)
            exact bodyPost_ret (results_c3 (ad := ⟨r, 0, none⟩) rfl rfl (load_108 HF2.out) rfl rfl) rfl ⟨_, _, by rw [HN.out]; rfl, by rw [HN.out]; decide, Below.setRow' (Below.trans HI.out.2.2.2 (HE.out.mono HI.out.2.2.2.size)) (by omega) _⟩
      | true =>
        have HA := Lib.hid (AllOk.step s k hlt HI.out.1 hok)
        by_cases h0 : k = 0
        · subst h0
          have hb : (((s[0].toNat : Nat) : Int) != 60) = false := by
            have h1 : okAt 0 s[0] = decide (s[0].toNat = 60) := rfl
            rw [hok] at h1
            have h2 : s[0].toNat = 60 := of_decide_eq_true h1.symm
            rw [h2]; rfl
          clear hok
          go_wp2
          go_roundw
          case rel => exact ⟨1, by omega, by omega, by go_num, HA.out, HI.out.2⟩
          case measure => simp [intOf]
        by_cases h64 : k ≤ 64
        · have hx : hexB s[k] = true := by
            have h1 : okAt k s[k] = hexB s[k] := by unfold okAt; rw [if_neg (by omega), if_pos (by omega)]
            rw [← h1]; exact hok
          obtain ⟨m, rfl⟩ : ∃ m, k = m + 1 := ⟨k - 1, by omega⟩
          have hR := HI.out.2.2.1
          rw [show min (m + 1 - 1) 64 = m by omega] at hR
          have HD := Lib.hid (fun w1 => value_r s[m + 1] w1)
          rw [show hexI s[m + 1] = (hexV s[m + 1] : Int) by unfold hexI; rw [if_pos hx]] at HD
          have hv16 := hexV_lt _ hx
          obtain ⟨h2, hh2⟩ : ∃ h2, m / 2 = h2 := ⟨_, rfl⟩
          obtain ⟨dv, hdv⟩ : ∃ dv, hexV s[m + 1] = dv := ⟨_, rfl⟩
          obtain ⟨old, hold⟩ : ∃ old, (pd (bl s) m).getD h2 0 = old := ⟨_, rfl⟩
          obtain ⟨nv, hnv⟩ : ∃ nv, UInt8.ofNat (16 * old.toNat + dv) = nv := ⟨_, rfl⟩
          have HS := Lib.hid (show (cI (pdI (bl s) m)).set h2 (vB nv) = cI (pdI (bl s) (m + 1)) by
            rw [← hh2]
            refine pdI_step (bl s) m nv ?_
            rw [hh2, hold, show (bl s).getD (m + 1) 0 = s[m + 1] by rw [List.getD_eq_getElem?_getD, List.getElem?_eq_getElem (by rw [bl_length]; exact hlt)]; rfl, hdv, hnv])
          have cc : wr.cell? ⟨r + 1, h2, none⟩ = some (.int .u8 ((old.toNat : Nat) : Int)) := by
            rw [hR.cell h2, pdI_cell (bl s) m h2 (by omega), hold]
          have ff := hR.fz h2
          have z1 : (((old.toNat : Nat) : Int) * 16 + (dv : Int)) % 256 = ((nv.toNat : Nat) : Int) := by rw [← hnv, UInt8.toNat_ofNat']; omega
          have z2 : IntKind.u8.wrap (dv : Int) = (dv : Int) := w8 _ (by omega) (by omega)
          have z3 : ((m : Nat) : Int).tdiv 2 = (h2 : Int) := by rw [← hh2]; rfl
          have z4 : IntKind.i64.wrap (h2 : Int) = (h2 : Int) := w64 _ (by omega) (by omega)
          have z5 : (h2 : Int) < 32 := by omega
          have q3 : ((m : Int) + 1 == 0) = false := by rw [beq_eq_false_iff_ne]; omega
          have q4 : (m : Int) + 1 ≤ 64 := by omega
          have q5 : (m : Int) + 1 < (s.size : Int) := by omega
          have q6 : (m : Int) + 1 < 71 := by omega
          have q7 : ¬ (dv : Int) < 0 := by omega
          have HR2 := Lib.hid (show Row (wr.setCell ⟨r + 1, h2, none⟩ (vB nv)) (r + 1) (cI (pdI (bl s) (min (m + 1 + 1 - 1) 64))) 104 by
            rw [show min (m + 1 + 1 - 1) 64 = m + 1 by omega, ← HS.out]; exact hR.set h2 _)
          have HR1 := Lib.hid (show Row (wr.setCell ⟨r + 1, h2, none⟩ (vB nv)) r (cI zI) 104 from HI.out.2.1.same (heap_set_other wr (r + 1) h2 _ r (by omega)))
          have HB2 := Lib.hid (show Below w.heap.size w (wr.setCell ⟨r + 1, h2, none⟩ (vB nv)) from Below.setCell' HI.out.2.2.2 (by omega) h2 _)
          rw [hdv] at HD
          clear hok hx hR hv16 hh2 hdv hold hnv
          go_wp2_with (go_at_call 76; refine (HD.out _).mono ?_; rintro e w1 ⟨rfl, rfl⟩)
          go_roundw
          case rel => exact ⟨m + 1 + 1, by omega, by omega, by go_num, HA.out, HR1.out, HR2.out, HB2.out⟩
          case measure => simp [intOf] <;> omega
        · obtain ⟨j, hj⟩ : ∃ j, k = 65 + j := ⟨k - 65, by omega⟩
          obtain ⟨htl, ht⟩ := okAt_tail j (by omega) s[k]
          rw [← hj, hok] at ht
          obtain ⟨tb, htb⟩ : ∃ tb, (⟨#[64, 104, 97, 115, 104, 62]⟩ : ByteArray)[j] = tb := ⟨_, rfl⟩
          rw [htb] at ht
          obtain ⟨ne, hne⟩ : ∃ ne, ne = false := ⟨_, rfl⟩
          have HNE := Lib.hid (show (((s[k].toNat : Nat) : Int) != ((tb.toNat : Nat) : Int)) = ne by rw [hne]; simpa [bne] using ht.symm)
          have HK := Lib.hid (And.intro q1 (And.intro (show (0 : Int) ≤ (k : Int) by omega) (And.intro (show (k : Int) - 65 = (j : Int) by omega) (And.intro (show IntKind.i64.wrap (j : Int) = (j : Int) from w64 _ (by omega) (by omega)) (And.intro (show (j : Int) < 6 by omega) htb)))))
          have q3 : ((k : Int) == 0) = false := by rw [beq_eq_false_iff_ne]; omega
          have q4 : ¬ (k : Int) ≤ 64 := by omega
          have HJ := Lib.hid hj
          have HNT := Lib.hid hne
          have HM := Lib.hid (show min (k - 1) 64 = min (k + 1 - 1) 64 by omega)
          clear hok ht hj hne htb
          go_wp2
          refine AnyO.wp_any (by kernel_rfl) (by kernel_rfl) (pstP [isV (.string s), isV (.int .i64 (k : Int)), isV (vB s[k]), isV (.string ⟨#[64, 104, 97, 115, 104, 62]⟩), isV (.int .i64 (k : Int)), isV (.int .i64 (j : Int)), isV (vB tb), isV (.bool ne)]) (MonoL.cons (Mono.v _) (MonoL.cons (Mono.v _) (MonoL.cons (Mono.v _) (MonoL.cons (Mono.v _) (MonoL.cons (Mono.v _) (MonoL.cons (Mono.v _) (MonoL.cons (Mono.v _) (MonoL.cons (Mono.v _) MonoL.nil)))))))) ?_ ?_
          · intro i hi
            have hi2 : i = 0 ∨ i = 1 ∨ i = 2 ∨ i = 3 ∨ i = 4 ∨ i = 5 ∨ i = 6 ∨ i = 7 := by simp only [List.size_toArray, List.length_cons, List.length_nil] at hi; omega
            clear hi
            rcases hi2 with rfl | rfl | rfl | rfl | rfl | rfl | rfl | rfl
            · -- 0: Op.move (Operand.tmp 0)
              refine AnyO.Step.mk rfl [] (by kernel_rfl) ?_
              intro vs u hE hp ac hb K hK
              have s0 : ac.tmps[0]?.getD undef = .string s := by rw [hb]; kernel_rfl
              rw [if_pos (AnyO.wanted_none rfl)]
              clear hb hp
              go_simp
              exact hK _ _ (Below.refl _ _) rfl
            · -- 1: Op.move (Operand.tmp 7)
              refine AnyO.Step.mk rfl [] (by kernel_rfl) ?_
              intro vs u hE hp ac hb K hK
              have s7 : ac.tmps[7]?.getD undef = .int .i64 (k : Int) := by rw [hb]; kernel_rfl
              rw [if_pos (AnyO.wanted_none rfl)]
              clear hb hp
              go_simp
              exact hK _ _ (Below.refl _ _) rfl
            · -- 2: Op.index 9 (Operand.tmp 19) (Operand.tmp 20)
              refine AnyO.Step.mk rfl [0, 1] (by kernel_rfl) ?_
              intro vs u hE hp ac hb K hK
              have s19 : ac.tmps[19]?.getD undef = .string s := by rw [hb]; exact (show _ = vs 0 by kernel_rfl).trans (hp 0 (by decide))
              have s20 : ac.tmps[20]?.getD undef = .int .i64 (k : Int) := by rw [hb]; exact (show _ = vs 1 by kernel_rfl).trans (hp 1 (by decide))
              rw [if_pos (AnyO.wanted_none rfl)]
              clear hb hp
              have z1 := HK.out.1
              have z2 := HK.out.2.1
              go_simp
              exact hK _ _ (Below.refl _ _) rfl
            · -- 3: Op.move (Operand.tmp 6)
              refine AnyO.Step.mk rfl [] (by kernel_rfl) ?_
              intro vs u hE hp ac hb K hK
              have s6 : ac.tmps[6]?.getD undef = .string ⟨#[64, 104, 97, 115, 104, 62]⟩ := by rw [hb]; kernel_rfl
              rw [if_pos (AnyO.wanted_none rfl)]
              clear hb hp
              go_simp
              exact hK _ _ (Below.refl _ _) rfl
            · -- 4: Op.move (Operand.tmp 7)
              refine AnyO.Step.mk rfl [] (by kernel_rfl) ?_
              intro vs u hE hp ac hb K hK
              have s7 : ac.tmps[7]?.getD undef = .int .i64 (k : Int) := by rw [hb]; kernel_rfl
              rw [if_pos (AnyO.wanted_none rfl)]
              clear hb hp
              go_simp
              exact hK _ _ (Below.refl _ _) rfl
            · -- 5: Op.binOp BinOp.sub 3 (Operand.tmp 23) (Operand.const (Value.
              refine AnyO.Step.mk rfl [4] (by kernel_rfl) ?_
              intro vs u hE hp ac hb K hK
              have s23 : ac.tmps[23]?.getD undef = .int .i64 (k : Int) := by rw [hb]; exact (show _ = vs 4 by kernel_rfl).trans (hp 4 (by decide))
              rw [if_pos (AnyO.wanted_none rfl)]
              clear hb hp
              have z1 := HK.out.2.2.1
              have z2 := HK.out.2.2.2.1
              go_simp
              exact hK _ _ (Below.refl _ _) rfl
            · -- 6: Op.index 9 (Operand.tmp 22) (Operand.tmp 24)
              refine AnyO.Step.mk rfl [3, 5] (by kernel_rfl) ?_
              intro vs u hE hp ac hb K hK
              have s22 : ac.tmps[22]?.getD undef = .string ⟨#[64, 104, 97, 115, 104, 62]⟩ := by rw [hb]; exact (show _ = vs 3 by kernel_rfl).trans (hp 3 (by decide))
              have s24 : ac.tmps[24]?.getD undef = .int .i64 (j : Int) := by rw [hb]; exact (show _ = vs 5 by kernel_rfl).trans (hp 5 (by decide))
              rw [if_pos (AnyO.wanted_none rfl)]
              clear hb hp
              have z1 := HK.out.2.2.2.2.1
              have z2 := HK.out.2.2.2.2.2
              go_simp
              exact hK _ _ (Below.refl _ _) rfl
            · -- 7: Op.binOp BinOp.neq 5 (Operand.tmp 21) (Operand.tmp 25) 5
              refine AnyO.Step.mk rfl [2, 6] (by kernel_rfl) ?_
              intro vs u hE hp ac hb K hK
              have s21 : ac.tmps[21]?.getD undef = vB s[k] := by rw [hb]; exact (show _ = vs 2 by kernel_rfl).trans (hp 2 (by decide))
              have s25 : ac.tmps[25]?.getD undef = vB tb := by rw [hb]; exact (show _ = vs 6 by kernel_rfl).trans (hp 6 (by decide))
              rw [if_pos (AnyO.wanted_none rfl)]
              clear hb hp
              have z1 := HNE.out
              go_simp
              exact hK _ _ (Below.refl _ _) rfl
          · intro vs u hE hp
            have e0 : vs 0 = .string s := hp 0 (by decide)
            have e1 : vs 1 = .int .i64 (k : Int) := hp 1 (by decide)
            have e2 : vs 2 = vB s[k] := hp 2 (by decide)
            have e3 : vs 3 = .string ⟨#[64, 104, 97, 115, 104, 62]⟩ := hp 3 (by decide)
            have e4 : vs 4 = .int .i64 (k : Int) := hp 4 (by decide)
            have e5 : vs 5 = .int .i64 (j : Int) := hp 5 (by decide)
            have e6 : vs 6 = vB tb := hp 6 (by decide)
            have e7 : vs 7 = .bool ne := hp 7 (by decide)
            clear hp
            have HE := Lib.hid hE
            clear hE
            rw [puts_range [some 19, some 20, some 21, some 22, some 23, some 24, some 25, some 26] (by kernel_rfl)]
            simp only [putL, Nat.reduceAdd, e0, e1, e2, e3, e4, e5, e6, e7]
            clear e0 e1 e2 e3 e4 e5 e6 e7
            go_simp
            rw [HNT.out]
            go_wp2
            go_roundw
            case rel => exact ⟨k + 1, by omega, by omega, by go_num, HA.out, HI.out.2.1.keep HE.out, by rw [← HM.out]; exact HI.out.2.2.1.keep HE.out, Below.trans HI.out.2.2.2 (HE.out.mono HI.out.2.2.2.size)⟩
            case measure => simp [intOf] <;> omega
    · by_cases h71 : k = 71
      · subst h71
        have hlt : ¬ (71 : Int) < (s.size : Int) ∨ True := Or.inr trivial
        clear hlt hgo
        by_cases hz : s.size = 71
        · have hid := AllOk.ident s hz HI.out.1
          have hR := HI.out.2.2.1
          rw [show min (71 - 1) 64 = 64 by decide, pdI_last s hid] at hR
          have HY := Lib.hid (And.intro hid hR)
          have q1 : (s.size : Int) = 71 := by omega
          have rr1 := HI.out.2.1.rowOk (cI_length zI)
          obtain ⟨ok2, rd2⟩ := hR.okw (cI_length _)
          change rdA _ _ _ = vI (midL (bl s)) at rd2
          have HF := Lib.hid (show Row (wr.setRow r (aI (midL (bl s)))) r (cI (midL (bl s))) 104 from HI.out.2.1.setRow _)
          clear hid hR hz
          go_wp2
          exact bodyPost_ret (results_c3 (ad := ⟨r, 0, none⟩) rfl rfl (load_108 HF.out) rfl rfl) rfl ⟨_, _, by rw [HY.out.1, if_pos rfl]; rfl, by rw [HY.out.1]; decide, Below.setRow' HI.out.2.2.2 (by omega) _⟩
        · have HN := Lib.hid (ident_size hz)
          have q1 : (71 : Int) < (s.size : Int) := by omega
          have q2 : ¬ (s.size : Int) < 71 := by omega
          have rr1 := HI.out.2.1.rowOk (cI_length zI)
          have HF := Lib.hid (show Row (wr.setRow r (aI zI)) r (cI zI) 104 from HI.out.2.1.setRow _)
          go_wp2
          exact bodyPost_ret (results_c3 (ad := ⟨r, 0, none⟩) rfl rfl (load_108 HF.out) rfl rfl) rfl ⟨_, _, by rw [HN.out]; rfl, by rw [HN.out]; decide, Below.setRow' HI.out.2.2.2 (by omega) _⟩
      · have hkz : k = s.size := by omega
        subst hkz
        have HN := Lib.hid (ident_size h71)
        have q1 : (s.size : Int) < 71 := by omega
        have rr1 := HI.out.2.1.rowOk (cI_length zI)
        have HF := Lib.hid (show Row (wr.setRow r (aI zI)) r (cI zI) 104 from HI.out.2.1.setRow _)
        go_wp2
        exact bodyPost_ret (results_c3 (ad := ⟨r, 0, none⟩) rfl rfl (load_108 HF.out) rfl rfl) rfl ⟨_, _, by rw [HN.out]; rfl, by rw [HN.out]; decide, Below.setRow' HI.out.2.2.2 (by omega) _⟩
end Go.Proofs.YtfbpipknhghneaaGreatDoor
