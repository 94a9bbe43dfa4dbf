/- The reference's Unhex. The value of a hexadecimal digit: bulletinref11.digit. The reference's reading of an identity: bulletinref11.Parse. -/
import Derived.Test.YtecalodcbkljoaaGreatDoorMRhx
import Derived.Test.YtecalodcbkljoaaGreatDoorMUnhex
import Derived.BigQuiet
import Derived.Test.YtecalodcbkljoaaGreatDoorMMid
import Derived.Test.YtecalodcbkljoaaGreatDoorMRpr
import Derived.Test.YtecalodcbkljoaaGreatDoorMMidNo
namespace Go.Proofs.YtecalodcbkljoaaGreatDoor
open Go.RowKit
theorem refDigit_b (c : UInt8) (w : World) : Calls Tryz.prog 90 #[vB c] w fun e w' => e = .returned (.bool (digB c)) ∧ w = w' := by
  go_enter Tryz.func90, Tryz.ntmps90
  go_wp2
  all_goals
    go_ret
    exact ⟨ret_bool (by unfold digB; rw [Bool.eq_iff_iff]; simp; try omega), rfl⟩
theorem hexD_dig (c : UInt8) (h : digB c = true) : hexI c = (c.toNat : Int) - 48 := by
  have h1 : hexB c = true := by unfold hexB; rw [h]; rfl
  unfold hexI hexV
  rw [if_pos h1]
  unfold digB at h
  simp at h
  rw [if_pos h.2]
  omega
theorem hexD_let (c : UInt8) (h0 : digB c = false) (h1 : 97 ≤ c.toNat) (h2 : c.toNat ≤ 102) : hexI c = (c.toNat : Int) - 87 := by
  have h3 : hexB c = true := by unfold hexB; rw [h0]; simp; omega
  unfold hexI hexV
  rw [if_pos h3, if_neg (by omega)]
  omega
theorem hexD_no (c : UInt8) (h0 : digB c = false) (h1 : ¬ (97 ≤ c.toNat ∧ c.toNat ≤ 102)) : hexI c = -1 := by
  have h3 : hexB c = false := by unfold hexB; rw [h0]; simp; omega
  unfold hexI
  rw [h3]
  rfl
set_option maxRecDepth 100000 in
set_option maxHeartbeats 800000 in
theorem nibble60 (c : UInt8) (w : World) : Calls Tryz.prog 78 #[vB c] w fun e w' => e = .returned (.int .i64 (hexI c)) ∧ w = w' := by
  have h8 := c.toNat_lt
  cases hd : digB c with
  | true =>
    have HI := Lib.hid (hexD_dig c hd)
    have HD := Lib.hid hd
    go_enter Tryz.func78, Tryz.ntmps78
    go_wp2_with (go_at_call 90; refine (refDigit_b c _).mono ?_; rintro e w' ⟨rfl, rfl⟩; rw [HD.out])
    go_ret
    exact ⟨by rw [HI.out]; exact ret_int (by try go_num), rfl⟩
  | false =>
    have HD := Lib.hid hd
    by_cases h1 : 97 ≤ c.toNat
    · have h3 : (97 : Int) ≤ (c.toNat : Int) := by omega
      by_cases h2 : c.toNat ≤ 102
      · have HI := Lib.hid (hexD_let c hd h1 h2)
        have h4 : (c.toNat : Int) ≤ 102 := by omega
        go_enter Tryz.func78, Tryz.ntmps78
        go_wp2_with (go_at_call 90; refine (refDigit_b c _).mono ?_; rintro e w' ⟨rfl, rfl⟩; rw [HD.out])
        go_ret
        exact ⟨by rw [HI.out]; exact ret_int (by try go_num), rfl⟩
      · have HI := Lib.hid (hexD_no c hd (by omega))
        have h4 : ¬ (c.toNat : Int) ≤ 102 := by omega
        go_enter Tryz.func78, Tryz.ntmps78
        go_wp2_with (go_at_call 90; refine (refDigit_b c _).mono ?_; rintro e w' ⟨rfl, rfl⟩; rw [HD.out])
        go_ret
        exact ⟨ret_int HI.out.symm, rfl⟩
    · have HI := Lib.hid (hexD_no c hd (by omega))
      have h4 : ¬ (97 : Int) ≤ (c.toNat : Int) := by omega
      go_enter Tryz.func78, Tryz.ntmps78
      go_wp2_with (go_at_call 90; refine (refDigit_b c _).mono ?_; rintro e w' ⟨rfl, rfl⟩; rw [HD.out])
      go_ret
      exact ⟨ret_int HI.out.symm, rfl⟩
/-- What the reference's Unhex returns. -/
def UnE (s : ByteArray) (w : World) (e : Ending) (w' : World) : Prop :=
  Below w.heap.size w w' ∧ ((¬ (s.size % 2 = 0 ∧ (bl s).all hexB = true) ∧ e = .returned (.tuple #[.slice none 0 0, .int .i64 3])) ∨
    ((s.size % 2 = 0 ∧ (bl s).all hexB = true) ∧ ∃ v, e = .returned (.tuple #[v, .int .i64 0]) ∧ Own w' w.heap.size 5 1 c1 v (unhexL (bl s))))
theorem take2_all (s : ByteArray) (k : Nat) (h : k + 1 < s.size) (ha : ((bl s).take k).all hexB = true) (h1 : hexB s[k] = true) (h2 : hexB s[k + 1] = true) : ((bl s).take (k + 2)).all hexB = true := by
  have e : (bl s).take (k + 2) = (bl s).take k ++ [s[k], s[k + 1]] := by
    rw [List.take_succ_eq_append_getElem (by rw [bl_length]; exact h), List.take_succ_eq_append_getElem (by rw [bl_length]; omega), List.append_assoc]
    rfl
  rw [e, List.all_append, ha]
  simp [h1, h2]
theorem bad_at (s : ByteArray) (k : Nat) (h : k < s.size) (hb : hexB s[k] = false) : ¬ (s.size % 2 = 0 ∧ (bl s).all hexB = true) := by
  rintro ⟨_, ha⟩
  rw [hex_at s ha k h] at hb
  cases hb
theorem pairV_conv {a b : UInt8} (ha : hexB a = true) (hb : hexB b = true) : IntKind.u8.wrap (16 * (hexV a : Int) + (hexV b : Int)) = ((pairV a b).toNat : Int) := by
  rw [pairV_toNat ha hb]
  have h1 := hexV_lt a ha
  have h2 := hexV_lt b hb
  simp [IntKind.wrap, IntKind.bits, IntKind.signed]; omega
theorem hexI_yes (c : UInt8) (h : hexB c = true) : hexI c = (hexV c : Int) := by unfold hexI; rw [if_pos h]
theorem hexI_bad (c : UInt8) (h : hexB c = false) : hexI c = -1 := by unfold hexI; rw [h]; rfl
theorem nibbleA (c a : UInt8) (h : c = a) (w : World) : Calls Tryz.prog 78 #[vB c] w fun e w' => e = .returned (.int .i64 (hexI a)) ∧ w' = w := by
  subst h
  refine (nibble60 c w).mono ?_
  rintro e w' ⟨rfl, rfl⟩
  exact ⟨rfl, rfl⟩
set_option maxRecDepth 100000 in
set_option maxHeartbeats 3200000 in
theorem refUnhex35 (s : ByteArray) (w : World) (hs : s.size ≤ 1000000) : Calls Tryz.prog 58 #[.string s] w (UnE s w) := by
  have htm : ((s.size : Int)).tmod 2 = (s.size : Int) % 2 := Int.tmod_eq_emod_of_nonneg (by omega)
  by_cases hodd : s.size % 2 = 0
  · have h2 : ((s.size : Int) % 2 == 1) = false := by simp; omega
    have HE := Lib.hid hodd
    clear hodd
    go_enter Tryz.func58, Tryz.ntmps58
    go_wp2
    go_loopw [4, 5] (fun v i wr => ∃ k : Nat, k ≤ s.size ∧ k % 2 = 0 ∧ i = .int .i64 k ∧ ((bl s).take k).all hexB = true ∧ Below w.heap.size w wr ∧ Own wr w.heap.size 5 1 c1 v (unhexL ((bl s).take k))) (fun _ i _ => s.size - (intOf i).toNat)
    case atStart => exact ⟨0, Nat.zero_le _, rfl, rfl, rfl, Below.refl _ _, Own.nil _ _ _ _ _⟩
    case round =>
      obtain ⟨k, hk, hev, rfl, hall, hb, ho⟩ := hrel
      have HO := Lib.hid (And.intro hb (And.intro ho hall))
      clear hb ho hall
      by_cases hlt : k < s.size
      · have hlt1 : k + 1 < s.size := by have := HE.out; omega
        have q3 : IntKind.i64.wrap ((k : Int) + 1) = (k : Int) + 1 := IntWalk.i64_in _ (by omega)
        have q4 : (k : Int) + 1 < (s.size : Int) := by omega
        have T1 := Lib.hid trivial
        obtain ⟨a, ha⟩ : ∃ a, s[k] = a := ⟨_, rfl⟩
        obtain ⟨b, hb⟩ : ∃ b, s[k + 1] = b := ⟨_, rfl⟩
        have HU := Lib.hid (And.intro (unhexL_length (k / 2) ((bl s).take k) (by rw [List.length_take, bl_length]; omega)) (And.intro ha (And.intro hb (unhexL_step s k hlt1 hev))))
        clear ha hb
        go_wp2_with fail
        refine AnyO.wp_any_tail 9 (by kernel_rfl) (by kernel_rfl) (by kernel_rfl) (by kernel_rfl) (by kernel_rfl) (by kernel_rfl) (pstP [isV (.string s), isV (.int .i64 (k : Int)), isV (vB s[k]), isV (.int .i64 (hexI s[k])), isV (.string s), isV (.int .i64 (k : Int)), isV (.int .i64 ((k : Int) + 1)), isV (vB s[k + 1]), isV (.int .i64 (hexI s[k + 1]))]) (MonoL.cons (Mono.v _) (MonoL.cons (Mono.v _) (MonoL.cons (Mono.v _) (MonoL.cons (Mono.v _) (MonoL.cons (Mono.v _) (MonoL.cons (Mono.v _) (MonoL.cons (Mono.v _) (MonoL.cons (Mono.v _) (MonoL.cons (Mono.v _) MonoL.nil))))))))) ?_ ?_
        · intro i hi
          have hi2 : i = 0 ∨ i = 1 ∨ i = 2 ∨ i = 3 ∨ i = 4 ∨ i = 5 ∨ i = 6 ∨ i = 7 ∨ i = 8 := by omega
          clear hi
          rcases hi2 with rfl | rfl | rfl | rfl | rfl | rfl | rfl | rfl | rfl
          · -- 0: Op.move (Operand.tmp 0)
            refine AnyO.Step.mk rfl [] (by kernel_rfl) ?_
            intro vs u hE hp ac hb K hK
            have s0 : ac.tmps[0]?.getD undef = .string s := by rw [hb]; kernel_rfl
            rw [if_pos (AnyO.wanted_none rfl)]
            clear hb hp
            go_simp
            exact hK _ _ (Below.refl _ _) rfl
          · -- 1: Op.move (Operand.tmp 5)
            refine AnyO.Step.mk rfl [] (by kernel_rfl) ?_
            intro vs u hE hp ac hb K hK
            have s5 : ac.tmps[5]?.getD undef = .int .i64 (k : Int) := by rw [hb]; kernel_rfl
            rw [if_pos (AnyO.wanted_none rfl)]
            clear hb hp
            go_simp
            exact hK _ _ (Below.refl _ _) rfl
          · -- 2: Op.index 9 (Operand.tmp 18) (Operand.tmp 19)
            refine AnyO.Step.mk rfl [0, 1] (by kernel_rfl) ?_
            intro vs u hE hp ac hb K hK
            have s18 : ac.tmps[18]?.getD undef = .string s := by rw [hb]; exact (show _ = vs 0 by kernel_rfl).trans (hp 0 (by decide))
            have s19 : ac.tmps[19]?.getD undef = .int .i64 (k : Int) := by rw [hb]; exact (show _ = vs 1 by kernel_rfl).trans (hp 1 (by decide))
            rw [if_pos (AnyO.wanted_none rfl)]
            clear hb hp
            go_simp
            exact hK _ _ (Below.refl _ _) rfl
          · -- 3: Op.call { callee := Callee.value (Operand.func 78), args := 
            refine AnyO.Step.mk rfl [2] (by kernel_rfl) ?_
            intro vs u hE hp ac hb K hK
            have s20 : ac.tmps[20]?.getD undef = vB s[k] := by rw [hb]; exact (show _ = vs 2 by kernel_rfl).trans (hp 2 (by decide))
            rw [if_pos (AnyO.wanted_none rfl)]
            clear hb hp
            go_simp
            go_at_call 78
            refine (nibble60 s[k] u).mono ?_
            rintro e w2 ⟨rfl, rfl⟩
            exact hK _ _ (Below.refl _ _) rfl
          · -- 4: Op.move (Operand.tmp 0)
            refine AnyO.Step.mk rfl [] (by kernel_rfl) ?_
            intro vs u hE hp ac hb K hK
            have s0 : ac.tmps[0]?.getD undef = .string s := by rw [hb]; kernel_rfl
            rw [if_pos (AnyO.wanted_none rfl)]
            clear hb hp
            go_simp
            exact hK _ _ (Below.refl _ _) rfl
          · -- 5: Op.move (Operand.tmp 5)
            refine AnyO.Step.mk rfl [] (by kernel_rfl) ?_
            intro vs u hE hp ac hb K hK
            have s5 : ac.tmps[5]?.getD undef = .int .i64 (k : Int) := by rw [hb]; kernel_rfl
            rw [if_pos (AnyO.wanted_none rfl)]
            clear hb hp
            go_simp
            exact hK _ _ (Below.refl _ _) rfl
          · -- 6: Op.binOp BinOp.add 3 (Operand.tmp 23) (Operand.const (Value.
            refine AnyO.Step.mk rfl [5] (by kernel_rfl) ?_
            intro vs u hE hp ac hb K hK
            have s23 : ac.tmps[23]?.getD undef = .int .i64 (k : Int) := by rw [hb]; exact (show _ = vs 5 by kernel_rfl).trans (hp 5 (by decide))
            rw [if_pos (AnyO.wanted_none rfl)]
            clear hb hp
            go_simp
            exact hK _ _ (Below.refl _ _) rfl
          · -- 7: Op.index 9 (Operand.tmp 22) (Operand.tmp 24)
            refine AnyO.Step.mk rfl [4, 6] (by kernel_rfl) ?_
            intro vs u hE hp ac hb K hK
            have s22 : ac.tmps[22]?.getD undef = .string s := by rw [hb]; exact (show _ = vs 4 by kernel_rfl).trans (hp 4 (by decide))
            have s24 : ac.tmps[24]?.getD undef = .int .i64 ((k : Int) + 1) := by rw [hb]; exact (show _ = vs 6 by kernel_rfl).trans (hp 6 (by decide))
            rw [if_pos (AnyO.wanted_none rfl)]
            clear hb hp
            go_simp
            exact hK _ _ (Below.refl _ _) rfl
          · -- 8: Op.call { callee := Callee.value (Operand.func 78), args := 
            refine AnyO.Step.mk rfl [7, 3] (by kernel_rfl) ?_
            intro vs u hE hp ac hb K hK
            have s25 : ac.tmps[25]?.getD undef = vB s[k + 1] := by rw [hb]; exact (show _ = vs 7 by kernel_rfl).trans (hp 7 (by decide))
            rw [if_pos (AnyO.wanted_none rfl)]
            clear hb hp
            go_simp
            go_at_call 78
            refine (nibble60 s[k + 1] u).mono ?_
            rintro e w2 ⟨rfl, rfl⟩
            exact hK _ _ (Below.refl _ _) rfl
        · intro vs u hE hp
          have e0 : vs 0 = .string s := hp 0 (by decide)
          have e1 : vs 1 = .int .i64 (k : Int) := hp 1 (by decide)
          have e2 : vs 2 = vB s[k] := hp 2 (by decide)
          have e3 : vs 3 = .int .i64 (hexI s[k]) := hp 3 (by decide)
          have e4 : vs 4 = .string s := hp 4 (by decide)
          have e5 : vs 5 = .int .i64 (k : Int) := hp 5 (by decide)
          have e6 : vs 6 = .int .i64 ((k : Int) + 1) := hp 6 (by decide)
          have e7 : vs 7 = vB s[k + 1] := hp 7 (by decide)
          have e8 : vs 8 = .int .i64 (hexI s[k + 1]) := hp 8 (by decide)
          clear hp
          have HE2 := Lib.hid hE; clear hE
          rw [puts_range [some 18, some 19, some 20, some 21, some 22, some 23, some 24, some 25, some 26] (by kernel_rfl)]
          simp only [putL, Nat.reduceAdd, List.drop_succ_cons, List.drop_zero, e0, e1, e2, e3, e4, e5, e6, e7, e8]
          clear e0 e1 e2 e3 e4 e5 e6 e7 e8
          go_simp
          cases hx : hexB s[k] with
          | false =>
            have g1 := hexI_bad s[k] hx
            have HB := Lib.hid (bad_at s k hlt hx)
            clear hx
            go_wp2
            go_ret2
            exact ⟨HO.out.1.trans (HE2.out.mono HO.out.1.size), .inl ⟨HB.out, rfl⟩⟩
          | true =>
            have g1 := hexI_yes s[k] hx
            have b1 := hexV_lt s[k] hx
            cases hy : hexB s[k + 1] with
            | false =>
              have g2 := hexI_bad s[k + 1] hy
              have HB := Lib.hid (bad_at s (k + 1) hlt1 hy)
              clear hx hy
              have b3 : ¬ ((hexV s[k] : Int) < 0) := by omega
              go_wp2
              go_ret2
              exact ⟨HO.out.1.trans (HE2.out.mono HO.out.1.size), .inl ⟨HB.out, rfl⟩⟩
            | true =>
              have g2 := hexI_yes s[k + 1] hy
              have b2 := hexV_lt s[k + 1] hy
              have b3 : ¬ ((hexV s[k] : Int) < 0) := by omega
              have b4 : ¬ ((hexV s[k + 1] : Int) < 0) := by omega
              have g3 := pairV_conv hx hy
              have HT := Lib.hid (take2_all s k hlt1 HO.out.2.2 hx hy)
              clear hx hy
              go_wp2_with (at_builtin; refine wpList_append_sl _ rfl (.tmp 33) (.tmp 39) 47 rfl w.heap.size 5 1 1 c1 underBs rowB (by decide) c1_length c1_one u4 (unhexL ((bl s).take k)) rfl (Own.keep (Own.keep HO.out.2.1 HE2.out) (below_alloc u (.cells #[cB (pairV s[k] s[k + 1])] 5))) _ 1 1 [pairV s[k] s[k + 1]] rfl rfl (sl_newB u (pairV s[k] s[k + 1])) (by have := HU.out.1; omega) (by have := HU.out.1; omega) (by have := HO.out.1.size; have := HE2.out.size; simp; omega) ?_)
              intro v2 w2 ho hg
              have hb1 : Below w.heap.size w (u.alloc (.cells #[cB (pairV s[k] s[k + 1])] 5)) := (HO.out.1.trans (HE2.out.mono HO.out.1.size)).alloc (Nat.le_trans HO.out.1.size HE2.out.size) _
              have hb2 := Own.grew (Own.keep (Own.keep HO.out.2.1 HE2.out) (below_alloc u (.cells #[cB (pairV s[k] s[k + 1])] 5))) hg hb1 (Nat.le_refl _) hb1.size
              have H2 := Lib.hid (And.intro hb2 ho); clear hb2 ho hg hb1
              go_wp2
              go_roundw
              case rel => exact ⟨k + 2, by omega, by omega, by go_num, HT.out, H2.out.1, by rw [HU.out.2.2.2]; exact H2.out.2⟩
              case measure => simp [intOf] <;> omega
      · have hkn : k = s.size := by omega
        subst hkn
        go_wp2
        go_ret2
        have ht : (bl s).take s.size = bl s := by rw [← bl_length, List.take_length]
        exact ⟨HO.out.1, .inr ⟨⟨HE.out, by have := HO.out.2.2; rwa [ht] at this⟩, _, rfl, by have := HO.out.2.1; rwa [ht] at this⟩⟩
  · have h2 : ((s.size : Int) % 2 == 1) = true := by simp; omega
    have HE := Lib.hid hodd
    clear hodd
    go_enter Tryz.func58, Tryz.ntmps58
    go_wp2
    go_ret2
    exact ⟨Below.refl _ _, .inl ⟨fun h => HE.out h.1, rfl⟩⟩
end Go.Proofs.YtecalodcbkljoaaGreatDoor
namespace Go.Proofs.YtecalodcbkljoaaGreatDoor
open Go.RowKit
set_option maxHeartbeats 400000 in
theorem value_r (c : UInt8) (w : World) : Calls Tryz.prog 79 #[vB c] w fun e w' => e = .returned (.int .i64 (hexI c)) ∧ w = w' := by
  have hc := c.toNat_lt
  go_enter Tryz.func79, Tryz.ntmps79
  go_wp2
  all_goals
    go_ret
    first
      | exact ⟨ret_int (hexI_dig c ‹_› ‹_›).symm, rfl⟩
      | exact ⟨ret_int (hexI_low c ‹_› ‹_›).symm, rfl⟩
      | exact ⟨ret_int (hexI_no c (by first | exact .inl ‹_› | exact .inr ‹_›) (by first | exact .inl ‹_› | exact .inr ‹_›)).symm, rfl⟩
end Go.Proofs.YtecalodcbkljoaaGreatDoor
namespace Go.Proofs.YtecalodcbkljoaaGreatDoor
open Go.RowKit
/-- The byte number j behind m digits. -/
def accV (l : List UInt8) (m j : Nat) : Nat := if 2 * j + 2 ≤ m then 16 * hexV (l.getD (1 + 2 * j) 0) + hexV (l.getD (2 + 2 * j) 0) else if 2 * j + 1 ≤ m then hexV (l.getD (1 + 2 * j) 0) else 0
def accI (l : List UInt8) (m : Nat) : Id := ⟨(List.range 32).map fun j => UInt8.ofNat (accV l m j), by simp⟩
theorem accI_zero (l : List UInt8) : accI l 0 = zI := by
  apply Subtype.ext
  show (List.range 32).map (fun j => UInt8.ofNat (accV l 0 j)) = List.replicate 32 0
  refine List.ext_getElem (by simp) fun i h1 h2 => ?_
  rw [List.getElem_replicate]
  simp [accV]
theorem accV_lt (l : List UInt8) (m j : Nat) (h : ∀ i, 1 ≤ i → i ≤ m → hexB (l.getD i 0) = true) : accV l m j < 256 := by
  unfold accV
  split
  · have h1 := hexV_lt _ (h (1 + 2 * j) (by omega) (by omega))
    have h2 := hexV_lt _ (h (2 + 2 * j) (by omega) (by omega))
    omega
  · split
    · have h1 := hexV_lt _ (h (1 + 2 * j) (by omega) (by omega))
      omega
    · omega
theorem accV_step (l : List UInt8) (m : Nat) : accV l (m + 1) (m / 2) = 16 * accV l m (m / 2) + hexV (l.getD (m + 1) 0) := by
  unfold accV
  rcases Nat.mod_two_eq_zero_or_one m with h | h
  · rw [if_neg (by omega), if_pos (by omega), if_neg (by omega), if_neg (by omega), show 1 + 2 * (m / 2) = m + 1 by omega]
    omega
  · rw [if_pos (by omega), if_neg (by omega), if_pos (by omega), show 2 + 2 * (m / 2) = m + 1 by omega]
theorem accV_other (l : List UInt8) (m j : Nat) (h : j ≠ m / 2) : accV l (m + 1) j = accV l m j := by
  unfold accV
  by_cases h1 : 2 * j + 2 ≤ m
  · rw [if_pos (by omega), if_pos h1]
  · rw [if_neg (by omega), if_neg h1]
    by_cases h2 : 2 * j + 1 ≤ m
    · rw [if_pos (by omega), if_pos h2]
    · rw [if_neg (by omega), if_neg h2]
theorem accI_at (l : List UInt8) (m j : Nat) (h : j < 32) : (accI l m).1[j]'(by rw [(accI l m).2]; exact h) = UInt8.ofNat (accV l m j) := by
  unfold accI
  simp
theorem accI_step (l : List UInt8) (m : Nat) (_h : m < 64) : cI (accI l (m + 1)) = (cI (accI l m)).set (m / 2) (vB (UInt8.ofNat (16 * accV l m (m / 2) + hexV (l.getD (m + 1) 0)))) := by
  unfold cI
  show (accI l (m + 1)).1.map cB = ((accI l m).1.map cB).set (m / 2) (cB (UInt8.ofNat (16 * accV l m (m / 2) + hexV (l.getD (m + 1) 0))))
  rw [← List.map_set]
  congr 1
  refine List.ext_getElem (by simp [(accI l m).2, (accI l (m + 1)).2]) fun i h1 h2 => ?_
  have hi : i < 32 := by rw [(accI l (m + 1)).2] at h1; exact h1
  rw [accI_at l (m + 1) i hi, List.getElem_set]
  split
  · rename_i e
    subst e
    rw [accV_step]
  · rename_i e
    rw [accI_at l m i hi, accV_other l m i (fun q => e q.symm)]
theorem unhexL_get : ∀ (j : Nat) (l : List UInt8), 2 * j + 1 < l.length → (unhexL l)[j]? = some (pairV (l.getD (2 * j) 0) (l.getD (2 * j + 1) 0))
  | 0, a :: b :: r, _ => rfl
  | j + 1, a :: b :: r, h => by
    have ih := unhexL_get j r (by simp only [List.length_cons] at h; omega)
    show (pairV a b :: unhexL r)[j + 1]? = _
    rw [List.getElem?_cons_succ, ih, show 2 * (j + 1) = 2 * j + 1 + 1 by omega]
    simp
  | _, [], h => by simp at h
  | _, [a], h => by simp at h
theorem accI_last (l : List UInt8) (h : l.length = 71) : accI l 64 = midL l := by
  have hl : (unhexL ((l.drop 1).take 64)).length = 32 := unhexL_length 32 _ (by rw [List.length_take, List.length_drop]; omega)
  unfold midL toId
  rw [dif_pos hl]
  apply Subtype.ext
  refine List.ext_getElem? fun i => ?_
  by_cases hi : i < 32
  · show ((accI l 64).1)[i]? = _
    rw [List.getElem?_eq_getElem (by rw [(accI l 64).2]; exact hi), accI_at l 64 i hi, unhexL_get i _ (by rw [List.length_take, List.length_drop]; omega)]
    unfold accV pairV
    rw [if_pos (by omega)]
    have e : ∀ k, k < 64 → ((l.drop 1).take 64).getD k 0 = l.getD (1 + k) 0 := fun k hk => by
      rw [List.getD_eq_getElem?_getD, List.getD_eq_getElem?_getD, List.getElem?_take, if_pos hk, List.getElem?_drop]
    rw [e _ (by omega), e _ (by omega), show 1 + (2 * i + 1) = 2 + 2 * i by omega]
  · rw [List.getElem?_eq_none (by rw [(accI l 64).2]; omega), List.getElem?_eq_none (show (unhexL ((l.drop 1).take 64)).length ≤ i by omega)]
/-- What Parse returns. -/
def PaR (s : ByteArray) (w : World) (e : Ending) (w' : World) : Prop :=
  Below w.heap.size w w' ∧ ((identB (bl s) = true ∧ e = .returned (.tuple #[vI (midL (bl s)), .int .i64 0, .int .i64 0])) ∨ (identB (bl s) = false ∧ ∃ a c, c ≠ 0 ∧ e = .returned (.tuple #[vI zI, .int .i64 a, .int .i64 c])))
structure PsR (w : World) (g : Nat) (s : ByteArray) (k : Nat) (wr : World) : Prop where
  below : Below w.heap.size w wr
  size : w.heap.size = g
  rc : Row wr g (cI zI) 36
  rd : Row wr (g + 1) (cI (accI (bl s) (min (k - 1) 64))) 36
  ok : AllOk s k
theorem PsR.hex {w : World} {g : Nat} {s : ByteArray} {k : Nat} {wr : World} (h : PsR w g s k wr) (hk : k ≤ s.size) (i : Nat) (h1 : 1 ≤ i) (h2 : i ≤ min (k - 1) 64) : hexB ((bl s).getD i 0) = true := by
  have ho := h.ok i (by omega) (by omega)
  rw [List.getD_eq_getElem?_getD, List.getElem?_eq_getElem (by rw [bl_length]; omega)]
  exact okAt_hex ho h1 (by omega)
theorem ident_no {s : ByteArray} {k : Nat} (hk : k < s.size) (h71 : k < 71) (h : okAt k s[k] = false) : identB (bl s) = false := by
  rw [← Bool.not_eq_true]
  intro hi
  rw [identB_at hi k h71 hk] at h
  cases h
theorem ident_len {s : ByteArray} (h : s.size ≠ 71) : identB (bl s) = false := by
  rw [← Bool.not_eq_true]
  intro hi
  exact h (identB_size hi)
theorem okAt_zero (c : UInt8) : okAt 0 c = decide (c.toNat = 60) := rfl
theorem PsR.zero {w : World} {g : Nat} {s : ByteArray} (hg : w.heap.size = g) : PsR w g s 0 ((w.alloc (.cells (aI zI) 36)).alloc (.cells (aI zI) 36)) := by
  subst hg
  refine ⟨Below.step (below_alloc _ _) (below_alloc _ _), rfl, (Row.new w (cI zI) _).keep (below_alloc _ _), ?_, AllOk.zero s⟩
  have h := Row.new (w.alloc (.cells (aI zI) 36)) (cI zI) 36
  rw [show min (0 - 1) 64 = 0 from rfl, accI_zero]
  rw [show (w.alloc (.cells (aI zI) 36)).heap.size = w.heap.size + 1 from by simp] at h
  exact h
theorem PsR.next {w : World} {g : Nat} {s : ByteArray} {k : Nat} {wr : World} (h : PsR w g s k wr) (hk : k < s.size) (ho : okAt k s[k] = true) (hd : k = 0 ∨ 65 ≤ k) : PsR w g s (k + 1) wr := by
  refine ⟨h.below, h.size, h.rc, ?_, AllOk.step s k hk h.ok ho⟩
  have e : min (k + 1 - 1) 64 = min (k - 1) 64 := by omega
  rw [e]
  exact h.rd
theorem PsR.keep {w : World} {g : Nat} {s : ByteArray} {k : Nat} {wr w' : World} (h : PsR w g s k wr) (hb : Below wr.heap.size wr w') : PsR w g s k w' :=
  ⟨Below.step h.below hb, h.size, h.rc.keep hb, h.rd.keep hb, h.ok⟩
theorem PsR.set {w : World} {g : Nat} {s : ByteArray} {k : Nat} {wr : World} (h : PsR w g s k wr) (hk : k < s.size) (ho : okAt k s[k] = true) (h1 : 1 ≤ k) (h2 : k ≤ 64) :
    PsR w g s (k + 1) (wr.setCell ⟨g + 1, (k - 1) / 2, none⟩ (vB (UInt8.ofNat (16 * accV (bl s) (k - 1) ((k - 1) / 2) + hexV s[k])))) := by
  have hs := h.size
  refine ⟨h.below.setCell (show w.heap.size ≤ g + 1 by omega) _, h.size, h.rc.same (heap_set_other _ _ _ _ _ (by omega)), ?_, AllOk.step s k hk h.ok ho⟩
  have e1 : min (k + 1 - 1) 64 = (k - 1) + 1 := by omega
  have e2 : min (k - 1) 64 = k - 1 := by omega
  have e3 : (bl s).getD (k - 1 + 1) 0 = s[k] := by
    rw [show k - 1 + 1 = k by omega, List.getD_eq_getElem?_getD, List.getElem?_eq_getElem (by rw [bl_length]; exact hk)]
    rfl
  have hr := h.rd
  rw [e2] at hr
  rw [e1, accI_step _ _ (by omega), e3]
  exact hr.set _ _
set_option maxRecDepth 100000 in
set_option maxHeartbeats 6400000 in
theorem rparse_b (s : ByteArray) (w : World) : Calls Tryz.prog 59 #[.string s] w (PaR s w) := by
  obtain ⟨g, hg⟩ : ∃ g, w.heap.size = g := ⟨_, rfl⟩
  obtain ⟨W1, hW1⟩ : ∃ W1, (w.alloc (.cells (aI zI) 36)).alloc (.cells (aI zI) 36) = W1 := ⟨_, rfl⟩
  have H1 := Lib.hid (show PsR w g s 0 W1 from by rw [← hW1]; exact PsR.zero hg)
  have hle : w.heap.size ≤ g := by omega
  go_enter Tryz.func59, Tryz.ntmps59
  go_wp2_with fail
  clear hg hW1
  go_loopw [7] (fun i wr => ∃ k : Nat, k ≤ 71 ∧ k ≤ s.size ∧ i = .int .i64 k ∧ PsR w g s k wr) (fun i _ => 71 - (intOf i).toNat)
  case atStart => exact ⟨0, by omega, by omega, rfl, H1.out⟩
  case round =>
    obtain ⟨k, hk, hks, rfl, hr⟩ := hrel
    have HR := Lib.hid hr
    clear hr
    obtain ⟨-, -, ro⟩ := rowI HR.out.rc
    by_cases hlt : k < s.size
    · have hlti : (k : Int) < (s.size : Int) := by omega
      by_cases h71 : k < 71
      · have h71i : (k : Int) < 71 := by omega
        have hcase : k = 0 ∨ (1 ≤ k ∧ k ≤ 64) ∨ k = 65 ∨ k = 66 ∨ k = 67 ∨ k = 68 ∨ k = 69 ∨ k = 70 := by omega
        cases hok : okAt k s[k] with
        | false =>
          have HNO := Lib.hid (ident_no hlt h71 hok)
          rcases hcase with rfl | ⟨h1, h2⟩ | rfl | rfl | rfl | rfl | rfl | rfl
          · obtain ⟨y, hy⟩ : ∃ y, s[0] = y := ⟨_, rfl⟩
            rw [hy] at hok
            have hne : ¬ ((y.toNat : Int) = 60) := by
              have : ¬ y.toNat = 60 := by simpa [okAt_zero] using hok
              omega
            clear hok
            go_wp2
            have hld := load_id2 (at_setRow (cI zI) ro)
            exact bodyPost_ret (results_c3 (ad := ⟨g, 0, none⟩) rfl rfl hld rfl rfl) rfl ⟨Below.setRow HR.out.below hle _, .inr ⟨HNO.out, _, _, by decide, rfl⟩⟩
          · have hx : hexB s[k] = false := by
              unfold okAt at hok
              rwa [if_neg (by omega), if_pos (by omega)] at hok
            have hi : hexI s[k] = -1 := by unfold hexI; rw [if_neg (by rw [hx]; decide)]
            have g0 : ¬ (k : Int) = 0 := by omega
            have g1 : (k : Int) ≤ 64 := by omega
            have HI := Lib.hid hi
            clear hok hx hi
            go_wp2_with (go_at_call 79; refine (value_r _ _).mono ?_; rintro e w' ⟨rfl, rfl⟩; rw [HI.out])
            have hld := load_id2 (at_setRow (cI zI) ro)
            exact bodyPost_ret (results_c3 (ad := ⟨g, 0, none⟩) rfl rfl hld rfl rfl) rfl ⟨Below.setRow HR.out.below hle _, .inr ⟨HNO.out, _, _, by decide, rfl⟩⟩
          · obtain ⟨y, hy⟩ : ∃ y, s[65] = y := ⟨_, rfl⟩
            rw [hy] at hok
            have hne : ¬ ((y.toNat : Int) = 64) := by
              have : ¬ y.toNat = 64 := by simpa [okAt] using hok
              omega
            have hq : ((y.toNat : Int) != (((⟨#[64, 104, 97, 115, 104, 62]⟩ : ByteArray)[0]'(by decide)).toNat : Int)) = true := by show ((y.toNat : Int) != 64) = true; simpa using hne
            clear hok
            go_wp2_with fail
            go_quiet (fail)
            have ro2 : rowOk (wr.drewN nq) g 32 = true := ro
            have H2 := Lib.hid (Below.step HR.out.below (below_drewN wr nq))
            go_wp2
            have hld := load_id2 (at_setRow (cI zI) ro2)
            exact bodyPost_ret (results_c3 (ad := ⟨g, 0, none⟩) rfl rfl hld rfl rfl) rfl ⟨Below.setRow H2.out hle _, .inr ⟨HNO.out, _, _, by decide, rfl⟩⟩
          · obtain ⟨y, hy⟩ : ∃ y, s[66] = y := ⟨_, rfl⟩
            rw [hy] at hok
            have hne : ¬ ((y.toNat : Int) = 104) := by
              have : ¬ y.toNat = 104 := by simpa [okAt] using hok
              omega
            have hq : ((y.toNat : Int) != (((⟨#[64, 104, 97, 115, 104, 62]⟩ : ByteArray)[1]'(by decide)).toNat : Int)) = true := by show ((y.toNat : Int) != 104) = true; simpa using hne
            clear hok
            go_wp2_with fail
            go_quiet (fail)
            have ro2 : rowOk (wr.drewN nq) g 32 = true := ro
            have H2 := Lib.hid (Below.step HR.out.below (below_drewN wr nq))
            go_wp2
            have hld := load_id2 (at_setRow (cI zI) ro2)
            exact bodyPost_ret (results_c3 (ad := ⟨g, 0, none⟩) rfl rfl hld rfl rfl) rfl ⟨Below.setRow H2.out hle _, .inr ⟨HNO.out, _, _, by decide, rfl⟩⟩
          · obtain ⟨y, hy⟩ : ∃ y, s[67] = y := ⟨_, rfl⟩
            rw [hy] at hok
            have hne : ¬ ((y.toNat : Int) = 97) := by
              have : ¬ y.toNat = 97 := by simpa [okAt] using hok
              omega
            have hq : ((y.toNat : Int) != (((⟨#[64, 104, 97, 115, 104, 62]⟩ : ByteArray)[2]'(by decide)).toNat : Int)) = true := by show ((y.toNat : Int) != 97) = true; simpa using hne
            clear hok
            go_wp2_with fail
            go_quiet (fail)
            have ro2 : rowOk (wr.drewN nq) g 32 = true := ro
            have H2 := Lib.hid (Below.step HR.out.below (below_drewN wr nq))
            go_wp2
            have hld := load_id2 (at_setRow (cI zI) ro2)
            exact bodyPost_ret (results_c3 (ad := ⟨g, 0, none⟩) rfl rfl hld rfl rfl) rfl ⟨Below.setRow H2.out hle _, .inr ⟨HNO.out, _, _, by decide, rfl⟩⟩
          · obtain ⟨y, hy⟩ : ∃ y, s[68] = y := ⟨_, rfl⟩
            rw [hy] at hok
            have hne : ¬ ((y.toNat : Int) = 115) := by
              have : ¬ y.toNat = 115 := by simpa [okAt] using hok
              omega
            have hq : ((y.toNat : Int) != (((⟨#[64, 104, 97, 115, 104, 62]⟩ : ByteArray)[3]'(by decide)).toNat : Int)) = true := by show ((y.toNat : Int) != 115) = true; simpa using hne
            clear hok
            go_wp2_with fail
            go_quiet (fail)
            have ro2 : rowOk (wr.drewN nq) g 32 = true := ro
            have H2 := Lib.hid (Below.step HR.out.below (below_drewN wr nq))
            go_wp2
            have hld := load_id2 (at_setRow (cI zI) ro2)
            exact bodyPost_ret (results_c3 (ad := ⟨g, 0, none⟩) rfl rfl hld rfl rfl) rfl ⟨Below.setRow H2.out hle _, .inr ⟨HNO.out, _, _, by decide, rfl⟩⟩
          · obtain ⟨y, hy⟩ : ∃ y, s[69] = y := ⟨_, rfl⟩
            rw [hy] at hok
            have hne : ¬ ((y.toNat : Int) = 104) := by
              have : ¬ y.toNat = 104 := by simpa [okAt] using hok
              omega
            have hq : ((y.toNat : Int) != (((⟨#[64, 104, 97, 115, 104, 62]⟩ : ByteArray)[4]'(by decide)).toNat : Int)) = true := by show ((y.toNat : Int) != 104) = true; simpa using hne
            clear hok
            go_wp2_with fail
            go_quiet (fail)
            have ro2 : rowOk (wr.drewN nq) g 32 = true := ro
            have H2 := Lib.hid (Below.step HR.out.below (below_drewN wr nq))
            go_wp2
            have hld := load_id2 (at_setRow (cI zI) ro2)
            exact bodyPost_ret (results_c3 (ad := ⟨g, 0, none⟩) rfl rfl hld rfl rfl) rfl ⟨Below.setRow H2.out hle _, .inr ⟨HNO.out, _, _, by decide, rfl⟩⟩
          · obtain ⟨y, hy⟩ : ∃ y, s[70] = y := ⟨_, rfl⟩
            rw [hy] at hok
            have hne : ¬ ((y.toNat : Int) = 62) := by
              have : ¬ y.toNat = 62 := by simpa [okAt] using hok
              omega
            have hq : ((y.toNat : Int) != (((⟨#[64, 104, 97, 115, 104, 62]⟩ : ByteArray)[5]'(by decide)).toNat : Int)) = true := by show ((y.toNat : Int) != 62) = true; simpa using hne
            clear hok
            go_wp2_with fail
            go_quiet (fail)
            have ro2 : rowOk (wr.drewN nq) g 32 = true := ro
            have H2 := Lib.hid (Below.step HR.out.below (below_drewN wr nq))
            go_wp2
            have hld := load_id2 (at_setRow (cI zI) ro2)
            exact bodyPost_ret (results_c3 (ad := ⟨g, 0, none⟩) rfl rfl hld rfl rfl) rfl ⟨Below.setRow H2.out hle _, .inr ⟨HNO.out, _, _, by decide, rfl⟩⟩
        | true =>
          have HOK := Lib.hid hok
          rcases hcase with rfl | ⟨h1, h2⟩ | rfl | rfl | rfl | rfl | rfl | rfl
          · obtain ⟨y, hy⟩ : ∃ y, s[0] = y := ⟨_, rfl⟩
            have hne : (y.toNat : Int) = 60 := by
              have : y.toNat = 60 := by rw [hy] at hok; simpa [okAt_zero] using hok
              omega
            clear hok
            go_wp2
            go_roundw
            case rel => exact ⟨1, by omega, by omega, by go_num, HR.out.next hlt HOK.out (.inl rfl)⟩
            case measure => simp [intOf]
          · obtain ⟨x, hxe⟩ : ∃ x, s[k] = x := ⟨_, rfl⟩
            have HP := Lib.hid (HR.out.set hlt HOK.out h1 h2)
            have hx : hexB x = true := by
              unfold okAt at hok
              rw [hxe] at hok
              rwa [if_neg (by omega), if_pos (by omega)] at hok
            obtain ⟨j, hj⟩ : ∃ j, (k - 1) / 2 = j := ⟨_, rfl⟩
            obtain ⟨o, ho⟩ : ∃ o, accV (bl s) (k - 1) j = o := ⟨_, rfl⟩
            obtain ⟨d, hd⟩ : ∃ d, hexV x = d := ⟨_, rfl⟩
            have hd16 : d < 16 := by rw [← hd]; exact hexV_lt x hx
            have h256 : 16 * o + d < 256 := by
              have ha := accV_lt (bl s) (k - 1 + 1) j (fun i a1 a2 => by
                have := HOK.out
                by_cases e : i = k
                · subst e
                  rw [List.getD_eq_getElem?_getD, List.getElem?_eq_getElem (by rw [bl_length]; omega)]
                  exact okAt_hex this a1 (by omega)
                · exact HR.out.hex hks i a1 (by omega))
              have hb := accV_step (bl s) (k - 1)
              rw [hj, ho, show k - 1 + 1 = k by omega, List.getD_eq_getElem?_getD, List.getElem?_eq_getElem (by rw [bl_length]; exact hlt)] at hb
              rw [show k - 1 + 1 = k by omega, hb] at ha
              change 16 * o + hexV s[k] < 256 at ha
              rw [hxe, hd] at ha
              exact ha
            have hvv : vB (UInt8.ofNat (16 * o + d)) = .int .u8 ((o : Int) * 16 + (d : Int)) := by
              unfold vB
              rw [UInt8.toNat_ofNat', Nat.mod_eq_of_lt (by omega)]
              congr 1
              omega
            rw [hj, ho, hxe, hd, hvv] at HP
            have hc : wr.cell? ⟨g + 1, j, none⟩ = some (.int .u8 (o : Int)) := by
              have e := cell_id (k := j) HR.out.rd (by omega)
              rw [e, accI_at _ _ j (by omega), show min (k - 1) 64 = k - 1 by omega, ho]
              unfold vB
              rw [UInt8.toNat_ofNat', Nat.mod_eq_of_lt (by omega)]
            have hi : hexI x = (d : Int) := by unfold hexI; rw [if_pos hx, hd]
            have hfz : wr.frozen? ⟨g + 1, j, none⟩ = false := HR.out.rd.fz j
            have HI := Lib.hid hi
            have g0 : ¬ (k : Int) = 0 := by omega
            have g1 : (k : Int) ≤ 64 := by omega
            have g2 : ((k : Int) - 1).tdiv 2 = (j : Int) := by rw [Int.tdiv_eq_ediv_of_nonneg (by omega)]; omega
            have g3 : (j : Int) < 32 := by omega
            have g4 : ¬ (d : Int) < 0 := by omega
            have g5 : IntKind.u8.wrap ((o : Int) * 16) = ((o * 16 : Nat) : Int) := by simp [IntKind.wrap, IntKind.bits, IntKind.signed]; omega
            clear hok hx hi hj ho hd
            go_wp2_with (go_at_call 79; refine (value_r _ _).mono ?_; rintro e w' ⟨rfl, rfl⟩; rw [HI.out])
            go_roundw
            case rel => exact ⟨k + 1, by omega, by omega, by go_num, HP.out⟩
            case measure => simp [intOf]; omega
          · obtain ⟨y, hy⟩ : ∃ y, s[65] = y := ⟨_, rfl⟩
            have hne : (y.toNat : Int) = 64 := by
              rw [hy] at hok
              have : y.toNat = 64 := by simpa [okAt] using hok
              omega
            have hq : ((y.toNat : Int) != (((⟨#[64, 104, 97, 115, 104, 62]⟩ : ByteArray)[0]'(by decide)).toNat : Int)) = false := by show ((y.toNat : Int) != 64) = false; simpa using hne
            clear hok
            go_wp2_with fail
            go_quiet (fail)
            have HN := Lib.hid ((HR.out.next hlt HOK.out (.inr (by omega))).keep (below_drewN wr nq))
            go_wp2
            go_roundw
            case rel => exact ⟨66, by omega, by omega, by go_num, HN.out⟩
            case measure => simp [intOf]
          · obtain ⟨y, hy⟩ : ∃ y, s[66] = y := ⟨_, rfl⟩
            have hne : (y.toNat : Int) = 104 := by
              rw [hy] at hok
              have : y.toNat = 104 := by simpa [okAt] using hok
              omega
            have hq : ((y.toNat : Int) != (((⟨#[64, 104, 97, 115, 104, 62]⟩ : ByteArray)[1]'(by decide)).toNat : Int)) = false := by show ((y.toNat : Int) != 104) = false; simpa using hne
            clear hok
            go_wp2_with fail
            go_quiet (fail)
            have HN := Lib.hid ((HR.out.next hlt HOK.out (.inr (by omega))).keep (below_drewN wr nq))
            go_wp2
            go_roundw
            case rel => exact ⟨67, by omega, by omega, by go_num, HN.out⟩
            case measure => simp [intOf]
          · obtain ⟨y, hy⟩ : ∃ y, s[67] = y := ⟨_, rfl⟩
            have hne : (y.toNat : Int) = 97 := by
              rw [hy] at hok
              have : y.toNat = 97 := by simpa [okAt] using hok
              omega
            have hq : ((y.toNat : Int) != (((⟨#[64, 104, 97, 115, 104, 62]⟩ : ByteArray)[2]'(by decide)).toNat : Int)) = false := by show ((y.toNat : Int) != 97) = false; simpa using hne
            clear hok
            go_wp2_with fail
            go_quiet (fail)
            have HN := Lib.hid ((HR.out.next hlt HOK.out (.inr (by omega))).keep (below_drewN wr nq))
            go_wp2
            go_roundw
            case rel => exact ⟨68, by omega, by omega, by go_num, HN.out⟩
            case measure => simp [intOf]
          · obtain ⟨y, hy⟩ : ∃ y, s[68] = y := ⟨_, rfl⟩
            have hne : (y.toNat : Int) = 115 := by
              rw [hy] at hok
              have : y.toNat = 115 := by simpa [okAt] using hok
              omega
            have hq : ((y.toNat : Int) != (((⟨#[64, 104, 97, 115, 104, 62]⟩ : ByteArray)[3]'(by decide)).toNat : Int)) = false := by show ((y.toNat : Int) != 115) = false; simpa using hne
            clear hok
            go_wp2_with fail
            go_quiet (fail)
            have HN := Lib.hid ((HR.out.next hlt HOK.out (.inr (by omega))).keep (below_drewN wr nq))
            go_wp2
            go_roundw
            case rel => exact ⟨69, by omega, by omega, by go_num, HN.out⟩
            case measure => simp [intOf]
          · obtain ⟨y, hy⟩ : ∃ y, s[69] = y := ⟨_, rfl⟩
            have hne : (y.toNat : Int) = 104 := by
              rw [hy] at hok
              have : y.toNat = 104 := by simpa [okAt] using hok
              omega
            have hq : ((y.toNat : Int) != (((⟨#[64, 104, 97, 115, 104, 62]⟩ : ByteArray)[4]'(by decide)).toNat : Int)) = false := by show ((y.toNat : Int) != 104) = false; simpa using hne
            clear hok
            go_wp2_with fail
            go_quiet (fail)
            have HN := Lib.hid ((HR.out.next hlt HOK.out (.inr (by omega))).keep (below_drewN wr nq))
            go_wp2
            go_roundw
            case rel => exact ⟨70, by omega, by omega, by go_num, HN.out⟩
            case measure => simp [intOf]
          · obtain ⟨y, hy⟩ : ∃ y, s[70] = y := ⟨_, rfl⟩
            have hne : (y.toNat : Int) = 62 := by
              rw [hy] at hok
              have : y.toNat = 62 := by simpa [okAt] using hok
              omega
            have hq : ((y.toNat : Int) != (((⟨#[64, 104, 97, 115, 104, 62]⟩ : ByteArray)[5]'(by decide)).toNat : Int)) = false := by show ((y.toNat : Int) != 62) = false; simpa using hne
            clear hok
            go_wp2_with fail
            go_quiet (fail)
            have HN := Lib.hid ((HR.out.next hlt HOK.out (.inr (by omega))).keep (below_drewN wr nq))
            go_wp2
            go_roundw
            case rel => exact ⟨71, by omega, by omega, by go_num, HN.out⟩
            case measure => simp [intOf]
      · obtain rfl : k = 71 := by omega
        have HNO := Lib.hid (ident_len (s := s) (by omega))
        have g1 : ¬ (s.size : Int) < 71 := by omega
        have g2 : (71 : Int) < (s.size : Int) := by omega
        go_wp2
        have hld := load_id2 (at_setRow (cI zI) ro)
        exact bodyPost_ret (results_c3 (ad := ⟨g, 0, none⟩) rfl rfl hld rfl rfl) rfl ⟨Below.setRow HR.out.below hle _, .inr ⟨HNO.out, _, _, by decide, rfl⟩⟩
    · obtain rfl : k = s.size := by omega
      by_cases hz : s.size = 71
      · have HI := Lib.hid (show identB (bl s) = true from AllOk.ident s hz (by
          have := HR.out.ok
          rwa [hz] at this))
        have g1 : ¬ (s.size : Int) < 71 := by omega
        have g2 : ¬ (71 : Int) < (s.size : Int) := by omega
        have hrd := HR.out.rd
        rw [hz, show min (71 - 1) 64 = 64 from rfl, accI_last _ (by rw [bl_length]; exact hz)] at hrd
        obtain ⟨x1, x2, -⟩ := rowI hrd
        clear hz
        go_wp2
        have hld := load_id2 (at_setRow (cI (midL (bl s))) ro)
        exact bodyPost_ret (results_c3 (ad := ⟨g, 0, none⟩) rfl rfl hld rfl rfl) rfl ⟨Below.setRow HR.out.below hle _, .inl ⟨HI.out, rfl⟩⟩
      · have HNO := Lib.hid (ident_len hz)
        have g1 : (s.size : Int) < 71 := by omega
        go_wp2
        have hld := load_id2 (at_setRow (cI zI) ro)
        exact bodyPost_ret (results_c3 (ad := ⟨g, 0, none⟩) rfl rfl hld rfl rfl) rfl ⟨Below.setRow HR.out.below hle _, .inr ⟨HNO.out, _, _, by decide, rfl⟩⟩
end Go.Proofs.YtecalodcbkljoaaGreatDoor
