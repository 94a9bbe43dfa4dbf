/- The reference's Unhex. -/
import Derived.Test.YtnljplnjdbjplaaDoorHexA
import Derived.Test.YtnljplnjdbjplaaDoorRefTr
import Derived.BigQuiet
namespace Go.Proofs.YtnljplnjdbjplaaDoor
open Go.RowKit
theorem hexI_dig (c : UInt8) (h : digB c = true) : hexI c = (c.toNat : Int) - 48 := by
  have h1 : hexB c = true := by unfold hexB; rw [h]; rfl
  unfold hexI hexV
  rw [if_pos h1]
  unfold digB at h
  simp at h
  rw [if_pos h.2]
  omega
theorem hexI_let (c : UInt8) (h0 : digB c = false) (h1 : 97 ≤ c.toNat) (h2 : c.toNat ≤ 102) : hexI c = (c.toNat : Int) - 87 := by
  have h3 : hexB c = true := by unfold hexB; rw [h0]; simp; omega
  unfold hexI hexV
  rw [if_pos h3, if_neg (by omega)]
  omega
theorem hexI_no (c : UInt8) (h0 : digB c = false) (h1 : ¬ (97 ≤ c.toNat ∧ c.toNat ≤ 102)) : hexI c = -1 := by
  have h3 : hexB c = false := by unfold hexB; rw [h0]; simp; omega
  unfold hexI
  rw [h3]
  rfl
set_option maxRecDepth 100000 in
set_option maxHeartbeats 800000 in
theorem nibble60 (c : UInt8) (w : World) : Calls Tryd.prog 60 #[vB c] w fun e w' => e = .returned (.int .i64 (hexI c)) ∧ w = w' := by
  have h8 := c.toNat_lt
  cases hd : digB c with
  | true =>
    have HI := Lib.hid (hexI_dig c hd)
    have HD := Lib.hid hd
    go_enter Tryd.func60, Tryd.ntmps60
    go_wp2_with (go_at_call 42; refine (refDigit_b c _).mono ?_; rintro e w' ⟨rfl, rfl⟩; rw [HD.out])
    go_ret
    exact ⟨by rw [HI.out]; exact ret_int (by try go_num), rfl⟩
  | false =>
    have HD := Lib.hid hd
    by_cases h1 : 97 ≤ c.toNat
    · have h3 : (97 : Int) ≤ (c.toNat : Int) := by omega
      by_cases h2 : c.toNat ≤ 102
      · have HI := Lib.hid (hexI_let c hd h1 h2)
        have h4 : (c.toNat : Int) ≤ 102 := by omega
        go_enter Tryd.func60, Tryd.ntmps60
        go_wp2_with (go_at_call 42; refine (refDigit_b c _).mono ?_; rintro e w' ⟨rfl, rfl⟩; rw [HD.out])
        go_ret
        exact ⟨by rw [HI.out]; exact ret_int (by try go_num), rfl⟩
      · have HI := Lib.hid (hexI_no c hd (by omega))
        have h4 : ¬ (c.toNat : Int) ≤ 102 := by omega
        go_enter Tryd.func60, Tryd.ntmps60
        go_wp2_with (go_at_call 42; refine (refDigit_b c _).mono ?_; rintro e w' ⟨rfl, rfl⟩; rw [HD.out])
        go_ret
        exact ⟨ret_int HI.out.symm, rfl⟩
    · have HI := Lib.hid (hexI_no c hd (by omega))
      have h4 : ¬ (97 : Int) ≤ (c.toNat : Int) := by omega
      go_enter Tryd.func60, Tryd.ntmps60
      go_wp2_with (go_at_call 42; refine (refDigit_b c _).mono ?_; rintro e w' ⟨rfl, rfl⟩; rw [HD.out])
      go_ret
      exact ⟨ret_int HI.out.symm, rfl⟩
/-- What the reference's Unhex returns. -/
def UnE (s : ByteArray) (w : World) (e : Ending) (w' : World) : Prop :=
  Below w.heap.size w w' ∧ ((¬ (s.size % 2 = 0 ∧ (bl s).all hexB = true) ∧ e = .returned (.tuple #[.slice none 0 0, .int .i64 3])) ∨
    ((s.size % 2 = 0 ∧ (bl s).all hexB = true) ∧ ∃ v, e = .returned (.tuple #[v, .int .i64 0]) ∧ Own w' w.heap.size 5 1 c1 v (unhexL (bl s))))
theorem take2_all (s : ByteArray) (k : Nat) (h : k + 1 < s.size) (ha : ((bl s).take k).all hexB = true) (h1 : hexB s[k] = true) (h2 : hexB s[k + 1] = true) : ((bl s).take (k + 2)).all hexB = true := by
  have e : (bl s).take (k + 2) = (bl s).take k ++ [s[k], s[k + 1]] := by
    rw [List.take_succ_eq_append_getElem (by rw [bl_length]; exact h), List.take_succ_eq_append_getElem (by rw [bl_length]; omega), List.append_assoc]
    rfl
  rw [e, List.all_append, ha]
  simp [h1, h2]
theorem bad_at (s : ByteArray) (k : Nat) (h : k < s.size) (hb : hexB s[k] = false) : ¬ (s.size % 2 = 0 ∧ (bl s).all hexB = true) := by
  rintro ⟨_, ha⟩
  rw [hex_at s ha k h] at hb
  cases hb
theorem pairV_conv {a b : UInt8} (ha : hexB a = true) (hb : hexB b = true) : IntKind.u8.wrap (16 * (hexV a : Int) + (hexV b : Int)) = ((pairV a b).toNat : Int) := by
  rw [pairV_toNat ha hb]
  have h1 := hexV_lt a ha
  have h2 := hexV_lt b hb
  simp [IntKind.wrap, IntKind.bits, IntKind.signed]; omega
theorem hexI_yes (c : UInt8) (h : hexB c = true) : hexI c = (hexV c : Int) := by unfold hexI; rw [if_pos h]
theorem hexI_bad (c : UInt8) (h : hexB c = false) : hexI c = -1 := by unfold hexI; rw [h]; rfl
theorem nibbleA (c a : UInt8) (h : c = a) (w : World) : Calls Tryd.prog 60 #[vB c] w fun e w' => e = .returned (.int .i64 (hexI a)) ∧ w' = w := by
  subst h
  refine (nibble60 c w).mono ?_
  rintro e w' ⟨rfl, rfl⟩
  exact ⟨rfl, rfl⟩
set_option maxRecDepth 100000 in
set_option maxHeartbeats 3200000 in
theorem refUnhex35 (s : ByteArray) (w : World) (hs : s.size ≤ 1000000) : Calls Tryd.prog 35 #[.string s] w (UnE s w) := by
  have htm : ((s.size : Int)).tmod 2 = (s.size : Int) % 2 := Int.tmod_eq_emod_of_nonneg (by omega)
  by_cases hodd : s.size % 2 = 0
  · have h2 : ((s.size : Int) % 2 == 1) = false := by simp; omega
    have HE := Lib.hid hodd
    clear hodd
    go_enter Tryd.func35, Tryd.ntmps35
    go_wp2
    go_loopw [4, 5] (fun v i wr => ∃ k : Nat, k ≤ s.size ∧ k % 2 = 0 ∧ i = .int .i64 k ∧ ((bl s).take k).all hexB = true ∧ Below w.heap.size w wr ∧ Own wr w.heap.size 5 1 c1 v (unhexL ((bl s).take k))) (fun _ i _ => s.size - (intOf i).toNat)
    case atStart => exact ⟨0, Nat.zero_le _, rfl, rfl, rfl, Below.refl _ _, Own.nil _ _ _ _ _⟩
    case round =>
      obtain ⟨k, hk, hev, rfl, hall, hb, ho⟩ := hrel
      have HO := Lib.hid (And.intro hb (And.intro ho hall))
      clear hb ho hall
      by_cases hlt : k < s.size
      · have hlt1 : k + 1 < s.size := by have := HE.out; omega
        have q3 : IntKind.i64.wrap ((k : Int) + 1) = (k : Int) + 1 := IntWalk.i64_in _ (by omega)
        have q4 : (k : Int) + 1 < (s.size : Int) := by omega
        have T1 := Lib.hid trivial
        obtain ⟨a, ha⟩ : ∃ a, s[k] = a := ⟨_, rfl⟩
        obtain ⟨b, hb⟩ : ∃ b, s[k + 1] = b := ⟨_, rfl⟩
        have HU := Lib.hid (And.intro (unhexL_length (k / 2) ((bl s).take k) (by rw [List.length_take, bl_length]; omega)) (And.intro ha (And.intro hb (unhexL_step s k hlt1 hev))))
        clear ha hb
        go_wp2_with fail
        refine AnyO.wp_any_tail 9 (by kernel_rfl) (by kernel_rfl) (by kernel_rfl) (by kernel_rfl) (by kernel_rfl) (by kernel_rfl) (pstP [isV (.string s), isV (.int .i64 (k : Int)), isV (vB s[k]), isV (.int .i64 (hexI s[k])), isV (.string s), isV (.int .i64 (k : Int)), isV (.int .i64 ((k : Int) + 1)), isV (vB s[k + 1]), isV (.int .i64 (hexI s[k + 1]))]) (MonoL.cons (Mono.v _) (MonoL.cons (Mono.v _) (MonoL.cons (Mono.v _) (MonoL.cons (Mono.v _) (MonoL.cons (Mono.v _) (MonoL.cons (Mono.v _) (MonoL.cons (Mono.v _) (MonoL.cons (Mono.v _) (MonoL.cons (Mono.v _) MonoL.nil))))))))) ?_ ?_
        · intro i hi
          have hi2 : i = 0 ∨ i = 1 ∨ i = 2 ∨ i = 3 ∨ i = 4 ∨ i = 5 ∨ i = 6 ∨ i = 7 ∨ i = 8 := by omega
          clear hi
          rcases hi2 with rfl | rfl | rfl | rfl | rfl | rfl | rfl | rfl | rfl
          · -- 0: Op.move (Operand.tmp 0)
            refine AnyO.Step.mk rfl [] (by kernel_rfl) ?_
            intro vs u hE hp ac hb K hK
            have s0 : ac.tmps[0]?.getD undef = .string s := by rw [hb]; kernel_rfl
            rw [if_pos (AnyO.wanted_none rfl)]
            clear hb hp
            go_simp
            exact hK _ _ (Below.refl _ _) rfl
          · -- 1: Op.move (Operand.tmp 5)
            refine AnyO.Step.mk rfl [] (by kernel_rfl) ?_
            intro vs u hE hp ac hb K hK
            have s5 : ac.tmps[5]?.getD undef = .int .i64 (k : Int) := by rw [hb]; kernel_rfl
            rw [if_pos (AnyO.wanted_none rfl)]
            clear hb hp
            go_simp
            exact hK _ _ (Below.refl _ _) rfl
          · -- 2: Op.index 9 (Operand.tmp 18) (Operand.tmp 19)
            refine AnyO.Step.mk rfl [0, 1] (by kernel_rfl) ?_
            intro vs u hE hp ac hb K hK
            have s18 : ac.tmps[18]?.getD undef = .string s := by rw [hb]; exact (show _ = vs 0 by kernel_rfl).trans (hp 0 (by decide))
            have s19 : ac.tmps[19]?.getD undef = .int .i64 (k : Int) := by rw [hb]; exact (show _ = vs 1 by kernel_rfl).trans (hp 1 (by decide))
            rw [if_pos (AnyO.wanted_none rfl)]
            clear hb hp
            go_simp
            exact hK _ _ (Below.refl _ _) rfl
          · -- 3: Op.call { callee := Callee.value (Operand.func 60), args := 
            refine AnyO.Step.mk rfl [2] (by kernel_rfl) ?_
            intro vs u hE hp ac hb K hK
            have s20 : ac.tmps[20]?.getD undef = vB s[k] := by rw [hb]; exact (show _ = vs 2 by kernel_rfl).trans (hp 2 (by decide))
            rw [if_pos (AnyO.wanted_none rfl)]
            clear hb hp
            go_simp
            go_at_call 60
            refine (nibble60 s[k] u).mono ?_
            rintro e w2 ⟨rfl, rfl⟩
            exact hK _ _ (Below.refl _ _) rfl
          · -- 4: Op.move (Operand.tmp 0)
            refine AnyO.Step.mk rfl [] (by kernel_rfl) ?_
            intro vs u hE hp ac hb K hK
            have s0 : ac.tmps[0]?.getD undef = .string s := by rw [hb]; kernel_rfl
            rw [if_pos (AnyO.wanted_none rfl)]
            clear hb hp
            go_simp
            exact hK _ _ (Below.refl _ _) rfl
          · -- 5: Op.move (Operand.tmp 5)
            refine AnyO.Step.mk rfl [] (by kernel_rfl) ?_
            intro vs u hE hp ac hb K hK
            have s5 : ac.tmps[5]?.getD undef = .int .i64 (k : Int) := by rw [hb]; kernel_rfl
            rw [if_pos (AnyO.wanted_none rfl)]
            clear hb hp
            go_simp
            exact hK _ _ (Below.refl _ _) rfl
          · -- 6: Op.binOp BinOp.add 3 (Operand.tmp 23) (Operand.const (Value.
            refine AnyO.Step.mk rfl [5] (by kernel_rfl) ?_
            intro vs u hE hp ac hb K hK
            have s23 : ac.tmps[23]?.getD undef = .int .i64 (k : Int) := by rw [hb]; exact (show _ = vs 5 by kernel_rfl).trans (hp 5 (by decide))
            rw [if_pos (AnyO.wanted_none rfl)]
            clear hb hp
            go_simp
            exact hK _ _ (Below.refl _ _) rfl
          · -- 7: Op.index 9 (Operand.tmp 22) (Operand.tmp 24)
            refine AnyO.Step.mk rfl [4, 6] (by kernel_rfl) ?_
            intro vs u hE hp ac hb K hK
            have s22 : ac.tmps[22]?.getD undef = .string s := by rw [hb]; exact (show _ = vs 4 by kernel_rfl).trans (hp 4 (by decide))
            have s24 : ac.tmps[24]?.getD undef = .int .i64 ((k : Int) + 1) := by rw [hb]; exact (show _ = vs 6 by kernel_rfl).trans (hp 6 (by decide))
            rw [if_pos (AnyO.wanted_none rfl)]
            clear hb hp
            go_simp
            exact hK _ _ (Below.refl _ _) rfl
          · -- 8: Op.call { callee := Callee.value (Operand.func 60), args := 
            refine AnyO.Step.mk rfl [7, 3] (by kernel_rfl) ?_
            intro vs u hE hp ac hb K hK
            have s25 : ac.tmps[25]?.getD undef = vB s[k + 1] := by rw [hb]; exact (show _ = vs 7 by kernel_rfl).trans (hp 7 (by decide))
            rw [if_pos (AnyO.wanted_none rfl)]
            clear hb hp
            go_simp
            go_at_call 60
            refine (nibble60 s[k + 1] u).mono ?_
            rintro e w2 ⟨rfl, rfl⟩
            exact hK _ _ (Below.refl _ _) rfl
        · intro vs u hE hp
          have e0 : vs 0 = .string s := hp 0 (by decide)
          have e1 : vs 1 = .int .i64 (k : Int) := hp 1 (by decide)
          have e2 : vs 2 = vB s[k] := hp 2 (by decide)
          have e3 : vs 3 = .int .i64 (hexI s[k]) := hp 3 (by decide)
          have e4 : vs 4 = .string s := hp 4 (by decide)
          have e5 : vs 5 = .int .i64 (k : Int) := hp 5 (by decide)
          have e6 : vs 6 = .int .i64 ((k : Int) + 1) := hp 6 (by decide)
          have e7 : vs 7 = vB s[k + 1] := hp 7 (by decide)
          have e8 : vs 8 = .int .i64 (hexI s[k + 1]) := hp 8 (by decide)
          clear hp
          have HE2 := Lib.hid hE; clear hE
          rw [puts_range [some 18, some 19, some 20, some 21, some 22, some 23, some 24, some 25, some 26] (by kernel_rfl)]
          simp only [putL, Nat.reduceAdd, List.drop_succ_cons, List.drop_zero, e0, e1, e2, e3, e4, e5, e6, e7, e8]
          clear e0 e1 e2 e3 e4 e5 e6 e7 e8
          go_simp
          cases hx : hexB s[k] with
          | false =>
            have g1 := hexI_bad s[k] hx
            have HB := Lib.hid (bad_at s k hlt hx)
            clear hx
            go_wp2
            go_ret2
            exact ⟨HO.out.1.trans (HE2.out.mono HO.out.1.size), .inl ⟨HB.out, rfl⟩⟩
          | true =>
            have g1 := hexI_yes s[k] hx
            have b1 := hexV_lt s[k] hx
            cases hy : hexB s[k + 1] with
            | false =>
              have g2 := hexI_bad s[k + 1] hy
              have HB := Lib.hid (bad_at s (k + 1) hlt1 hy)
              clear hx hy
              have b3 : ¬ ((hexV s[k] : Int) < 0) := by omega
              go_wp2
              go_ret2
              exact ⟨HO.out.1.trans (HE2.out.mono HO.out.1.size), .inl ⟨HB.out, rfl⟩⟩
            | true =>
              have g2 := hexI_yes s[k + 1] hy
              have b2 := hexV_lt s[k + 1] hy
              have b3 : ¬ ((hexV s[k] : Int) < 0) := by omega
              have b4 : ¬ ((hexV s[k + 1] : Int) < 0) := by omega
              have g3 := pairV_conv hx hy
              have HT := Lib.hid (take2_all s k hlt1 HO.out.2.2 hx hy)
              clear hx hy
              go_wp2_with (at_builtin; refine wpList_append_sl _ rfl (.tmp 33) (.tmp 39) 39 rfl w.heap.size 5 1 1 c1 underBs rowB (by decide) c1_length c1_one u4 (unhexL ((bl s).take k)) rfl (Own.keep (Own.keep HO.out.2.1 HE2.out) (below_alloc u (.cells #[cB (pairV s[k] s[k + 1])] 5))) _ 1 1 [pairV s[k] s[k + 1]] rfl rfl (sl_newB u (pairV s[k] s[k + 1])) (by have := HU.out.1; omega) (by have := HU.out.1; omega) (by have := HO.out.1.size; have := HE2.out.size; simp; omega) ?_)
              intro v2 w2 ho hg
              have hb1 : Below w.heap.size w (u.alloc (.cells #[cB (pairV s[k] s[k + 1])] 5)) := (HO.out.1.trans (HE2.out.mono HO.out.1.size)).alloc (Nat.le_trans HO.out.1.size HE2.out.size) _
              have hb2 := Own.grew (Own.keep (Own.keep HO.out.2.1 HE2.out) (below_alloc u (.cells #[cB (pairV s[k] s[k + 1])] 5))) hg hb1 (Nat.le_refl _) hb1.size
              have H2 := Lib.hid (And.intro hb2 ho); clear hb2 ho hg hb1
              go_wp2
              go_roundw
              case rel => exact ⟨k + 2, by omega, by omega, by go_num, HT.out, H2.out.1, by rw [HU.out.2.2.2]; exact H2.out.2⟩
              case measure => simp [intOf] <;> omega
      · have hkn : k = s.size := by omega
        subst hkn
        go_wp2
        go_ret2
        have ht : (bl s).take s.size = bl s := by rw [← bl_length, List.take_length]
        exact ⟨HO.out.1, .inr ⟨⟨HE.out, by have := HO.out.2.2; rwa [ht] at this⟩, _, rfl, by have := HO.out.2.1; rwa [ht] at this⟩⟩
  · have h2 : ((s.size : Int) % 2 == 1) = true := by simp; omega
    have HE := Lib.hid hodd
    clear hodd
    go_enter Tryd.func35, Tryd.ntmps35
    go_wp2
    go_ret2
    exact ⟨Below.refl _ _, .inl ⟨fun h => HE.out h.1, rfl⟩⟩
end Go.Proofs.YtnljplnjdbjplaaDoor
