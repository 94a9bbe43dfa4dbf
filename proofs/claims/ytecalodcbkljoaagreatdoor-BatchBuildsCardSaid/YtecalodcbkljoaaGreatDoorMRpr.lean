/- The reference's digits and text of an identity: bulletinref11.Digits, Print. -/
import Derived.Test.YtecalodcbkljoaaGreatDoorMRhx
import Derived.Test.YtecalodcbkljoaaGreatDoorMOne
import Derived.Test.YtecalodcbkljoaaGreatDoorMDgs
namespace Go.Proofs.YtecalodcbkljoaaGreatDoor
open Go.RowKit
theorem hexL_take (l : List UInt8) (k : Nat) (h : k < l.length) : hexL (l.take (k + 1)) = hexL (l.take k) ++ (hexC l[k]) := by
  unfold hexL
  rw [List.take_succ_eq_append_getElem h, List.flatMap_append, List.flatMap_singleton]
theorem cell_id {w : World} {b : Nat} {x : Id} {t : TypeId} (h : Row w b (cI x) t) {k : Nat} (hk : k < 32) : w.cell? ⟨b, k, none⟩ = some (vB (x.1[k]'(by rw [x.2]; exact hk))) := by
  rw [h.cell k]
  unfold cI
  rw [List.getElem?_map, List.getElem?_eq_getElem (by rw [x.2]; exact hk)]
  rfl
theorem take_size (x : Id) (k : Nat) : (mkS (hexL (x.1.take k))).size ≤ 64 := by
  rw [← bl_length, bl_mkS, hexL_length, List.length_take, x.2]
  omega
theorem sl_dig (p : Nat) (h : p < 16) (w : World) : (Instr.slice 9 (.string ⟨#[48, 49, 50, 51, 52, 53, 54, 55, 56, 57, 97, 98, 99, 100, 101, 102]⟩) (some (.int .u8 (p : Int))) (some (.int .u8 ((p : Int) + 1))) none).run Tryz.prog w = .ok (.string (mkS [dig16 p h])) w := by
  rw [run_slice_string w 9 _ .u8 .u8 (p : Int) ((p : Int) + 1) Tryz.underlying9 (by omega) (by omega) (by show (p : Int) + 1 ≤ 16; omega)]
  have e : ((p : Int) + 1).toNat = p + 1 := by omega
  rw [Int.toNat_natCast, e]
  have h2 : ∀ q : Fin 16, ((⟨#[48, 49, 50, 51, 52, 53, 54, 55, 56, 57, 97, 98, 99, 100, 101, 102]⟩ : ByteArray).extract q.1 (q.1 + 1)).data = #[dig16 q.1 q.2] := by decide +kernel
  rw [show (⟨#[48, 49, 50, 51, 52, 53, 54, 55, 56, 57, 97, 98, 99, 100, 101, 102]⟩ : ByteArray).extract p (p + 1) = mkS [dig16 p h] from ByteArray.ext (h2 ⟨p, h⟩)]
set_option maxRecDepth 100000 in
set_option maxHeartbeats 3200000 in
theorem rdigits_b (x : Id) (w : World) : Calls Tryz.prog 68 #[vI x] w fun e w' => e = .returned (.string ⟨(hexL x.1).toArray⟩) ∧ Below w.heap.size w w' := by
  obtain ⟨b, hb⟩ : ∃ b, w.heap.size = b := ⟨_, rfl⟩
  obtain ⟨W1, hW1⟩ : ∃ W1, w.alloc (.cells (aI x) 36) = W1 := ⟨_, rfl⟩
  have H1 := Lib.hid (show Below w.heap.size w W1 ∧ Row W1 b (cI x) 36 from by
    subst hW1 hb
    exact ⟨below_alloc _ _, Row.new w (cI x) _⟩)
  go_enter Tryz.func68, Tryz.ntmps68
  go_wp2_with fail
  clear hb hW1
  go_loopw [3, 4] (fun v i wr => ∃ k : Nat, k ≤ 32 ∧ i = .int .i64 k ∧ v = .string (mkS (hexL (x.1.take k))) ∧ Below w.heap.size w wr ∧ Row wr b (cI x) 36) (fun _ i _ => 32 - (intOf i).toNat)
  case atStart => exact ⟨0, by omega, rfl, rfl, H1.out.1, H1.out.2⟩
  case round =>
    obtain ⟨k, hk, rfl, rfl, hbw, hrow⟩ := hrel
    have HR := Lib.hid (And.intro hbw hrow)
    clear hbw hrow
    by_cases hlt : k < 32
    · have hlti : (k : Int) < 32 := by omega
      obtain ⟨y, hy⟩ : ∃ y, x.1[k]'(by rw [x.2]; exact hlt) = y := ⟨_, rfl⟩
      obtain ⟨p, hp⟩ : ∃ p, p = y.toNat / 16 := ⟨_, rfl⟩
      obtain ⟨q, hq⟩ : ∃ q, q = y.toNat % 16 := ⟨_, rfl⟩
      have hy8 := y.toNat_lt
      have hcell : ∀ n, (wr.drewN n).cell? ⟨b, k, none⟩ = some (vB y) := fun n => by
        rw [← hy]
        exact cell_id (HR.out.2.drewN n) hlt
      have HC := Lib.hid (And.intro (show p < 16 by omega) (show q < 16 by omega))
      have g1 : (y.toNat : Int) / 16 = (p : Int) := by omega
      have g2 : ((y.toNat : Int)).tmod 16 = (q : Int) := by rw [Int.tmod_eq_emod_of_nonneg (by omega)]; omega
      have q1 : (p : Int) % 256 = (p : Int) := by have := HC.out.1; omega
      have q2 : ((p : Int) + 1) % 256 = (p : Int) + 1 := by have := HC.out.1; omega
      have q3 : (q : Int) % 256 = (q : Int) := by have := HC.out.2; omega
      have q4 : ((q : Int) + 1) % 256 = (q : Int) + 1 := by have := HC.out.2; omega
      have q5 : (p : Int) + 1 ≤ 16 := by have := HC.out.1; omega
      have q6 : (q : Int) + 1 ≤ 16 := by have := HC.out.2; omega
      have q7 : (0 : Int) ≤ (p : Int) + 1 := by omega
      have q8 : (0 : Int) ≤ (q : Int) + 1 := by omega
      have q9 : (p : Int) ≤ (p : Int) + 1 := by omega
      have q10 : (q : Int) ≤ (q : Int) + 1 := by omega
      have HXX := Lib.hid (show hexL (x.1.take (k + 1)) = hexL (x.1.take k) ++ [dig16 p HC.out.1, dig16 q HC.out.2] by
        rw [hexL_take x.1 k (by rw [x.2]; exact hlt), hy, dig16_eq, dig16_eq, hp, hq]
        rfl)
      clear hy hp hq hy8
      go_wp2_with fail
      go_quiet (fail)
      have H2 := Lib.hid (show Below w.heap.size w (wr.drewN nq) ∧ Row (wr.drewN nq) b (cI x) 36 from ⟨Below.step HR.out.1 (below_drewN wr nq), HR.out.2.drewN nq⟩)
      obtain ⟨W2, hW2⟩ : ∃ W2, wr.drewN nq = W2 := ⟨_, rfl⟩
      rw [hW2] at H2 ⊢
      clear hW2 hcell g1 g2
      go_wp2_with fail
      refine AnyO.wp_any_tail 10 (by kernel_rfl) (by kernel_rfl) (by kernel_rfl) (by kernel_rfl) (by kernel_rfl) (by kernel_rfl) (pstP [isV (.string (mkS (hexL (x.1.take k)))), isV (.int .u8 (p : Int)), isV (.int .u8 (p : Int)), isV (.int .u8 ((p : Int) + 1)), isV (.string (mkS [dig16 p HC.out.1])), isV (.int .u8 (q : Int)), isV (.int .u8 (q : Int)), isV (.int .u8 ((q : Int) + 1)), isV (.string (mkS [dig16 q HC.out.2])), isV (.string (mkS [dig16 p HC.out.1] ++ mkS [dig16 q HC.out.2]))]) (MonoL.cons (Mono.v _) (MonoL.cons (Mono.v _) (MonoL.cons (Mono.v _) (MonoL.cons (Mono.v _) (MonoL.cons (Mono.v _) (MonoL.cons (Mono.v _) (MonoL.cons (Mono.v _) (MonoL.cons (Mono.v _) (MonoL.cons (Mono.v _) (MonoL.cons (Mono.v _) MonoL.nil)))))))))) ?_ ?_
      · intro i hi
        have hi2 : i = 0 ∨ i = 1 ∨ i = 2 ∨ i = 3 ∨ i = 4 ∨ i = 5 ∨ i = 6 ∨ i = 7 ∨ i = 8 ∨ i = 9 := by omega
        clear hi
        rcases hi2 with rfl | rfl | rfl | rfl | rfl | rfl | rfl | rfl | rfl | rfl
        · -- 0: Op.move (Operand.tmp 3)
          refine AnyO.Step.mk rfl [] (by kernel_rfl) ?_
          intro vs u hE hp ac hb K hK
          have s3 : ac.tmps[3]?.getD undef = .string (mkS (hexL (x.1.take k))) := by rw [hb]; kernel_rfl
          rw [if_pos (AnyO.wanted_none rfl)]
          clear hb hp
          go_simp
          exact hK _ _ (Below.refl _ _) rfl
        · -- 1: Op.move (Operand.tmp 5)
          refine AnyO.Step.mk rfl [] (by kernel_rfl) ?_
          intro vs u hE hp ac hb K hK
          have s5 : ac.tmps[5]?.getD undef = .int .u8 (p : Int) := by rw [hb]; kernel_rfl
          rw [if_pos (AnyO.wanted_none rfl)]
          clear hb hp
          go_simp
          exact hK _ _ (Below.refl _ _) rfl
        · -- 2: Op.move (Operand.tmp 5)
          refine AnyO.Step.mk rfl [] (by kernel_rfl) ?_
          intro vs u hE hp ac hb K hK
          have s5 : ac.tmps[5]?.getD undef = .int .u8 (p : Int) := by rw [hb]; kernel_rfl
          rw [if_pos (AnyO.wanted_none rfl)]
          clear hb hp
          go_simp
          exact hK _ _ (Below.refl _ _) rfl
        · -- 3: Op.binOp BinOp.add 5 (Operand.tmp 21) (Operand.const (Value.
          refine AnyO.Step.mk rfl [2] (by kernel_rfl) ?_
          intro vs u hE hp ac hb K hK
          have s21 : ac.tmps[21]?.getD undef = .int .u8 (p : Int) := by rw [hb]; exact (show _ = vs 2 by kernel_rfl).trans (hp 2 (by decide))
          rw [if_pos (AnyO.wanted_none rfl)]
          clear hb hp
          have r1 : IntKind.u8.wrap ((p : Int) + 1) = (p : Int) + 1 := by have := HC.out.1; simp [IntKind.wrap, IntKind.bits, IntKind.signed]; omega
          go_simp
          exact hK _ _ (Below.refl _ _) rfl
        · -- 4: Op.slice 9 (Operand.const (Value.string { data := #[48, 49, 
          refine AnyO.Step.mk rfl [1, 3] (by kernel_rfl) ?_
          intro vs u hE hp ac hb K hK
          have s20 : ac.tmps[20]?.getD undef = .int .u8 (p : Int) := by rw [hb]; exact (show _ = vs 1 by kernel_rfl).trans (hp 1 (by decide))
          have s22 : ac.tmps[22]?.getD undef = .int .u8 ((p : Int) + 1) := by rw [hb]; exact (show _ = vs 3 by kernel_rfl).trans (hp 3 (by decide))
          rw [if_pos (AnyO.wanted_none rfl)]
          clear hb hp
          have r1 := sl_dig p HC.out.1
          go_simp
          exact hK _ _ (Below.refl _ _) rfl
        · -- 5: Op.move (Operand.tmp 6)
          refine AnyO.Step.mk rfl [] (by kernel_rfl) ?_
          intro vs u hE hp ac hb K hK
          have s6 : ac.tmps[6]?.getD undef = .int .u8 (q : Int) := by rw [hb]; kernel_rfl
          rw [if_pos (AnyO.wanted_none rfl)]
          clear hb hp
          go_simp
          exact hK _ _ (Below.refl _ _) rfl
        · -- 6: Op.move (Operand.tmp 6)
          refine AnyO.Step.mk rfl [] (by kernel_rfl) ?_
          intro vs u hE hp ac hb K hK
          have s6 : ac.tmps[6]?.getD undef = .int .u8 (q : Int) := by rw [hb]; kernel_rfl
          rw [if_pos (AnyO.wanted_none rfl)]
          clear hb hp
          go_simp
          exact hK _ _ (Below.refl _ _) rfl
        · -- 7: Op.binOp BinOp.add 5 (Operand.tmp 25) (Operand.const (Value.
          refine AnyO.Step.mk rfl [6] (by kernel_rfl) ?_
          intro vs u hE hp ac hb K hK
          have s25 : ac.tmps[25]?.getD undef = .int .u8 (q : Int) := by rw [hb]; exact (show _ = vs 6 by kernel_rfl).trans (hp 6 (by decide))
          rw [if_pos (AnyO.wanted_none rfl)]
          clear hb hp
          have r1 : IntKind.u8.wrap ((q : Int) + 1) = (q : Int) + 1 := by have := HC.out.2; simp [IntKind.wrap, IntKind.bits, IntKind.signed]; omega
          go_simp
          exact hK _ _ (Below.refl _ _) rfl
        · -- 8: Op.slice 9 (Operand.const (Value.string { data := #[48, 49, 
          refine AnyO.Step.mk rfl [5, 7] (by kernel_rfl) ?_
          intro vs u hE hp ac hb K hK
          have s24 : ac.tmps[24]?.getD undef = .int .u8 (q : Int) := by rw [hb]; exact (show _ = vs 5 by kernel_rfl).trans (hp 5 (by decide))
          have s26 : ac.tmps[26]?.getD undef = .int .u8 ((q : Int) + 1) := by rw [hb]; exact (show _ = vs 7 by kernel_rfl).trans (hp 7 (by decide))
          rw [if_pos (AnyO.wanted_none rfl)]
          clear hb hp
          have r1 := sl_dig q HC.out.2
          go_simp
          exact hK _ _ (Below.refl _ _) rfl
        · -- 9: Op.binOp BinOp.add 9 (Operand.tmp 23) (Operand.tmp 27) 9
          refine AnyO.Step.mk rfl [4, 8] (by kernel_rfl) ?_
          intro vs u hE hp ac hb K hK
          have s23 : ac.tmps[23]?.getD undef = .string (mkS [dig16 p HC.out.1]) := by rw [hb]; exact (show _ = vs 4 by kernel_rfl).trans (hp 4 (by decide))
          have s27 : ac.tmps[27]?.getD undef = .string (mkS [dig16 q HC.out.2]) := by rw [hb]; exact (show _ = vs 8 by kernel_rfl).trans (hp 8 (by decide))
          rw [if_pos (AnyO.wanted_none rfl)]
          clear hb hp
          have r1 : ¬ 9223372036854775807 < (mkS [dig16 p HC.out.1]).size + (mkS [dig16 q HC.out.2]).size := by show ¬ 9223372036854775807 < 1 + 1; decide
          go_simp
          exact hK _ _ (Below.refl _ _) rfl
      · intro vs u hE hp
        have e0 : vs 0 = .string (mkS (hexL (x.1.take k))) := hp 0 (by decide)
        have e1 : vs 1 = .int .u8 (p : Int) := hp 1 (by decide)
        have e2 : vs 2 = .int .u8 (p : Int) := hp 2 (by decide)
        have e3 : vs 3 = .int .u8 ((p : Int) + 1) := hp 3 (by decide)
        have e4 : vs 4 = .string (mkS [dig16 p HC.out.1]) := hp 4 (by decide)
        have e5 : vs 5 = .int .u8 (q : Int) := hp 5 (by decide)
        have e6 : vs 6 = .int .u8 (q : Int) := hp 6 (by decide)
        have e7 : vs 7 = .int .u8 ((q : Int) + 1) := hp 7 (by decide)
        have e8 : vs 8 = .string (mkS [dig16 q HC.out.2]) := hp 8 (by decide)
        have e9 : vs 9 = .string (mkS [dig16 p HC.out.1] ++ mkS [dig16 q HC.out.2]) := hp 9 (by decide)
        clear hp
        have HE := Lib.hid (Below.step H2.out.1 hE); have HR3 := Lib.hid (H2.out.2.keep hE); clear hE
        rw [puts_range [some 19, some 20, some 21, some 22, some 23, some 24, some 25, some 26, some 27, some 28] (by kernel_rfl)]
        simp only [putL, Nat.reduceAdd, List.drop_succ_cons, List.drop_zero, e0, e1, e2, e3, e4, e5, e6, e7, e8, e9]
        clear e0 e1 e2 e3 e4 e5 e6 e7 e8 e9
        go_simp
        have hz : ¬ 9223372036854775807 < (mkS (hexL (x.1.take k))).size + ((mkS [dig16 p HC.out.1]).size + (mkS [dig16 q HC.out.2]).size) := by have h1 := take_size x k; have h2 : (mkS [dig16 p HC.out.1]).size = 1 := rfl; have h3 : (mkS [dig16 q HC.out.2]).size = 1 := rfl; omega
        go_simp
        go_wp2
        go_roundw
        case rel => exact ⟨k + 1, by omega, by go_num, by rw [HXX.out, show mkS [dig16 p HC.out.1] ++ mkS [dig16 q HC.out.2] = mkS [dig16 p HC.out.1, dig16 q HC.out.2] from mk_append _ _, show mkS (hexL (x.1.take k)) ++ mkS [dig16 p HC.out.1, dig16 q HC.out.2] = mkS (hexL (x.1.take k) ++ [dig16 p HC.out.1, dig16 q HC.out.2]) from mk_append _ _], HE.out, HR3.out⟩
        case measure => simp [intOf]; omega
    · obtain rfl : k = 32 := by omega
      have HE := Lib.hid (show x.1.take 32 = x.1 from List.take_of_length_le (by rw [x.2]; omega))
      clear hlt hk
      go_wp2
      go_ret
      rw [HE.out]
      exact ⟨rfl, HR.out.1⟩
/-- The text of an identity. -/
def textS (x : Id) : ByteArray := ⟨(textL x).toArray⟩
theorem rprint_b (x : Id) (w : World) : Calls Tryz.prog 46 #[vI x] w fun e w' => e = .returned (.string (textS x)) ∧ Below w.heap.size w w' := by
  obtain ⟨b, hb⟩ : ∃ b, w.heap.size = b := ⟨_, rfl⟩
  obtain ⟨W1, hW1⟩ : ∃ W1, w.alloc (.cells (aI x) 36) = W1 := ⟨_, rfl⟩
  have H1 := Lib.hid (show Below w.heap.size w W1 ∧ Row W1 b (cI x) 36 from by
    subst hW1 hb
    exact ⟨below_alloc _ _, Row.new w (cI x) _⟩)
  obtain ⟨x1, x2, -⟩ := rowI H1.out.2
  have HT := Lib.hid (show ((⟨#[60]⟩ : ByteArray) ++ (⟨(hexL x.1).toArray⟩ : ByteArray)) ++ (⟨#[64, 104, 97, 115, 104, 62]⟩ : ByteArray) = textS x from by
    rw [show (⟨#[60]⟩ : ByteArray) = ⟨([60] : List UInt8).toArray⟩ from rfl, show (⟨#[64, 104, 97, 115, 104, 62]⟩ : ByteArray) = ⟨([64, 104, 97, 115, 104, 62] : List UInt8).toArray⟩ from rfl, mk_append, mk_append]
    rfl)
  have HS := Lib.hid (show (⟨(hexL x.1).toArray⟩ : ByteArray).size = 64 from by
    show (hexL x.1).toArray.size = 64
    rw [List.size_toArray, hexL_length, x.2])
  go_enter Tryz.func46, Tryz.ntmps46
  go_wp2_with (go_at_call 68; refine (rdigits_b x _).mono ?_; rintro e w2 ⟨rfl, hb2⟩; have H2 := Lib.hid (Below.step H1.out.1 hb2); obtain ⟨S, hS⟩ : ∃ S : ByteArray, (⟨(hexL x.1).toArray⟩ : ByteArray) = S := ⟨_, rfl⟩; have hz := HS.out; have ht := HT.out; rw [hS] at hz ht ⊢; have HT2 := Lib.hid ht; clear hb2 ht)
  go_ret
  rw [← HT2.out]
  exact ⟨rfl, H2.out⟩
end Go.Proofs.YtecalodcbkljoaaGreatDoor
