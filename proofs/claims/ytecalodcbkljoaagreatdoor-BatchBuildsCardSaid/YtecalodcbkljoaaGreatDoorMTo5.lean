/- Items turned into the law's own: back. At most ten items with at most 400 bytes each: to. -/
import Derived.Test.YtecalodcbkljoaaGreatDoorMSam
import Derived.Test.YtecalodcbkljoaaGreatDoorMDigits
namespace Go.Proofs.YtecalodcbkljoaaGreatDoor
open Go.RowKit
def isSlX (xs : List It) : Value → World → Prop := fun v w => ∃ A n c, v = .slice A n c ∧ xs.length = n ∧ n ≤ c ∧ Sl w cX A xs
theorem Mono.slX (xs : List It) : Mono (isSlX xs) := fun _ _ _ hb ⟨A, n, c, h1, h2, h3, h4⟩ => ⟨A, n, c, h1, h2, h3, h4.keep hb⟩
set_option maxRecDepth 100000 in
set_option maxHeartbeats 3200000 in
theorem back_b (A : Option Addr) (c : Nat) (l : List It) (w : World) (hs : Sl w cX A l) (hl : l.length ≤ 1000000) :
    Calls Tryz.prog 22 #[.slice A l.length c] w fun e w' => ∃ v, e = .returned v ∧ Own w' w.heap.size 64 33 cX v l ∧ Below w.heap.size w w' := by
  have HX := Lib.hid (And.intro hs hl)
  clear hs hl
  go_enter Tryz.func22, Tryz.ntmps22
  go_wp2
  go_loopw [3, 4] (fun v i wr => ∃ k : Nat, k ≤ l.length ∧ i = .int .i64 (k : Int) ∧ Own wr w.heap.size 64 33 cX v (l.take k) ∧ Below w.heap.size w wr) (fun _ i _ => l.length - (intOf i).toNat)
  case atStart => exact ⟨0, Nat.zero_le _, rfl, Own.nil _ _ _ _ _, Below.refl _ _⟩
  case round =>
    obtain ⟨k, hk, rfl, ho, hb⟩ := hrel
    have HO := Lib.hid (And.intro ho hb)
    clear ho hb
    by_cases hlt : k < l.length
    · have hki : (k : Int) < (l.length : Int) := by omega
      have hk9 : (k : Int) < 1000000 := by have := HX.out.2; omega
      obtain ⟨ad, rfl, hat⟩ := Sl.at_ cX_length (HX.out.1.keep HO.out.2) hlt
      obtain ⟨x, hx⟩ : ∃ x, l[k] = x := ⟨_, rfl⟩
      rw [hx] at hat
      have HAT := Lib.hid hat
      have HT := Lib.hid (show l.take k ++ [x] = l.take (k + 1) from by rw [List.take_succ_eq_append_getElem hlt, hx])
      have HTL := Lib.hid (show (l.take k).length ≤ 1000000 from by rw [List.length_take]; have := HX.out.2; omega)
      clear hat hx
      go_wp2_with fail
      refine AnyO.wp_any_tail 13 (by kernel_rfl) (by kernel_rfl) (by kernel_rfl) (by kernel_rfl) (by kernel_rfl) (by kernel_rfl) (pstP [isV (u3), isV (.slice (some ad) l.length c), isV (.int .i64 (k : Int)), isV (.pointer (some (ad.add (k * 33)))), isV (.pointer (some (ad.add (k * 33)))), isV (vI x.id), isV (.slice (some ad) l.length c), isV (.int .i64 (k : Int)), isV (.pointer (some (ad.add (k * 33)))), isV (.pointer (some ⟨(ad.add (k * 33)).block, (ad.add (k * 33)).off + 32, none⟩)), isV (.string x.text), isV (vX x), isSlX [x]]) (MonoL.cons (Mono.v _) (MonoL.cons (Mono.v _) (MonoL.cons (Mono.v _) (MonoL.cons (Mono.v _) (MonoL.cons (Mono.v _) (MonoL.cons (Mono.v _) (MonoL.cons (Mono.v _) (MonoL.cons (Mono.v _) (MonoL.cons (Mono.v _) (MonoL.cons (Mono.v _) (MonoL.cons (Mono.v _) (MonoL.cons (Mono.v _) (MonoL.cons (Mono.slX _) MonoL.nil))))))))))))) ?_ ?_
      · intro i hi
        have hi2 : i = 0 ∨ i = 1 ∨ i = 2 ∨ i = 3 ∨ i = 4 ∨ i = 5 ∨ i = 6 ∨ i = 7 ∨ i = 8 ∨ i = 9 ∨ i = 10 ∨ i = 11 ∨ i = 12 := by omega
        clear hi
        rcases hi2 with rfl | rfl | rfl | rfl | rfl | rfl | rfl | rfl | rfl | rfl | rfl | rfl | rfl
        · -- 0: Op.move (Operand.tmp 3)
          refine AnyO.Step.mk rfl [] (by kernel_rfl) ?_
          intro vs u hE hp ac hb K hK
          have s3 : ac.tmps[3]?.getD undef = u3 := by rw [hb]; kernel_rfl
          rw [if_pos (AnyO.wanted_none rfl)]
          clear hb hp
          go_simp
          exact hK _ _ (Below.refl _ _) rfl
        · -- 1: Op.move (Operand.tmp 0)
          refine AnyO.Step.mk rfl [] (by kernel_rfl) ?_
          intro vs u hE hp ac hb K hK
          have s0 : ac.tmps[0]?.getD undef = .slice (some ad) l.length c := by rw [hb]; kernel_rfl
          rw [if_pos (AnyO.wanted_none rfl)]
          clear hb hp
          go_simp
          exact hK _ _ (Below.refl _ _) rfl
        · -- 2: Op.move (Operand.tmp 4)
          refine AnyO.Step.mk rfl [] (by kernel_rfl) ?_
          intro vs u hE hp ac hb K hK
          have s4 : ac.tmps[4]?.getD undef = .int .i64 (k : Int) := by rw [hb]; kernel_rfl
          rw [if_pos (AnyO.wanted_none rfl)]
          clear hb hp
          go_simp
          exact hK _ _ (Below.refl _ _) rfl
        · -- 3: Op.indexAddr 26 (Operand.tmp 12) (Operand.tmp 13)
          refine AnyO.Step.mk rfl [1, 2] (by kernel_rfl) ?_
          intro vs u hE hp ac hb K hK
          have s12 : ac.tmps[12]?.getD undef = .slice (some ad) l.length c := by rw [hb]; exact (show _ = vs 1 by kernel_rfl).trans (hp 1 (by decide))
          have s13 : ac.tmps[13]?.getD undef = .int .i64 (k : Int) := by rw [hb]; exact (show _ = vs 2 by kernel_rfl).trans (hp 2 (by decide))
          rw [if_pos (AnyO.wanted_none rfl)]
          clear hb hp
          have r1 := hki
          go_simp
          exact hK _ _ (Below.refl _ _) rfl
        · -- 4: Op.fieldAddr 39 (Operand.tmp 14) 0
          refine AnyO.Step.mk rfl [3] (by kernel_rfl) ?_
          intro vs u hE hp ac hb K hK
          have s14 : ac.tmps[14]?.getD undef = .pointer (some (ad.add (k * 33))) := by rw [hb]; exact (show _ = vs 3 by kernel_rfl).trans (hp 3 (by decide))
          rw [if_pos (AnyO.wanted_none rfl)]
          clear hb hp
          go_simp
          exact hK _ _ (Below.refl _ _) rfl
        · -- 5: Op.load 36 (Operand.tmp 15)
          refine AnyO.Step.mk rfl [4] (by kernel_rfl) ?_
          intro vs u hE hp ac hb K hK
          have s15 : ac.tmps[15]?.getD undef = .pointer (some (ad.add (k * 33))) := by rw [hb]; exact (show _ = vs 4 by kernel_rfl).trans (hp 4 (by decide))
          rw [if_pos (AnyO.wanted_none rfl)]
          clear hb hp
          obtain ⟨r1, r2, -⟩ := at_idX (HAT.out.keep (Below.step (below_drew wr) hE))
          go_simp
          exact hK _ _ (Below.refl _ _) rfl
        · -- 6: Op.move (Operand.tmp 0)
          refine AnyO.Step.mk rfl [] (by kernel_rfl) ?_
          intro vs u hE hp ac hb K hK
          have s0 : ac.tmps[0]?.getD undef = .slice (some ad) l.length c := by rw [hb]; kernel_rfl
          rw [if_pos (AnyO.wanted_none rfl)]
          clear hb hp
          go_simp
          exact hK _ _ (Below.refl _ _) rfl
        · -- 7: Op.move (Operand.tmp 4)
          refine AnyO.Step.mk rfl [] (by kernel_rfl) ?_
          intro vs u hE hp ac hb K hK
          have s4 : ac.tmps[4]?.getD undef = .int .i64 (k : Int) := by rw [hb]; kernel_rfl
          rw [if_pos (AnyO.wanted_none rfl)]
          clear hb hp
          go_simp
          exact hK _ _ (Below.refl _ _) rfl
        · -- 8: Op.indexAddr 26 (Operand.tmp 17) (Operand.tmp 18)
          refine AnyO.Step.mk rfl [6, 7] (by kernel_rfl) ?_
          intro vs u hE hp ac hb K hK
          have s17 : ac.tmps[17]?.getD undef = .slice (some ad) l.length c := by rw [hb]; exact (show _ = vs 6 by kernel_rfl).trans (hp 6 (by decide))
          have s18 : ac.tmps[18]?.getD undef = .int .i64 (k : Int) := by rw [hb]; exact (show _ = vs 7 by kernel_rfl).trans (hp 7 (by decide))
          rw [if_pos (AnyO.wanted_none rfl)]
          clear hb hp
          have r1 := hki
          go_simp
          exact hK _ _ (Below.refl _ _) rfl
        · -- 9: Op.fieldAddr 39 (Operand.tmp 19) 1
          refine AnyO.Step.mk rfl [8] (by kernel_rfl) ?_
          intro vs u hE hp ac hb K hK
          have s19 : ac.tmps[19]?.getD undef = .pointer (some (ad.add (k * 33))) := by rw [hb]; exact (show _ = vs 8 by kernel_rfl).trans (hp 8 (by decide))
          rw [if_pos (AnyO.wanted_none rfl)]
          clear hb hp
          go_simp
          exact hK _ _ (Below.refl _ _) rfl
        · -- 10: Op.load 9 (Operand.tmp 20)
          refine AnyO.Step.mk rfl [9] (by kernel_rfl) ?_
          intro vs u hE hp ac hb K hK
          have s20 : ac.tmps[20]?.getD undef = .pointer (some ⟨(ad.add (k * 33)).block, (ad.add (k * 33)).off + 32, none⟩) := by rw [hb]; exact (show _ = vs 9 by kernel_rfl).trans (hp 9 (by decide))
          rw [if_pos (AnyO.wanted_none rfl)]
          clear hb hp
          obtain ⟨-, -, r1⟩ := at_idX (HAT.out.keep (Below.step (below_drew wr) hE))
          go_simp
          exact hK _ _ (Below.refl _ _) rfl
        · -- 11: Op.build 64 #[(0, Operand.tmp 16), (1, Operand.tmp 21)]
          refine AnyO.Step.mk rfl [5, 10] (by kernel_rfl) ?_
          intro vs u hE hp ac hb K hK
          have s16 : ac.tmps[16]?.getD undef = vI x.id := by rw [hb]; exact (show _ = vs 5 by kernel_rfl).trans (hp 5 (by decide))
          have s21 : ac.tmps[21]?.getD undef = .string x.text := by rw [hb]; exact (show _ = vs 10 by kernel_rfl).trans (hp 10 (by decide))
          rw [if_pos (AnyO.wanted_none rfl)]
          clear hb hp
          go_simp
          exact hK _ _ (Below.refl _ _) rfl
        · -- 12: Op.buildSlice 22 1 #[(0, Operand.tmp 22)]
          refine AnyO.Step.mk rfl [11] (by kernel_rfl) ?_
          intro vs u hE hp ac hb K hK
          have s22 : ac.tmps[22]?.getD undef = vX x := by rw [hb]; exact (show _ = vs 11 by kernel_rfl).trans (hp 11 (by decide))
          rw [if_pos (AnyO.wanted_none rfl)]
          clear hb hp
          go_simp
          exact hK _ _ (below_alloc _ _) ⟨_, _, _, rfl, rfl, Nat.le_refl _, sl_newX u x _⟩
      · intro vs u hE hp
        have e0 : vs 0 = u3 := hp 0 (by decide)
        have e1 : vs 1 = .slice (some ad) l.length c := hp 1 (by decide)
        have e2 : vs 2 = .int .i64 (k : Int) := hp 2 (by decide)
        have e3 : vs 3 = .pointer (some (ad.add (k * 33))) := hp 3 (by decide)
        have e4 : vs 4 = .pointer (some (ad.add (k * 33))) := hp 4 (by decide)
        have e5 : vs 5 = vI x.id := hp 5 (by decide)
        have e6 : vs 6 = .slice (some ad) l.length c := hp 6 (by decide)
        have e7 : vs 7 = .int .i64 (k : Int) := hp 7 (by decide)
        have e8 : vs 8 = .pointer (some (ad.add (k * 33))) := hp 8 (by decide)
        have e9 : vs 9 = .pointer (some ⟨(ad.add (k * 33)).block, (ad.add (k * 33)).off + 32, none⟩) := hp 9 (by decide)
        have e10 : vs 10 = .string x.text := hp 10 (by decide)
        have e11 : vs 11 = vX x := hp 11 (by decide)
        obtain ⟨A_12, n_12, c_12, e12, h_12⟩ := show isSlX [x] (vs 12) u from hp 12 (by decide)
        clear hp
        have HE := Lib.hid (And.intro hE h_12); clear hE h_12
        rw [puts_range [some 11, some 12, some 13, some 14, some 15, some 16, some 17, some 18, some 19, some 20, some 21, some 22, some 23] (by kernel_rfl)]
        simp only [putL, Nat.reduceAdd, List.drop_succ_cons, List.drop_zero, e0, e1, e2, e3, e4, e5, e6, e7, e8, e9, e10, e11, e12]
        clear e0 e1 e2 e3 e4 e5 e6 e7 e8 e9 e10 e11 e12
        go_simp
        go_wp2_with (at_builtin; refine wpList_append_sl _ rfl (.tmp 11) (.tmp 23) 22 rfl w.heap.size 64 33 48 cX underXs rowXX (by decide) cX_length cX_one u3 (l.take k) rfl (Own.keep HO.out.1 HE.out.1) _ _ _ [x] HE.out.2.1 rfl HE.out.2.2.2 (by have := HTL.out; have : 1 = n_12 := HE.out.2.1; omega) (by have := HTL.out; have : 1 = n_12 := HE.out.2.1; omega) (by have := HO.out.2.size; have := HE.out.1.size; omega) ?_)
        intro v2 w2 ho hg
        have hb2 := Own.grew (Own.keep HO.out.1 HE.out.1) hg (HO.out.2.trans (HE.out.1.mono HO.out.2.size)) (Nat.le_refl _) (by have := HO.out.2.size; have := HE.out.1.size; omega)
        rw [HT.out] at ho
        have H2 := Lib.hid (And.intro hb2 ho); clear hb2 ho hg
        go_wp2
        go_roundw
        case rel => exact ⟨k + 1, hlt, by go_num, H2.out.2, H2.out.1⟩
        case measure => simp [intOf]; omega
    · obtain rfl : k = l.length := by omega
      have HE := Lib.hid (show Own wr w.heap.size 64 33 cX u3 l from by have h := HO.out.1; rwa [List.take_length] at h)
      clear hlt hk
      go_wp2
      go_ret
      exact ⟨_, rfl, HE.out, HO.out.2⟩
end Go.Proofs.YtecalodcbkljoaaGreatDoor
namespace Go.Proofs.YtecalodcbkljoaaGreatDoor
open Go.RowKit
theorem rowXF : (Tryz.prog.info? 39).map (fun i => (i.zero.map (·.cells.size), i.size, i.bytes)) = some (some 33, 33, 48) := by kernel_rfl
theorem underFs : Tryz.prog.underlying 26 = some (.slice 39) := Tryz.underlying26
/-- An item with at most 400 bytes; at most ten of them. -/
def cutX (x : It) : It := ⟨x.id, x.text.extract 0 (min x.text.size 400)⟩
def toL (l : List It) : List It := (l.take 10).map cutX
theorem toL_len (l : List It) : (toL l).length ≤ 10 := by
  unfold toL
  rw [List.length_map, List.length_take]
  omega
theorem cutX_size (x : It) : (cutX x).text.size ≤ 400 := by
  unfold cutX
  simp only [ByteArray.size_extract]
  omega
theorem toL_size (l : List It) : ∀ x ∈ toL l, x.text.size ≤ 400 := by
  intro x hx
  obtain ⟨y, -, rfl⟩ := List.mem_map.1 hx
  exact cutX_size y
set_option maxRecDepth 100000 in
set_option maxHeartbeats 3200000 in
theorem to_b (A : Option Addr) (c : Nat) (l : List It) (w : World) (hs : Sl w cX A l) (hl : l.length ≤ c) :
    Calls Tryz.prog 17 #[.slice A l.length c] w fun e w' => ∃ v, e = .returned v ∧ Own w' w.heap.size 39 33 cX v (toL l) ∧ Below w.heap.size w w' := by
  have HX := Lib.hid (And.intro hs hl)
  clear hs hl
  go_enter Tryz.func17, Tryz.ntmps17
  go_wp2
  go_loopw [3, 4] (fun v i wr => ∃ k : Nat, k ≤ l.length ∧ k ≤ 10 ∧ i = .int .i64 (k : Int) ∧ Own wr w.heap.size 39 33 cX v ((l.take k).map cutX) ∧ Below w.heap.size w wr) (fun _ i _ => 10 - (intOf i).toNat)
  case atStart => exact ⟨0, Nat.zero_le _, by omega, rfl, Own.nil _ _ _ _ _, Below.refl _ _⟩
  case round =>
    obtain ⟨k, hk, hk10, rfl, ho, hb⟩ := hrel
    have HO := Lib.hid (And.intro ho hb)
    clear ho hb
    by_cases hlt : k < l.length
    · have hki : (k : Int) < (l.length : Int) := by omega
      by_cases h10 : k < 10
      · have hk9 : (k : Int) < 10 := by omega
        obtain ⟨ad, rfl, hat⟩ := Sl.at_ cX_length (HX.out.1.keep HO.out.2) hlt
        obtain ⟨x, hx⟩ : ∃ x, l[k] = x := ⟨_, rfl⟩
        rw [hx] at hat
        have HAT := Lib.hid hat
        obtain ⟨y, hy⟩ : ∃ y, cutX x = y := ⟨_, rfl⟩
        obtain ⟨m, hm⟩ : ∃ m, min x.text.size 400 = m := ⟨_, rfl⟩
        have HY := Lib.hid (show x.text.extract 0 m = y.text ∧ (⟨x.id, y.text⟩ : It) = y ∧ min (x.text.size : Int) 400 = (m : Int) ∧ (m : Int) ≤ (x.text.size : Int) from by
          rw [← hy, ← hm]
          exact ⟨rfl, rfl, by omega, by omega⟩)
        have HT := Lib.hid (show (l.take k).map cutX ++ [y] = (l.take (k + 1)).map cutX from by rw [List.take_succ_eq_append_getElem hlt, hx, List.map_append, ← hy]; rfl)
        have HTL := Lib.hid (show ((l.take k).map cutX).length ≤ 10 from by rw [List.length_map, List.length_take]; omega)
        obtain ⟨Q, hQ⟩ : ∃ Q, (l.take k).map cutX = Q := ⟨_, rfl⟩
        rw [hQ] at HO HT HTL
        clear hat hx hy hm hQ
        go_wp2_with fail
        refine AnyO.wp_any_tail 21 (by kernel_rfl) (by kernel_rfl) (by kernel_rfl) (by kernel_rfl) (by kernel_rfl) (by kernel_rfl) (pstP [isV (u3), isV (.slice (some ad) l.length c), isV (.int .i64 (k : Int)), isV (.pointer (some (ad.add (k * 33)))), isV (.pointer (some (ad.add (k * 33)))), isV (vI x.id), isV (.slice (some ad) l.length c), isV (.int .i64 (k : Int)), isV (.pointer (some (ad.add (k * 33)))), isV (.pointer (some ⟨(ad.add (k * 33)).block, (ad.add (k * 33)).off + 32, none⟩)), isV (.string x.text), isV (.slice (some ad) l.length c), isV (.int .i64 (k : Int)), isV (.pointer (some (ad.add (k * 33)))), isV (.pointer (some ⟨(ad.add (k * 33)).block, (ad.add (k * 33)).off + 32, none⟩)), isV (.string x.text), isV (.int .i64 (x.text.size : Int)), isV (.int .i64 (m : Int)), isV (.string y.text), isV (vX y), isSlX [y]]) (MonoL.cons (Mono.v _) (MonoL.cons (Mono.v _) (MonoL.cons (Mono.v _) (MonoL.cons (Mono.v _) (MonoL.cons (Mono.v _) (MonoL.cons (Mono.v _) (MonoL.cons (Mono.v _) (MonoL.cons (Mono.v _) (MonoL.cons (Mono.v _) (MonoL.cons (Mono.v _) (MonoL.cons (Mono.v _) (MonoL.cons (Mono.v _) (MonoL.cons (Mono.v _) (MonoL.cons (Mono.v _) (MonoL.cons (Mono.v _) (MonoL.cons (Mono.v _) (MonoL.cons (Mono.v _) (MonoL.cons (Mono.v _) (MonoL.cons (Mono.v _) (MonoL.cons (Mono.v _) (MonoL.cons (Mono.slX _) MonoL.nil))))))))))))))))))))) ?_ ?_
        · intro i hi
          have hi2 : i = 0 ∨ i = 1 ∨ i = 2 ∨ i = 3 ∨ i = 4 ∨ i = 5 ∨ i = 6 ∨ i = 7 ∨ i = 8 ∨ i = 9 ∨ i = 10 ∨ i = 11 ∨ i = 12 ∨ i = 13 ∨ i = 14 ∨ i = 15 ∨ i = 16 ∨ i = 17 ∨ i = 18 ∨ i = 19 ∨ i = 20 := by omega
          clear hi
          rcases hi2 with rfl | rfl | rfl | rfl | rfl | rfl | rfl | rfl | rfl | rfl | rfl | rfl | rfl | rfl | rfl | rfl | rfl | rfl | rfl | rfl | rfl
          · -- 0: Op.move (Operand.tmp 3)
            refine AnyO.Step.mk rfl [] (by kernel_rfl) ?_
            intro vs u hE hp ac hb K hK
            have s3 : ac.tmps[3]?.getD undef = u3 := by rw [hb]; kernel_rfl
            rw [if_pos (AnyO.wanted_none rfl)]
            clear hb hp
            go_simp
            exact hK _ _ (Below.refl _ _) rfl
          · -- 1: Op.move (Operand.tmp 0)
            refine AnyO.Step.mk rfl [] (by kernel_rfl) ?_
            intro vs u hE hp ac hb K hK
            have s0 : ac.tmps[0]?.getD undef = .slice (some ad) l.length c := by rw [hb]; kernel_rfl
            rw [if_pos (AnyO.wanted_none rfl)]
            clear hb hp
            go_simp
            exact hK _ _ (Below.refl _ _) rfl
          · -- 2: Op.move (Operand.tmp 4)
            refine AnyO.Step.mk rfl [] (by kernel_rfl) ?_
            intro vs u hE hp ac hb K hK
            have s4 : ac.tmps[4]?.getD undef = .int .i64 (k : Int) := by rw [hb]; kernel_rfl
            rw [if_pos (AnyO.wanted_none rfl)]
            clear hb hp
            go_simp
            exact hK _ _ (Below.refl _ _) rfl
          · -- 3: Op.indexAddr 22 (Operand.tmp 16) (Operand.tmp 17)
            refine AnyO.Step.mk rfl [1, 2] (by kernel_rfl) ?_
            intro vs u hE hp ac hb K hK
            have s16 : ac.tmps[16]?.getD undef = .slice (some ad) l.length c := by rw [hb]; exact (show _ = vs 1 by kernel_rfl).trans (hp 1 (by decide))
            have s17 : ac.tmps[17]?.getD undef = .int .i64 (k : Int) := by rw [hb]; exact (show _ = vs 2 by kernel_rfl).trans (hp 2 (by decide))
            rw [if_pos (AnyO.wanted_none rfl)]
            clear hb hp
            have r1 := hki
            go_simp
            exact hK _ _ (Below.refl _ _) rfl
          · -- 4: Op.fieldAddr 64 (Operand.tmp 18) 0
            refine AnyO.Step.mk rfl [3] (by kernel_rfl) ?_
            intro vs u hE hp ac hb K hK
            have s18 : ac.tmps[18]?.getD undef = .pointer (some (ad.add (k * 33))) := by rw [hb]; exact (show _ = vs 3 by kernel_rfl).trans (hp 3 (by decide))
            rw [if_pos (AnyO.wanted_none rfl)]
            clear hb hp
            go_simp
            exact hK _ _ (Below.refl _ _) rfl
          · -- 5: Op.load 37 (Operand.tmp 19)
            refine AnyO.Step.mk rfl [4] (by kernel_rfl) ?_
            intro vs u hE hp ac hb K hK
            have s19 : ac.tmps[19]?.getD undef = .pointer (some (ad.add (k * 33))) := by rw [hb]; exact (show _ = vs 4 by kernel_rfl).trans (hp 4 (by decide))
            rw [if_pos (AnyO.wanted_none rfl)]
            clear hb hp
            obtain ⟨r1, r2, -⟩ := at_idX (HAT.out.keep (Below.step (below_drew wr) hE))
            go_simp
            exact hK _ _ (Below.refl _ _) rfl
          · -- 6: Op.move (Operand.tmp 0)
            refine AnyO.Step.mk rfl [] (by kernel_rfl) ?_
            intro vs u hE hp ac hb K hK
            have s0 : ac.tmps[0]?.getD undef = .slice (some ad) l.length c := by rw [hb]; kernel_rfl
            rw [if_pos (AnyO.wanted_none rfl)]
            clear hb hp
            go_simp
            exact hK _ _ (Below.refl _ _) rfl
          · -- 7: Op.move (Operand.tmp 4)
            refine AnyO.Step.mk rfl [] (by kernel_rfl) ?_
            intro vs u hE hp ac hb K hK
            have s4 : ac.tmps[4]?.getD undef = .int .i64 (k : Int) := by rw [hb]; kernel_rfl
            rw [if_pos (AnyO.wanted_none rfl)]
            clear hb hp
            go_simp
            exact hK _ _ (Below.refl _ _) rfl
          · -- 8: Op.indexAddr 22 (Operand.tmp 21) (Operand.tmp 22)
            refine AnyO.Step.mk rfl [6, 7] (by kernel_rfl) ?_
            intro vs u hE hp ac hb K hK
            have s21 : ac.tmps[21]?.getD undef = .slice (some ad) l.length c := by rw [hb]; exact (show _ = vs 6 by kernel_rfl).trans (hp 6 (by decide))
            have s22 : ac.tmps[22]?.getD undef = .int .i64 (k : Int) := by rw [hb]; exact (show _ = vs 7 by kernel_rfl).trans (hp 7 (by decide))
            rw [if_pos (AnyO.wanted_none rfl)]
            clear hb hp
            have r1 := hki
            go_simp
            exact hK _ _ (Below.refl _ _) rfl
          · -- 9: Op.fieldAddr 64 (Operand.tmp 23) 1
            refine AnyO.Step.mk rfl [8] (by kernel_rfl) ?_
            intro vs u hE hp ac hb K hK
            have s23 : ac.tmps[23]?.getD undef = .pointer (some (ad.add (k * 33))) := by rw [hb]; exact (show _ = vs 8 by kernel_rfl).trans (hp 8 (by decide))
            rw [if_pos (AnyO.wanted_none rfl)]
            clear hb hp
            go_simp
            exact hK _ _ (Below.refl _ _) rfl
          · -- 10: Op.load 9 (Operand.tmp 24)
            refine AnyO.Step.mk rfl [9] (by kernel_rfl) ?_
            intro vs u hE hp ac hb K hK
            have s24 : ac.tmps[24]?.getD undef = .pointer (some ⟨(ad.add (k * 33)).block, (ad.add (k * 33)).off + 32, none⟩) := by rw [hb]; exact (show _ = vs 9 by kernel_rfl).trans (hp 9 (by decide))
            rw [if_pos (AnyO.wanted_none rfl)]
            clear hb hp
            obtain ⟨-, -, r1⟩ := at_idX (HAT.out.keep (Below.step (below_drew wr) hE))
            go_simp
            exact hK _ _ (Below.refl _ _) rfl
          · -- 11: Op.move (Operand.tmp 0)
            refine AnyO.Step.mk rfl [] (by kernel_rfl) ?_
            intro vs u hE hp ac hb K hK
            have s0 : ac.tmps[0]?.getD undef = .slice (some ad) l.length c := by rw [hb]; kernel_rfl
            rw [if_pos (AnyO.wanted_none rfl)]
            clear hb hp
            go_simp
            exact hK _ _ (Below.refl _ _) rfl
          · -- 12: Op.move (Operand.tmp 4)
            refine AnyO.Step.mk rfl [] (by kernel_rfl) ?_
            intro vs u hE hp ac hb K hK
            have s4 : ac.tmps[4]?.getD undef = .int .i64 (k : Int) := by rw [hb]; kernel_rfl
            rw [if_pos (AnyO.wanted_none rfl)]
            clear hb hp
            go_simp
            exact hK _ _ (Below.refl _ _) rfl
          · -- 13: Op.indexAddr 22 (Operand.tmp 26) (Operand.tmp 27)
            refine AnyO.Step.mk rfl [11, 12] (by kernel_rfl) ?_
            intro vs u hE hp ac hb K hK
            have s26 : ac.tmps[26]?.getD undef = .slice (some ad) l.length c := by rw [hb]; exact (show _ = vs 11 by kernel_rfl).trans (hp 11 (by decide))
            have s27 : ac.tmps[27]?.getD undef = .int .i64 (k : Int) := by rw [hb]; exact (show _ = vs 12 by kernel_rfl).trans (hp 12 (by decide))
            rw [if_pos (AnyO.wanted_none rfl)]
            clear hb hp
            have r1 := hki
            go_simp
            exact hK _ _ (Below.refl _ _) rfl
          · -- 14: Op.fieldAddr 64 (Operand.tmp 28) 1
            refine AnyO.Step.mk rfl [13] (by kernel_rfl) ?_
            intro vs u hE hp ac hb K hK
            have s28 : ac.tmps[28]?.getD undef = .pointer (some (ad.add (k * 33))) := by rw [hb]; exact (show _ = vs 13 by kernel_rfl).trans (hp 13 (by decide))
            rw [if_pos (AnyO.wanted_none rfl)]
            clear hb hp
            go_simp
            exact hK _ _ (Below.refl _ _) rfl
          · -- 15: Op.load 9 (Operand.tmp 29)
            refine AnyO.Step.mk rfl [14] (by kernel_rfl) ?_
            intro vs u hE hp ac hb K hK
            have s29 : ac.tmps[29]?.getD undef = .pointer (some ⟨(ad.add (k * 33)).block, (ad.add (k * 33)).off + 32, none⟩) := by rw [hb]; exact (show _ = vs 14 by kernel_rfl).trans (hp 14 (by decide))
            rw [if_pos (AnyO.wanted_none rfl)]
            clear hb hp
            obtain ⟨-, -, r1⟩ := at_idX (HAT.out.keep (Below.step (below_drew wr) hE))
            go_simp
            exact hK _ _ (Below.refl _ _) rfl
          · -- 16: Op.call { callee := Callee.builtin Builtin.len, args := #[Op
            refine AnyO.Step.mk rfl [15] (by kernel_rfl) ?_
            intro vs u hE hp ac hb K hK
            have s30 : ac.tmps[30]?.getD undef = .string x.text := by rw [hb]; exact (show _ = vs 15 by kernel_rfl).trans (hp 15 (by decide))
            rw [if_pos (AnyO.wanted_none rfl)]
            clear hb hp
            go_simp
            exact hK _ _ (Below.refl _ _) rfl
          · -- 17: Op.call { callee := Callee.builtin Builtin.min, args := #[Op
            refine AnyO.Step.mk rfl [16] (by kernel_rfl) ?_
            intro vs u hE hp ac hb K hK
            have s31 : ac.tmps[31]?.getD undef = .int .i64 (x.text.size : Int) := by rw [hb]; exact (show _ = vs 16 by kernel_rfl).trans (hp 16 (by decide))
            rw [if_pos (AnyO.wanted_none rfl)]
            clear hb hp
            have r1 := HY.out.2.2.1
            go_simp
            exact hK _ _ (Below.refl _ _) rfl
          · -- 18: Op.slice 9 (Operand.tmp 25) none (some (Operand.tmp 32)) non
            refine AnyO.Step.mk rfl [10, 17] (by kernel_rfl) ?_
            intro vs u hE hp ac hb K hK
            have s25 : ac.tmps[25]?.getD undef = .string x.text := by rw [hb]; exact (show _ = vs 10 by kernel_rfl).trans (hp 10 (by decide))
            have s32 : ac.tmps[32]?.getD undef = .int .i64 (m : Int) := by rw [hb]; exact (show _ = vs 17 by kernel_rfl).trans (hp 17 (by decide))
            rw [if_pos (AnyO.wanted_none rfl)]
            clear hb hp
            have r1 := HY.out.1
            have r2 := HY.out.2.2.2
            go_simp
            exact hK _ _ (Below.refl _ _) rfl
          · -- 19: Op.build 39 #[(0, Operand.tmp 20), (1, Operand.tmp 33)]
            refine AnyO.Step.mk rfl [5, 18] (by kernel_rfl) ?_
            intro vs u hE hp ac hb K hK
            have s20 : ac.tmps[20]?.getD undef = vI x.id := by rw [hb]; exact (show _ = vs 5 by kernel_rfl).trans (hp 5 (by decide))
            have s33 : ac.tmps[33]?.getD undef = .string y.text := by rw [hb]; exact (show _ = vs 18 by kernel_rfl).trans (hp 18 (by decide))
            rw [if_pos (AnyO.wanted_none rfl)]
            clear hb hp
            have r1 := HY.out.2.1
            go_simp
            exact hK _ _ (Below.refl _ _) rfl
          · -- 20: Op.buildSlice 26 1 #[(0, Operand.tmp 34)]
            refine AnyO.Step.mk rfl [19] (by kernel_rfl) ?_
            intro vs u hE hp ac hb K hK
            have s34 : ac.tmps[34]?.getD undef = vX y := by rw [hb]; exact (show _ = vs 19 by kernel_rfl).trans (hp 19 (by decide))
            rw [if_pos (AnyO.wanted_none rfl)]
            clear hb hp
            go_simp
            exact hK _ _ (below_alloc _ _) ⟨_, _, _, rfl, rfl, Nat.le_refl _, sl_newX u y _⟩
        · intro vs u hE hp
          have e0 : vs 0 = u3 := hp 0 (by decide)
          have e1 : vs 1 = .slice (some ad) l.length c := hp 1 (by decide)
          have e2 : vs 2 = .int .i64 (k : Int) := hp 2 (by decide)
          have e3 : vs 3 = .pointer (some (ad.add (k * 33))) := hp 3 (by decide)
          have e4 : vs 4 = .pointer (some (ad.add (k * 33))) := hp 4 (by decide)
          have e5 : vs 5 = vI x.id := hp 5 (by decide)
          have e6 : vs 6 = .slice (some ad) l.length c := hp 6 (by decide)
          have e7 : vs 7 = .int .i64 (k : Int) := hp 7 (by decide)
          have e8 : vs 8 = .pointer (some (ad.add (k * 33))) := hp 8 (by decide)
          have e9 : vs 9 = .pointer (some ⟨(ad.add (k * 33)).block, (ad.add (k * 33)).off + 32, none⟩) := hp 9 (by decide)
          have e10 : vs 10 = .string x.text := hp 10 (by decide)
          have e11 : vs 11 = .slice (some ad) l.length c := hp 11 (by decide)
          have e12 : vs 12 = .int .i64 (k : Int) := hp 12 (by decide)
          have e13 : vs 13 = .pointer (some (ad.add (k * 33))) := hp 13 (by decide)
          have e14 : vs 14 = .pointer (some ⟨(ad.add (k * 33)).block, (ad.add (k * 33)).off + 32, none⟩) := hp 14 (by decide)
          have e15 : vs 15 = .string x.text := hp 15 (by decide)
          have e16 : vs 16 = .int .i64 (x.text.size : Int) := hp 16 (by decide)
          have e17 : vs 17 = .int .i64 (m : Int) := hp 17 (by decide)
          have e18 : vs 18 = .string y.text := hp 18 (by decide)
          have e19 : vs 19 = vX y := hp 19 (by decide)
          obtain ⟨A_20, n_20, c_20, e20, h_20⟩ := show isSlX [y] (vs 20) u from hp 20 (by decide)
          clear hp
          have HE := Lib.hid (And.intro hE h_20); clear hE h_20
          rw [puts_range [some 15, some 16, some 17, some 18, some 19, some 20, some 21, some 22, some 23, some 24, some 25, some 26, some 27, some 28, some 29, some 30, some 31, some 32, some 33, some 34, some 35] (by kernel_rfl)]
          simp only [putL, Nat.reduceAdd, List.drop_succ_cons, List.drop_zero, e0, e1, e2, e3, e4, e5, e6, e7, e8, e9, e10, e11, e12, e13, e14, e15, e16, e17, e18, e19, e20]
          clear e0 e1 e2 e3 e4 e5 e6 e7 e8 e9 e10 e11 e12 e13 e14 e15 e16 e17 e18 e19 e20
          go_simp
          go_wp2_with (at_builtin; refine wpList_append_sl _ rfl (.tmp 15) (.tmp 35) 26 rfl w.heap.size 39 33 48 cX underFs rowXF (by decide) cX_length cX_one u3 Q rfl (Own.keep HO.out.1 HE.out.1) _ _ _ [y] HE.out.2.1 rfl HE.out.2.2.2 (by have := HTL.out; have : 1 = n_20 := HE.out.2.1; omega) (by have := HTL.out; have : 1 = n_20 := HE.out.2.1; omega) (by have := HO.out.2.size; have := HE.out.1.size; omega) ?_)
          intro v2 w2 ho hg
          have hb2 := Own.grew (Own.keep HO.out.1 HE.out.1) hg (HO.out.2.trans (HE.out.1.mono HO.out.2.size)) (Nat.le_refl _) (by have := HO.out.2.size; have := HE.out.1.size; omega)
          rw [HT.out] at ho
          have H2 := Lib.hid (And.intro hb2 ho); clear hb2 ho hg
          go_wp2
          go_roundw
          case rel => exact ⟨k + 1, hlt, h10, by go_num, H2.out.2, H2.out.1⟩
          case measure => simp [intOf]; omega
      · have hk9 : ¬ (k : Int) < 10 := by omega
        have HE := Lib.hid (show Own wr w.heap.size 39 33 cX u3 (toL l) from by have h := HO.out.1; rwa [show k = 10 by omega] at h)
        clear hlt hk h10
        go_wp2
        go_ret
        exact ⟨_, rfl, HE.out, HO.out.2⟩
    · obtain rfl : k = l.length := by omega
      have HE := Lib.hid (show Own wr w.heap.size 39 33 cX u3 (toL l) from by
        have h := HO.out.1
        rw [List.take_length] at h
        unfold toL
        rwa [List.take_of_length_le (by omega)])
      clear hlt hk
      go_wp2
      go_ret
      exact ⟨_, rfl, HE.out, HO.out.2⟩
end Go.Proofs.YtecalodcbkljoaaGreatDoor
