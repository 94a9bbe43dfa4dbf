/- The words of a line in the reference: bulletinref35.words. -/
import Derived.Test.YtecalodcbkljoaaGreatDoorMRnu
import Derived.Test.YtecalodcbkljoaaGreatDoorMRtx
namespace Go.Proofs.YtecalodcbkljoaaGreatDoor
open Go.RowKit
def cStr (s : ByteArray) : List Value := [.string s]
theorem cStr_length (s : ByteArray) : (cStr s).length = 1 := rfl
theorem cStr_one (s : ByteArray) : ∀ u ∈ cStr s, u.oneCell' = true := by
  intro u hu
  simp only [cStr, List.mem_cons, List.not_mem_nil, or_false] at hu
  subst hu
  rfl
theorem rowStr : (Tryz.prog.info? 9).map (fun i => (i.zero.map (·.cells.size), i.size, i.bytes)) = some (some 1, 1, 16) := by kernel_rfl
theorem underStrs : Tryz.prog.underlying 76 = some (.slice 9) := Tryz.underlying76
theorem flat_str (xs : List ByteArray) : xs.flatMap cStr = xs.map Value.string := by
  induction xs with
  | nil => rfl
  | cons x r ih => rw [List.flatMap_cons, ih]; rfl
/-- A list of texts of the call's own: where it lies; one of them stored anew. -/
theorem Own.str0 {w : World} {base : Nat} {e : TypeId} {v : Value} {xs : List ByteArray} (h : Own w base e 1 cStr v xs) (hx : 0 < xs.length) : ∃ g c, v = .slice (some ⟨g, 0, none⟩) xs.length c ∧ base ≤ g := by
  rcases h.2 with ⟨_, h2⟩ | ⟨g, c, cur, h1, h2, _⟩
  · omega
  · exact ⟨g, c, h1, h2⟩
theorem Own.set1 {w : World} {base g n c : Nat} {e : TypeId} {xs : List ByteArray} (h : Own w base e 1 cStr (.slice (some ⟨g, 0, none⟩) n c) xs) (i : Nat) (y : ByteArray) (hi : xs[i]? = some y) :
    w.frozen? ⟨g, i, none⟩ = false ∧ w.cell? ⟨g, i, none⟩ = some (.string y) ∧ ∀ z, Own (w.setCell ⟨g, i, none⟩ (.string z)) base e 1 cStr (.slice (some ⟨g, 0, none⟩) n c) (xs.set i z) := by
  rcases h.2 with ⟨h1, _⟩ | ⟨g2, c2, cur, h1, h2, h3, h4, h5, h6, h7⟩
  · cases h1
  · cases h1
    have hr : Row w g cur.toList e := by
      unfold Row
      simpa using h3
    rw [Nat.mul_one, flat_str] at h7
    have hlt := (List.getElem?_eq_some_iff.1 hi).1
    have hc : cur.toList[i]? = some (.string y) := by
      have := congrArg (fun l => l[i]?) h7
      simp only [List.getElem?_take, List.getElem?_map] at this
      rw [if_pos hlt, hi] at this
      exact this
    refine ⟨hr.fz i, by rw [hr.cell, hc], fun z => ⟨by rw [flatMap_length cStr 1 cStr_length], Or.inr ⟨g, c, (cur.toList.set i (.string z)).toArray, ?_, h2, hr.set i _, by rw [List.length_set]; exact h4, h5, by simpa using h6, ?_⟩⟩⟩
    · rw [List.length_set]
    · rw [List.length_set, Nat.mul_one, flat_str, List.take_set, h7, List.map_set]
theorem sl_newT (w : World) (y : ByteArray) : Sl (w.alloc (.cells #[.string y] 9)) cStr (some ⟨w.heap.size, 0, none⟩) [y] := by
  refine fun _ => ⟨_, rfl, ?_⟩
  exact at_new w (cStr y) 9 _ rfl
/-- What words knows ahead of byte k: the words behind it and the bytes of the word under way. -/
def WdI (s : ByteArray) (k : Nat) (xs : List ByteArray) : Prop :=
  ∃ (init : List ByteArray) (cur : List UInt8), xs = init ++ [mkS cur] ∧ cur.length ≤ k ∧ init ++ (splitGo 32 cur ((bl s).drop k)).map mkS = (splitGo 32 [] (bl s)).map mkS
theorem WdI.zero (s : ByteArray) : WdI s 0 [mkS []] := ⟨[], [], rfl, Nat.le_refl _, by rw [List.drop_zero, List.nil_append]⟩
theorem splitGo_len (c : UInt8) : ∀ (l cur : List UInt8), (splitGo c cur l).length ≤ l.length + 1
  | [], cur => by simp [splitGo]
  | x :: xs, cur => by
    unfold splitGo
    split
    · have := splitGo_len c xs []
      simp only [List.length_cons]
      omega
    · have := splitGo_len c xs (cur ++ [x])
      simp only [List.length_cons]
      omega
theorem WdI.len {s : ByteArray} {k : Nat} {xs : List ByteArray} (h : WdI s k xs) : 0 < xs.length ∧ xs.length ≤ s.size + 1 := by
  obtain ⟨init, cur, rfl, hcl, he⟩ := h
  have h1 := splitGo_len 32 (bl s) []
  rw [bl_length] at h1
  have h2 := congrArg List.length he
  have h3 : 0 < (splitGo 32 cur ((bl s).drop k)).length := List.length_pos_iff.2 (splitGo_ne _ _ _)
  rw [List.length_append, List.length_map, List.length_map] at h2
  rw [List.length_append, List.length_singleton]
  omega
theorem drop_at {s : ByteArray} {k : Nat} (h : k < s.size) : (bl s).drop k = s[k] :: (bl s).drop (k + 1) := List.drop_eq_getElem_cons (by rw [bl_length]; exact h)
theorem WdI.space {s : ByteArray} {k : Nat} {xs : List ByteArray} (h : WdI s k xs) (hk : k < s.size) (hc : s[k] = 32) : WdI s (k + 1) (xs ++ [mkS []]) := by
  obtain ⟨init, cur, rfl, hcl, he⟩ := h
  refine ⟨init ++ [mkS cur], [], rfl, Nat.zero_le _, ?_⟩
  rw [← he, drop_at hk, splitGo, if_pos hc, List.map_cons, List.append_assoc]
  rfl
theorem mkS_app (a b : List UInt8) : mkS a ++ mkS b = mkS (a ++ b) := by
  apply bl_inj
  rw [bl_app, bl_mkS, bl_mkS, bl_mkS]
theorem one_piece {s : ByteArray} {k : Nat} (h : k < s.size) : s.extract k (k + 1) = mkS [s[k]] := by
  apply bl_inj
  rw [bl_mkS, bl_piece, drop_at h]
  rfl
theorem WdI.letter {s : ByteArray} {k m : Nat} {xs : List ByteArray} (h : WdI s k xs) (hk : k < s.size) (hc : s[k] ≠ 32) (hx : xs.length = m + 1) :
    ∃ y, xs[m]? = some y ∧ y.size ≤ s.size ∧ WdI s (k + 1) (xs.set m (y ++ s.extract k (k + 1))) := by
  obtain ⟨init, cur, rfl, hcl, he⟩ := h
  obtain rfl : init.length = m := by simpa using hx
  refine ⟨mkS cur, by simp, by rw [← bl_length, bl_mkS]; omega, init, cur ++ [s[k]], ?_, by rw [List.length_append, List.length_singleton]; omega, ?_⟩
  · rw [one_piece hk, mkS_app, List.set_append_right _ _ (Nat.le_refl _), Nat.sub_self]
    rfl
  · rw [← he, drop_at hk]
    conv => rhs; rw [splitGo, if_neg hc]
theorem WdI.last {s : ByteArray} {xs : List ByteArray} (h : WdI s s.size xs) : xs = (splitGo 32 [] (bl s)).map mkS := by
  obtain ⟨init, cur, rfl, hcl, he⟩ := h
  rw [← he, List.drop_eq_nil_of_le (by rw [bl_length]; exact Nat.le_refl _), splitGo]
  rfl
set_option maxRecDepth 100000 in
set_option maxHeartbeats 3200000 in
theorem words_b (s : ByteArray) (hz : s.size ≤ 1073741824) (w : World) : Calls Tryz.prog 35 #[.string s] w fun e w' => ∃ v, e = .returned v ∧ Own w' w.heap.size 9 1 cStr v ((splitGo 32 [] (bl s)).map mkS) ∧ Below w.heap.size w w' := by
  have HZ := Lib.hid hz
  clear hz
  go_enter Tryz.func35, Tryz.ntmps35
  go_wp2
  go_loopw [3, 4] (fun v i wr => ∃ (k : Nat) (xs : List ByteArray), k ≤ s.size ∧ i = .int .i64 (k : Int) ∧ WdI s k xs ∧ Own wr w.heap.size 9 1 cStr v xs ∧ Below w.heap.size w wr) (fun _ i _ => s.size - (intOf i).toNat)
  case atStart => exact ⟨0, [mkS []], Nat.zero_le _, rfl, WdI.zero s, Own.lit cStr_length [mkS []] (Nat.le_refl _) (by decide), below_alloc _ _⟩
  case round =>
    obtain ⟨k, xs, hk, rfl, hw, ho, hb⟩ := hrel
    have HO := Lib.hid (And.intro ho (And.intro hb hw))
    obtain ⟨hl1, hl2⟩ := hw.len
    have HL := Lib.hid (And.intro hl1 hl2)
    clear ho hb hw hl1 hl2
    have hz := HZ.out
    by_cases hlt : k < s.size
    · have hlti : (k : Int) < (s.size : Int) := by omega
      have hk1 : (k : Int) ≤ (s.size : Int) := by omega
      obtain ⟨y, hy⟩ : ∃ y, s[k] = y := ⟨_, rfl⟩
      by_cases h32 : y = 32
      · have h32i : (y.toNat : Int) = 32 := by rw [h32]; rfl
        have HW := Lib.hid (HO.out.2.2.space hlt (hy.trans h32))
        clear h32
        go_wp2_with (at_builtin; refine wpList_append_sl _ rfl (.tmp 16) (.tmp 17) 76 rfl w.heap.size 9 1 16 cStr underStrs rowStr (by decide) cStr_length cStr_one u3 xs rfl (HO.out.1.keep (below_alloc _ _)) (some ⟨wr.heap.size, 0, none⟩) 1 1 [mkS []] rfl rfl (sl_newT wr (mkS [])) (by have := HL.out; omega) (by have := HL.out; omega) (by have := HO.out.2.1.size; simp; omega) ?_)
        intro v2 w2 ho2 hg2
        have hb1 : Below w.heap.size w (wr.alloc (.cells #[.string (mkS [])] 9)) := Below.step HO.out.2.1 (below_alloc _ _)
        have hb2 := Own.grew (HO.out.1.keep (below_alloc wr (.cells #[.string (mkS [])] 9))) hg2 hb1 (Nat.le_refl _) hb1.size
        have H2 := Lib.hid (And.intro ho2 hb2)
        clear ho2 hg2 hb1 hb2
        go_wp2
        go_roundw
        case rel => exact ⟨k + 1, xs ++ [mkS []], by omega, by go_num, HW.out, H2.out.1, H2.out.2⟩
        case measure => simp [intOf]; omega
      · have h32i : ¬ (y.toNat : Int) = 32 := fun h => h32 (UInt8.toNat_inj.1 (by show y.toNat = 32; omega))
        obtain ⟨m, hm⟩ : ∃ m, xs.length = m + 1 := ⟨xs.length - 1, by have := HL.out; omega⟩
        obtain ⟨z, hzm, hzs, hwn⟩ := HO.out.2.2.letter hlt (by rw [hy]; exact h32) hm
        obtain ⟨g, c, rfl, hgb⟩ := HO.out.1.str0 HL.out.1
        rw [hm] at HO ⊢
        obtain ⟨P, hP⟩ : ∃ P, s.extract k (k + 1) = P := ⟨_, rfl⟩
        have HP := Lib.hid (show s.extract k (k + 1) = P ∧ ¬ 9223372036854775807 < z.size + P.size from by
          refine ⟨hP, ?_⟩
          rw [← hP]
          simp
          omega)
        have HM := Lib.hid (show m ≤ 1073741824 ∧ xs.length = m + 1 ∧ w.heap.size ≤ g from ⟨by have := HL.out; omega, hm, hgb⟩)
        rw [hP] at hwn
        have HW := Lib.hid (And.intro hwn (And.intro hzm hzs))
        have HS1 := Lib.hid (HO.out.1.set1 m z hzm)
        have hmi : (m : Int) ≤ 1073741824 := by have := HM.out.1; omega
        clear hm hzm hzs hwn hP hgb h32
        go_wp2_with fail
        refine AnyO.wp_any_tail 13 (by kernel_rfl) (by kernel_rfl) (by kernel_rfl) (by kernel_rfl) (by kernel_rfl) (by kernel_rfl) (pstP [isV (.slice (some ⟨g, 0, none⟩) (m + 1) c), isV (.slice (some ⟨g, 0, none⟩) (m + 1) c), isV (.int .i64 ((m : Int) + 1)), isV (.int .i64 (m : Int)), isV (.pointer (some ⟨g, m, none⟩)), isV (.string z), isV (.string s), isV (.int .i64 (k : Int)), isV (.int .i64 (k : Int)), isV (.int .i64 ((k : Int) + 1)), isV (.string P), isV (.string (z ++ P)), isV (.pointer (some ⟨g, m, none⟩))]) (MonoL.cons (Mono.v _) (MonoL.cons (Mono.v _) (MonoL.cons (Mono.v _) (MonoL.cons (Mono.v _) (MonoL.cons (Mono.v _) (MonoL.cons (Mono.v _) (MonoL.cons (Mono.v _) (MonoL.cons (Mono.v _) (MonoL.cons (Mono.v _) (MonoL.cons (Mono.v _) (MonoL.cons (Mono.v _) (MonoL.cons (Mono.v _) (MonoL.cons (Mono.v _) MonoL.nil))))))))))))) ?_ ?_
        · intro i hi
          have hi2 : i = 0 ∨ i = 1 ∨ i = 2 ∨ i = 3 ∨ i = 4 ∨ i = 5 ∨ i = 6 ∨ i = 7 ∨ i = 8 ∨ i = 9 ∨ i = 10 ∨ i = 11 ∨ i = 12 := by omega
          clear hi
          rcases hi2 with rfl | rfl | rfl | rfl | rfl | rfl | rfl | rfl | rfl | rfl | rfl | rfl | rfl
          · -- 0: Op.move (Operand.tmp 3)
            refine AnyO.Step.mk rfl [] (by kernel_rfl) ?_
            intro vs u hE hp ac hb K hK
            have s3 : ac.tmps[3]?.getD undef = .slice (some ⟨g, 0, none⟩) (m + 1) c := by rw [hb]; kernel_rfl
            rw [if_pos (AnyO.wanted_none rfl)]
            clear hb hp
            go_simp
            exact hK _ _ (Below.refl _ _) rfl
          · -- 1: Op.move (Operand.tmp 3)
            refine AnyO.Step.mk rfl [] (by kernel_rfl) ?_
            intro vs u hE hp ac hb K hK
            have s3 : ac.tmps[3]?.getD undef = .slice (some ⟨g, 0, none⟩) (m + 1) c := by rw [hb]; kernel_rfl
            rw [if_pos (AnyO.wanted_none rfl)]
            clear hb hp
            go_simp
            exact hK _ _ (Below.refl _ _) rfl
          · -- 2: Op.call { callee := Callee.builtin Builtin.len, args := #[Op
            refine AnyO.Step.mk rfl [1] (by kernel_rfl) ?_
            intro vs u hE hp ac hb K hK
            have s20 : ac.tmps[20]?.getD undef = .slice (some ⟨g, 0, none⟩) (m + 1) c := by rw [hb]; exact (show _ = vs 1 by kernel_rfl).trans (hp 1 (by decide))
            rw [if_pos (AnyO.wanted_none rfl)]
            clear hb hp
            go_simp
            exact hK _ _ (Below.refl _ _) rfl
          · -- 3: Op.binOp BinOp.sub 3 (Operand.tmp 21) (Operand.const (Value.
            refine AnyO.Step.mk rfl [2] (by kernel_rfl) ?_
            intro vs u hE hp ac hb K hK
            have s21 : ac.tmps[21]?.getD undef = .int .i64 ((m : Int) + 1) := by rw [hb]; exact (show _ = vs 2 by kernel_rfl).trans (hp 2 (by decide))
            rw [if_pos (AnyO.wanted_none rfl)]
            clear hb hp
            have r1 : IntKind.i64.wrap (m : Int) = (m : Int) := IntWalk.i64_in _ (by omega)
            go_simp
            exact hK _ _ (Below.refl _ _) rfl
          · -- 4: Op.indexAddr 76 (Operand.tmp 19) (Operand.tmp 22)
            refine AnyO.Step.mk rfl [0, 3] (by kernel_rfl) ?_
            intro vs u hE hp ac hb K hK
            have s19 : ac.tmps[19]?.getD undef = .slice (some ⟨g, 0, none⟩) (m + 1) c := by rw [hb]; exact (show _ = vs 0 by kernel_rfl).trans (hp 0 (by decide))
            have s22 : ac.tmps[22]?.getD undef = .int .i64 (m : Int) := by rw [hb]; exact (show _ = vs 3 by kernel_rfl).trans (hp 3 (by decide))
            rw [if_pos (AnyO.wanted_none rfl)]
            clear hb hp
            have r1 := hmi
            have r2 : (m : Int) < (m : Int) + 1 := by omega
            go_simp
            exact hK _ _ (Below.refl _ _) rfl
          · -- 5: Op.load 9 (Operand.tmp 23)
            refine AnyO.Step.mk rfl [4] (by kernel_rfl) ?_
            intro vs u hE hp ac hb K hK
            have s23 : ac.tmps[23]?.getD undef = .pointer (some ⟨g, m, none⟩) := by rw [hb]; exact (show _ = vs 4 by kernel_rfl).trans (hp 4 (by decide))
            rw [if_pos (AnyO.wanted_none rfl)]
            clear hb hp
            have r1 := cell_below HS1.out.2.1 (Below.step (below_drew wr) hE)
            go_simp
            exact hK _ _ (Below.refl _ _) rfl
          · -- 6: Op.move (Operand.tmp 0)
            refine AnyO.Step.mk rfl [] (by kernel_rfl) ?_
            intro vs u hE hp ac hb K hK
            have s0 : ac.tmps[0]?.getD undef = .string s := by rw [hb]; kernel_rfl
            rw [if_pos (AnyO.wanted_none rfl)]
            clear hb hp
            go_simp
            exact hK _ _ (Below.refl _ _) rfl
          · -- 7: Op.move (Operand.tmp 4)
            refine AnyO.Step.mk rfl [] (by kernel_rfl) ?_
            intro vs u hE hp ac hb K hK
            have s4 : ac.tmps[4]?.getD undef = .int .i64 (k : Int) := by rw [hb]; kernel_rfl
            rw [if_pos (AnyO.wanted_none rfl)]
            clear hb hp
            go_simp
            exact hK _ _ (Below.refl _ _) rfl
          · -- 8: Op.move (Operand.tmp 4)
            refine AnyO.Step.mk rfl [] (by kernel_rfl) ?_
            intro vs u hE hp ac hb K hK
            have s4 : ac.tmps[4]?.getD undef = .int .i64 (k : Int) := by rw [hb]; kernel_rfl
            rw [if_pos (AnyO.wanted_none rfl)]
            clear hb hp
            go_simp
            exact hK _ _ (Below.refl _ _) rfl
          · -- 9: Op.binOp BinOp.add 3 (Operand.tmp 27) (Operand.const (Value.
            refine AnyO.Step.mk rfl [8] (by kernel_rfl) ?_
            intro vs u hE hp ac hb K hK
            have s27 : ac.tmps[27]?.getD undef = .int .i64 (k : Int) := by rw [hb]; exact (show _ = vs 8 by kernel_rfl).trans (hp 8 (by decide))
            rw [if_pos (AnyO.wanted_none rfl)]
            clear hb hp
            have r1 : IntKind.i64.wrap ((k : Int) + 1) = (k : Int) + 1 := IntWalk.i64_in _ (by omega)
            go_simp
            exact hK _ _ (Below.refl _ _) rfl
          · -- 10: Op.slice 9 (Operand.tmp 25) (some (Operand.tmp 26)) (some (O
            refine AnyO.Step.mk rfl [6, 7, 9] (by kernel_rfl) ?_
            intro vs u hE hp ac hb K hK
            have s25 : ac.tmps[25]?.getD undef = .string s := by rw [hb]; exact (show _ = vs 6 by kernel_rfl).trans (hp 6 (by decide))
            have s26 : ac.tmps[26]?.getD undef = .int .i64 (k : Int) := by rw [hb]; exact (show _ = vs 7 by kernel_rfl).trans (hp 7 (by decide))
            have s28 : ac.tmps[28]?.getD undef = .int .i64 ((k : Int) + 1) := by rw [hb]; exact (show _ = vs 9 by kernel_rfl).trans (hp 9 (by decide))
            rw [if_pos (AnyO.wanted_none rfl)]
            clear hb hp
            have r1 := HP.out.1
            have r2 : (0 : Int) ≤ (k : Int) + 1 ∧ (k : Int) + 1 ≤ (s.size : Int) := by omega
            have r3 : (k : Int) ≤ (k : Int) + 1 := by omega
            go_simp
            exact hK _ _ (Below.refl _ _) rfl
          · -- 11: Op.binOp BinOp.add 9 (Operand.tmp 24) (Operand.tmp 29) 9
            refine AnyO.Step.mk rfl [5, 10] (by kernel_rfl) ?_
            intro vs u hE hp ac hb K hK
            have s24 : ac.tmps[24]?.getD undef = .string z := by rw [hb]; exact (show _ = vs 5 by kernel_rfl).trans (hp 5 (by decide))
            have s29 : ac.tmps[29]?.getD undef = .string P := by rw [hb]; exact (show _ = vs 10 by kernel_rfl).trans (hp 10 (by decide))
            rw [if_pos (AnyO.wanted_none rfl)]
            clear hb hp
            have r1 := HP.out.2
            go_simp
            exact hK _ _ (Below.refl _ _) rfl
          · -- 12: Op.indexAddr 76 (Operand.tmp 19) (Operand.tmp 22)
            refine AnyO.Step.mk rfl [0, 3, 0, 1, 2, 3, 4, 5, 6, 7, 8, 9, 10, 11] (by kernel_rfl) ?_
            intro vs u hE hp ac hb K hK
            have s19 : ac.tmps[19]?.getD undef = .slice (some ⟨g, 0, none⟩) (m + 1) c := by rw [hb]; exact (show _ = vs 0 by kernel_rfl).trans (hp 0 (by decide))
            have s22 : ac.tmps[22]?.getD undef = .int .i64 (m : Int) := by rw [hb]; exact (show _ = vs 3 by kernel_rfl).trans (hp 3 (by decide))
            rw [if_pos (AnyO.wanted_none rfl)]
            clear hb hp
            have r1 := hmi
            have r2 : (m : Int) < (m : Int) + 1 := by omega
            go_simp
            exact hK _ _ (Below.refl _ _) rfl
        · intro vs u hE hp
          have e0 : vs 0 = .slice (some ⟨g, 0, none⟩) (m + 1) c := hp 0 (by decide)
          have e1 : vs 1 = .slice (some ⟨g, 0, none⟩) (m + 1) c := hp 1 (by decide)
          have e2 : vs 2 = .int .i64 ((m : Int) + 1) := hp 2 (by decide)
          have e3 : vs 3 = .int .i64 (m : Int) := hp 3 (by decide)
          have e4 : vs 4 = .pointer (some ⟨g, m, none⟩) := hp 4 (by decide)
          have e5 : vs 5 = .string z := hp 5 (by decide)
          have e6 : vs 6 = .string s := hp 6 (by decide)
          have e7 : vs 7 = .int .i64 (k : Int) := hp 7 (by decide)
          have e8 : vs 8 = .int .i64 (k : Int) := hp 8 (by decide)
          have e9 : vs 9 = .int .i64 ((k : Int) + 1) := hp 9 (by decide)
          have e10 : vs 10 = .string P := hp 10 (by decide)
          have e11 : vs 11 = .string (z ++ P) := hp 11 (by decide)
          have e12 : vs 12 = .pointer (some ⟨g, m, none⟩) := hp 12 (by decide)
          clear hp
          have HE := Lib.hid hE; clear hE
          rw [puts_range [some 19, some 20, some 21, some 22, some 23, some 24, some 25, some 26, some 27, some 28, some 29, some 30, some 31] (by kernel_rfl)]
          simp only [putL, Nat.reduceAdd, List.drop_succ_cons, List.drop_zero, e0, e1, e2, e3, e4, e5, e6, e7, e8, e9, e10, e11, e12]
          clear e0 e1 e2 e3 e4 e5 e6 e7 e8 e9 e10 e11 e12
          go_simp
          obtain ⟨z1, z2, z3⟩ := (HO.out.1.keep HE.out).set1 m z HW.out.2.1
          have H5 := Lib.hid (show Own (u.setCell ⟨g, m, none⟩ (.string (z ++ P))) w.heap.size 9 1 cStr (.slice (some ⟨g, 0, none⟩) (m + 1) c) (xs.set m (z ++ P)) ∧ Below w.heap.size w (u.setCell ⟨g, m, none⟩ (.string (z ++ P))) from ⟨z3 _, (Below.step HO.out.2.1 HE.out).trans ((One.set (g := g) m _).below HM.out.2.2 (by have := HO.out.2.1.size; have := HE.out.size; omega))⟩)
          clear z3
          go_wp2
          go_roundw
          case rel => exact ⟨k + 1, xs.set m (z ++ P), by omega, by go_num, HW.out.1, H5.out.1, H5.out.2⟩
          case measure => simp [intOf]; omega
    · obtain rfl : k = s.size := by omega
      have HW := Lib.hid HO.out.2.2.last
      go_wp2
      go_ret
      exact ⟨_, rfl, by rw [← HW.out]; exact HO.out.1, HO.out.2.1⟩
end Go.Proofs.YtecalodcbkljoaaGreatDoor
