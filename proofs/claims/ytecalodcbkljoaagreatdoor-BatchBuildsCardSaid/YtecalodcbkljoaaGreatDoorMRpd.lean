/- Words rotated by the reference; its table of constants. The padded bytes of the reference: bulletinref05.padded. -/
import Derived.Test.YtecalodcbkljoaaGreatDoorMRpr
import Derived.Test.YtecalodcbkljoaaGreatDoorMPrc
namespace Go.Proofs.YtecalodcbkljoaaGreatDoor
open Go.RowKit
theorem rot_eq2 (x : Wd) (n k : Nat) (p q : Int) (h : k + n = 32) (hp : ((2 ^ k : Nat) : Int) = p) (hq : ((2 ^ n : Nat) : Int) = q) : bits BinOp.or IntKind.u32 (iW x / q) (iW x * p % 4294967296) = iW (rr x n) := by
  rw [← hp, ← hq, m_shl, w_shr, w_or]
  unfold rr
  rw [show 32 - n = k by omega]
theorem xrot_n (x : Wd) (i : Int) (h : okN i = true) (w : World) : Calls Tryz.prog 67 #[vW x, .int .i64 i] w fun e w' => e = .returned (vW (rr x i.toNat)) ∧ ∃ n, w' = w.drewN n := by
  have hi : i = 2 ∨ i = 13 ∨ i = 22 ∨ i = 6 ∨ i = 11 ∨ i = 25 ∨ i = 7 ∨ i = 18 ∨ i = 17 ∨ i = 19 := by simpa [okN] using h
  clear h
  rcases hi with rfl | rfl | rfl | rfl | rfl | rfl | rfl | rfl | rfl | rfl
  all_goals
    go_enter Tryz.func67, Tryz.ntmps67
    go_wp2_with fail
    go_quiet (fail)
    go_wp2
    go_ret
  · exact ⟨ret_w (rot_eq2 x 2 30 1073741824 4 rfl rfl rfl), nq, rfl⟩
  · exact ⟨ret_w (rot_eq2 x 13 19 524288 8192 rfl rfl rfl), nq, rfl⟩
  · exact ⟨ret_w (rot_eq2 x 22 10 1024 4194304 rfl rfl rfl), nq, rfl⟩
  · exact ⟨ret_w (rot_eq2 x 6 26 67108864 64 rfl rfl rfl), nq, rfl⟩
  · exact ⟨ret_w (rot_eq2 x 11 21 2097152 2048 rfl rfl rfl), nq, rfl⟩
  · exact ⟨ret_w (rot_eq2 x 25 7 128 33554432 rfl rfl rfl), nq, rfl⟩
  · exact ⟨ret_w (rot_eq2 x 7 25 33554432 128 rfl rfl rfl), nq, rfl⟩
  · exact ⟨ret_w (rot_eq2 x 18 14 16384 262144 rfl rfl rfl), nq, rfl⟩
  · exact ⟨ret_w (rot_eq2 x 17 15 32768 131072 rfl rfl rfl), nq, rfl⟩
  · exact ⟨ret_w (rot_eq2 x 19 13 8192 524288 rfl rfl rfl), nq, rfl⟩
/-- The table of constants as 64 words. -/
def kT : W64 := ⟨(List.range 64).map kW, by simp⟩
theorem kT_at (t : Nat) (h : t < 64) : (kT.1)[t]? = some (kW t) := by
  show ((List.range 64).map kW)[t]? = _
  rw [List.getElem?_map, List.getElem?_range h]
  rfl
theorem load_l {w : World} {ad : Addr} {x : W64} (h : At w ad (cL x)) : (loadVar 116 ad).run Tryz.prog w = .ok (vL x) w :=
  run_loadVar_at w ad 116 (cL x) _ h Tryz.underlying116 rfl (by rw [cL_length]; exact size116)
set_option maxRecDepth 100000 in
theorem bl_kT (w : World) : (blA 116 #[(0, .int .u32 1116352408), (1, .int .u32 1899447441), (2, .int .u32 3049323471), (3, .int .u32 3921009573), (4, .int .u32 961987163), (5, .int .u32 1508970993), (6, .int .u32 2453635748), (7, .int .u32 2870763221), (8, .int .u32 3624381080), (9, .int .u32 310598401), (10, .int .u32 607225278), (11, .int .u32 1426881987), (12, .int .u32 1925078388), (13, .int .u32 2162078206), (14, .int .u32 2614888103), (15, .int .u32 3248222580), (16, .int .u32 3835390401), (17, .int .u32 4022224774), (18, .int .u32 264347078), (19, .int .u32 604807628), (20, .int .u32 770255983), (21, .int .u32 1249150122), (22, .int .u32 1555081692), (23, .int .u32 1996064986), (24, .int .u32 2554220882), (25, .int .u32 2821834349), (26, .int .u32 2952996808), (27, .int .u32 3210313671), (28, .int .u32 3336571891), (29, .int .u32 3584528711), (30, .int .u32 113926993), (31, .int .u32 338241895), (32, .int .u32 666307205), (33, .int .u32 773529912), (34, .int .u32 1294757372), (35, .int .u32 1396182291), (36, .int .u32 1695183700), (37, .int .u32 1986661051), (38, .int .u32 2177026350), (39, .int .u32 2456956037), (40, .int .u32 2730485921), (41, .int .u32 2820302411), (42, .int .u32 3259730800), (43, .int .u32 3345764771), (44, .int .u32 3516065817), (45, .int .u32 3600352804), (46, .int .u32 4094571909), (47, .int .u32 275423344), (48, .int .u32 430227734), (49, .int .u32 506948616), (50, .int .u32 659060556), (51, .int .u32 883997877), (52, .int .u32 958139571), (53, .int .u32 1322822218), (54, .int .u32 1537002063), (55, .int .u32 1747873779), (56, .int .u32 1955562222), (57, .int .u32 2024104815), (58, .int .u32 2227730452), (59, .int .u32 2361852424), (60, .int .u32 2428436474), (61, .int .u32 2756734187), (62, .int .u32 3204031479), (63, .int .u32 3329325298)]).run Tryz.prog w = .ok (vL kT) w := by kernel_rfl
theorem rowL {w : World} {b : Nat} {x : W64} {t : TypeId} (h : Row w b (cL x) t) : okA w ⟨b, 0, none⟩ 64 = true ∧ rdA w ⟨b, 0, none⟩ 64 = vL x ∧ rowOk w b 64 = true := by
  have hat := h.at_ (k := 0) (n := 64) (ds := cL x) (by rw [List.drop_zero, List.take_of_length_le (by rw [cL_length]; omega)])
  have h1 := hat.ok
  have h2 := hat.rd
  rw [cL_length] at h1 h2
  refine ⟨h1, h2, ?_⟩
  have hc := cL_length x
  unfold Row at h
  unfold rowOk
  rw [h]
  simpa using hc
set_option maxRecDepth 100000 in
set_option maxHeartbeats 3200000 in
theorem constants_r (w : World) : Calls Tryz.prog 64 #[] w fun e w' => e = .returned (vL kT) ∧ Below w.heap.size w w' := by
  obtain ⟨b, hb⟩ : ∃ b, w.heap.size = b := ⟨_, rfl⟩
  obtain ⟨W1, hW1⟩ : ∃ W1, w.alloc (.cells (aL zL) 116) = W1 := ⟨_, rfl⟩
  have H1 := Lib.hid (show Below w.heap.size w W1 ∧ Row W1 b (cL zL) 116 ∧ w.heap.size ≤ b from by
    subst hW1 hb
    exact ⟨below_alloc _ _, Row.new w (cL zL) _, Nat.le_refl _⟩)
  obtain ⟨-, -, ro⟩ := rowL H1.out.2.1
  have hk := bl_kT W1
  go_enter Tryz.func64, Tryz.ntmps64
  go_wp2
  have hld := load_l (at_setRow (cL kT) ro)
  exact bodyPost_ret (results_c1 (ad := ⟨b, 0, none⟩) rfl rfl hld) rfl ⟨rfl, by have h := Below.setRow H1.out.1 H1.out.2.2 (aL kT); rw [hb] at h; exact h⟩
end Go.Proofs.YtecalodcbkljoaaGreatDoor
namespace Go.Proofs.YtecalodcbkljoaaGreatDoor
open Go.RowKit
theorem padZ_stop (n k : Nat) (h : k ≤ padZ n) : (n + 1 + k) % 64 = 56 ↔ k = padZ n := by
  unfold padZ at h ⊢
  omega
theorem own_new1 (w : World) (x : UInt8) : Own (w.alloc (.cells #[cB x] 5)) w.heap.size 5 1 c1 (.slice (some ⟨w.heap.size, 0, none⟩) 1 1) [x] :=
  Own.lit c1_length [x] (Nat.le_refl _) (by simp)
theorem sl_new1 (w : World) (x : UInt8) : Sl (w.alloc (.cells #[cB x] 5)) c1 (some ⟨w.heap.size, 0, none⟩) [x] := fun _ => ⟨_, rfl, at_new w (c1 x) _ _ rfl⟩
theorem own_new0 (w : World) : Own (w.alloc (.cells #[] 5)) w.heap.size 5 1 c1 (.slice (some ⟨w.heap.size, 0, none⟩) 0 0) ([] : List UInt8) :=
  Own.lit c1_length ([] : List UInt8) (Nat.le_refl _) (by simp)
def lenOf : Value → Nat
  | .slice _ n _ => n
  | _ => 0
theorem be_b (N j : Nat) (q : Int) (hq : ((2 ^ (56 - 8 * j) : Nat) : Int) = q) : (N : Int) / q % 256 = ((UInt8.ofNat (N / 2 ^ (56 - 8 * j))).toNat : Int) := by
  rw [← hq, UInt8.toNat_ofNat', ← Int.natCast_ediv]
  omega
theorem be8_len (N : Nat) : (be8 N).length = 8 := by simp [be8]
theorem be8_step (N j : Nat) (h : j < 8) : (be8 N).take (j + 1) = (be8 N).take j ++ [UInt8.ofNat (N / 2 ^ (56 - 8 * j))] := by
  rw [List.take_succ_eq_append_getElem (by rw [be8_len]; exact h)]
  simp [be8]
def padT (l : List UInt8) (k : Nat) : List UInt8 := l ++ 128 :: List.replicate k 0
theorem padT_step (l : List UInt8) (k : Nat) : padT l k ++ [0] = padT l (k + 1) := by
  unfold padT
  rw [List.replicate_succ']
  simp
theorem padT_len (l : List UInt8) (k : Nat) : (padT l k).length = l.length + 1 + k := by
  unfold padT
  simp
  omega
theorem padT_all (l : List UInt8) : padT l (padZ l.length) ++ be8 (8 * l.length) = l ++ padL l.length := by
  unfold padT padL
  simp
set_option maxRecDepth 100000 in
set_option maxHeartbeats 3200000 in
theorem padded_r (A : Option Addr) (c : Nat) (l : List UInt8) (w : World) (hs : Sl w c1 A l) (hn : l.length ≤ 1073741824) :
    Calls Tryz.prog 65 #[.slice A l.length c] w fun e w' => ∃ v, e = .returned v ∧ Own w' w.heap.size 5 1 c1 v (l ++ padL l.length) ∧ Below w.heap.size w w' := by
  have HS := Lib.hid (And.intro hs hn)
  have H0 := Lib.hid (show Own (w.alloc (.cells #[] 5)) w.heap.size 5 1 c1 (.slice (some ⟨w.heap.size, 0, none⟩) 0 0) ([] : List UInt8) ∧ Below w.heap.size w (w.alloc (.cells #[] 5)) ∧ w.heap.size ≤ (w.alloc (.cells #[] 5)).heap.size from ⟨own_new0 w, below_alloc _ _, by simp⟩)
  clear hs hn
  go_enter Tryz.func65, Tryz.ntmps65
  go_wp2_with (at_builtin; refine wpList_append_sl _ rfl (.tmp 6) (.tmp 7) 47 rfl w.heap.size 5 1 1 c1 underBs rowB (by decide) c1_length c1_one _ [] rfl H0.out.1 A l.length c l rfl rfl (HS.out.1.keep H0.out.2.1) (by have := HS.out.2; simp only [List.length_nil]; omega) (by have := HS.out.2; simp only [List.length_nil]; omega) H0.out.2.2 ?_)
  intro v1 w1 ho1 hg1
  have H1 := Lib.hid (show Own w1 w.heap.size 5 1 c1 v1 l ∧ Below w.heap.size w w1 from ⟨ho1, Own.grew H0.out.1 hg1 H0.out.2.1 (Nat.le_refl _) H0.out.2.2⟩)
  clear ho1 hg1 H0
  go_wp2_with (at_builtin; refine wpList_append_sl _ rfl (.tmp 8) (.tmp 9) 47 rfl w.heap.size 5 1 1 c1 underBs rowB (by decide) c1_length c1_one v1 l rfl (H1.out.1.keep (below_alloc _ _)) _ 1 1 [128] rfl rfl (sl_new1 w1 128) (by have := HS.out.2; omega) (by have := HS.out.2; omega) (by have := H1.out.2.size; simp; omega) ?_)
  intro v2 w2 ho2 hg2
  have H2 := Lib.hid (show Own w2 w.heap.size 5 1 c1 v2 (padT l 0) ∧ Below w.heap.size w w2 from ⟨ho2, Own.grew (H1.out.1.keep (below_alloc _ _)) hg2 (Below.step H1.out.2 (below_alloc _ _)) (Nat.le_refl _) (by have := H1.out.2.size; simp; omega)⟩)
  clear ho2 hg2 H1
  go_wp2_with fail
  go_loopw [3] (fun v wr => ∃ k : Nat, k ≤ padZ l.length ∧ Own wr w.heap.size 5 1 c1 v (padT l k) ∧ Below w.heap.size w wr) (fun v _ => l.length + 100 - lenOf v)
  case atStart => exact ⟨0, Nat.zero_le _, H2.out.1, H2.out.2⟩
  case round =>
    obtain ⟨k, hk, ho, hb⟩ := hrel
    obtain ⟨A3, c3, rfl, hc3, hs3⟩ := ho.sl
    have hz : padZ l.length < 64 := Nat.mod_lt _ (by decide)
    have HO := Lib.hid (And.intro ho hb)
    have hsz := HS.out.2
    obtain ⟨m, hm⟩ : ∃ m, (padT l k).length = m := ⟨_, rfl⟩
    have hml := padT_len l k
    rw [hm] at hml
    have HM := Lib.hid (And.intro hm hml)
    rw [hm] at HO ⊢
    have g0 : ((m : Int)).tmod 64 = ((m % 64 : Nat) : Int) := by rw [Int.tmod_eq_emod_of_nonneg (by omega)]; omega
    clear ho hb hs3 hc3
    by_cases hq : k = padZ l.length
    · have g1 : ((m : Int) % 64 != 56) = false := by
        have := (padZ_stop l.length k hk).2 hq
        simp
        omega
      subst hq
      obtain ⟨N, hN⟩ : ∃ N, 8 * l.length = N := ⟨_, rfl⟩
      have n1 : IntKind.u64.wrap (l.length : Int) = (l.length : Int) := by simp [IntKind.wrap, IntKind.bits, IntKind.signed]; omega
      have n2 : IntKind.u64.wrap ((l.length : Int) * 8) = (N : Int) := by simp [IntKind.wrap, IntKind.bits, IntKind.signed]; omega
      have HN := Lib.hid hN
      have HL := Lib.hid (show (padT l (padZ l.length)).length ≤ 1073741900 from by rw [padT_len]; omega)
      clear hm hml hz hsz hN hk
      go_wp2_with fail
      go_loopw [3, 5] (fun v i wr => ∃ j : Nat, j ≤ 8 ∧ i = .int .i64 (7 - (j : Int)) ∧ Own wr w.heap.size 5 1 c1 v (padT l (padZ l.length) ++ (be8 N).take j) ∧ Below w.heap.size w wr) (fun _ i _ => (intOf i + 1).toNat)
      case atStart => exact ⟨0, by omega, rfl, by simpa using HO.out.1, HO.out.2⟩
      case round =>
        obtain ⟨j, hj, rfl, ho5, hb5⟩ := hrel
        have HO5 := Lib.hid (And.intro ho5 hb5)
        clear ho5 hb5
        have hcase : j = 0 ∨ j = 1 ∨ j = 2 ∨ j = 3 ∨ j = 4 ∨ j = 5 ∨ j = 6 ∨ j = 7 ∨ j = 8 := by omega
        clear hj
        rcases hcase with rfl | rfl | rfl | rfl | rfl | rfl | rfl | rfl | rfl
        · have hq7 : (N : Int) / 72057594037927936 % 256 = ((UInt8.ofNat (N / 2 ^ (56 - 8 * 0))).toNat : Int) := be_b N 0 _ rfl
          obtain ⟨x, hx⟩ : ∃ x, UInt8.ofNat (N / 2 ^ (56 - 8 * 0)) = x := ⟨_, rfl⟩
          rw [hx] at hq7
          have HX := Lib.hid (show padT l (padZ l.length) ++ (be8 N).take 0 ++ [x] = padT l (padZ l.length) ++ (be8 N).take (0 + 1) from by rw [be8_step N 0 (by decide), hx, List.append_assoc])
          obtain ⟨Q, hQ⟩ : ∃ Q, padT l (padZ l.length) ++ (be8 N).take 0 = Q := ⟨_, rfl⟩
          rw [hQ] at HX HO5
          have HQL := Lib.hid (show Q.length ≤ 1073741950 from by rw [← hQ]; have h1 := HL.out; simp only [List.length_append, List.length_take, be8_len]; omega)
          clear hx hQ
          go_wp2_with (at_builtin; refine wpList_append_sl _ rfl (.tmp 26) (.tmp 32) 47 rfl w.heap.size 5 1 1 c1 underBs rowB (by decide) c1_length c1_one _ Q rfl (HO5.out.1.keep (below_alloc _ _)) _ 1 1 [x] rfl rfl (sl_new1 wr x) (by have h1 := HQL.out; omega) (by have h1 := HQL.out; omega) (by have := HO5.out.2.size; simp; omega) ?_)
          intro v6 w6 ho6 hg6
          have H6 := Lib.hid (show Own w6 w.heap.size 5 1 c1 v6 (padT l (padZ l.length) ++ (be8 N).take (0 + 1)) ∧ Below w.heap.size w w6 from ⟨by rw [← HX.out]; exact ho6, Own.grew (HO5.out.1.keep (below_alloc _ _)) hg6 (Below.step HO5.out.2 (below_alloc _ _)) (Nat.le_refl _) (by have := HO5.out.2.size; simp; omega)⟩)
          clear ho6 hg6
          go_wp2
          go_roundw
          case rel => exact ⟨0 + 1, by omega, by go_num, H6.out.1, H6.out.2⟩
          case measure => simp [intOf]
        · have hq7 : (N : Int) / 281474976710656 % 256 = ((UInt8.ofNat (N / 2 ^ (56 - 8 * 1))).toNat : Int) := be_b N 1 _ rfl
          obtain ⟨x, hx⟩ : ∃ x, UInt8.ofNat (N / 2 ^ (56 - 8 * 1)) = x := ⟨_, rfl⟩
          rw [hx] at hq7
          have HX := Lib.hid (show padT l (padZ l.length) ++ (be8 N).take 1 ++ [x] = padT l (padZ l.length) ++ (be8 N).take (1 + 1) from by rw [be8_step N 1 (by decide), hx, List.append_assoc])
          obtain ⟨Q, hQ⟩ : ∃ Q, padT l (padZ l.length) ++ (be8 N).take 1 = Q := ⟨_, rfl⟩
          rw [hQ] at HX HO5
          have HQL := Lib.hid (show Q.length ≤ 1073741950 from by rw [← hQ]; have h1 := HL.out; simp only [List.length_append, List.length_take, be8_len]; omega)
          clear hx hQ
          go_wp2_with (at_builtin; refine wpList_append_sl _ rfl (.tmp 26) (.tmp 32) 47 rfl w.heap.size 5 1 1 c1 underBs rowB (by decide) c1_length c1_one _ Q rfl (HO5.out.1.keep (below_alloc _ _)) _ 1 1 [x] rfl rfl (sl_new1 wr x) (by have h1 := HQL.out; omega) (by have h1 := HQL.out; omega) (by have := HO5.out.2.size; simp; omega) ?_)
          intro v6 w6 ho6 hg6
          have H6 := Lib.hid (show Own w6 w.heap.size 5 1 c1 v6 (padT l (padZ l.length) ++ (be8 N).take (1 + 1)) ∧ Below w.heap.size w w6 from ⟨by rw [← HX.out]; exact ho6, Own.grew (HO5.out.1.keep (below_alloc _ _)) hg6 (Below.step HO5.out.2 (below_alloc _ _)) (Nat.le_refl _) (by have := HO5.out.2.size; simp; omega)⟩)
          clear ho6 hg6
          go_wp2
          go_roundw
          case rel => exact ⟨1 + 1, by omega, by go_num, H6.out.1, H6.out.2⟩
          case measure => simp [intOf]
        · have hq7 : (N : Int) / 1099511627776 % 256 = ((UInt8.ofNat (N / 2 ^ (56 - 8 * 2))).toNat : Int) := be_b N 2 _ rfl
          obtain ⟨x, hx⟩ : ∃ x, UInt8.ofNat (N / 2 ^ (56 - 8 * 2)) = x := ⟨_, rfl⟩
          rw [hx] at hq7
          have HX := Lib.hid (show padT l (padZ l.length) ++ (be8 N).take 2 ++ [x] = padT l (padZ l.length) ++ (be8 N).take (2 + 1) from by rw [be8_step N 2 (by decide), hx, List.append_assoc])
          obtain ⟨Q, hQ⟩ : ∃ Q, padT l (padZ l.length) ++ (be8 N).take 2 = Q := ⟨_, rfl⟩
          rw [hQ] at HX HO5
          have HQL := Lib.hid (show Q.length ≤ 1073741950 from by rw [← hQ]; have h1 := HL.out; simp only [List.length_append, List.length_take, be8_len]; omega)
          clear hx hQ
          go_wp2_with (at_builtin; refine wpList_append_sl _ rfl (.tmp 26) (.tmp 32) 47 rfl w.heap.size 5 1 1 c1 underBs rowB (by decide) c1_length c1_one _ Q rfl (HO5.out.1.keep (below_alloc _ _)) _ 1 1 [x] rfl rfl (sl_new1 wr x) (by have h1 := HQL.out; omega) (by have h1 := HQL.out; omega) (by have := HO5.out.2.size; simp; omega) ?_)
          intro v6 w6 ho6 hg6
          have H6 := Lib.hid (show Own w6 w.heap.size 5 1 c1 v6 (padT l (padZ l.length) ++ (be8 N).take (2 + 1)) ∧ Below w.heap.size w w6 from ⟨by rw [← HX.out]; exact ho6, Own.grew (HO5.out.1.keep (below_alloc _ _)) hg6 (Below.step HO5.out.2 (below_alloc _ _)) (Nat.le_refl _) (by have := HO5.out.2.size; simp; omega)⟩)
          clear ho6 hg6
          go_wp2
          go_roundw
          case rel => exact ⟨2 + 1, by omega, by go_num, H6.out.1, H6.out.2⟩
          case measure => simp [intOf]
        · have hq7 : (N : Int) / 4294967296 % 256 = ((UInt8.ofNat (N / 2 ^ (56 - 8 * 3))).toNat : Int) := be_b N 3 _ rfl
          obtain ⟨x, hx⟩ : ∃ x, UInt8.ofNat (N / 2 ^ (56 - 8 * 3)) = x := ⟨_, rfl⟩
          rw [hx] at hq7
          have HX := Lib.hid (show padT l (padZ l.length) ++ (be8 N).take 3 ++ [x] = padT l (padZ l.length) ++ (be8 N).take (3 + 1) from by rw [be8_step N 3 (by decide), hx, List.append_assoc])
          obtain ⟨Q, hQ⟩ : ∃ Q, padT l (padZ l.length) ++ (be8 N).take 3 = Q := ⟨_, rfl⟩
          rw [hQ] at HX HO5
          have HQL := Lib.hid (show Q.length ≤ 1073741950 from by rw [← hQ]; have h1 := HL.out; simp only [List.length_append, List.length_take, be8_len]; omega)
          clear hx hQ
          go_wp2_with (at_builtin; refine wpList_append_sl _ rfl (.tmp 26) (.tmp 32) 47 rfl w.heap.size 5 1 1 c1 underBs rowB (by decide) c1_length c1_one _ Q rfl (HO5.out.1.keep (below_alloc _ _)) _ 1 1 [x] rfl rfl (sl_new1 wr x) (by have h1 := HQL.out; omega) (by have h1 := HQL.out; omega) (by have := HO5.out.2.size; simp; omega) ?_)
          intro v6 w6 ho6 hg6
          have H6 := Lib.hid (show Own w6 w.heap.size 5 1 c1 v6 (padT l (padZ l.length) ++ (be8 N).take (3 + 1)) ∧ Below w.heap.size w w6 from ⟨by rw [← HX.out]; exact ho6, Own.grew (HO5.out.1.keep (below_alloc _ _)) hg6 (Below.step HO5.out.2 (below_alloc _ _)) (Nat.le_refl _) (by have := HO5.out.2.size; simp; omega)⟩)
          clear ho6 hg6
          go_wp2
          go_roundw
          case rel => exact ⟨3 + 1, by omega, by go_num, H6.out.1, H6.out.2⟩
          case measure => simp [intOf]
        · have hq7 : (N : Int) / 16777216 % 256 = ((UInt8.ofNat (N / 2 ^ (56 - 8 * 4))).toNat : Int) := be_b N 4 _ rfl
          obtain ⟨x, hx⟩ : ∃ x, UInt8.ofNat (N / 2 ^ (56 - 8 * 4)) = x := ⟨_, rfl⟩
          rw [hx] at hq7
          have HX := Lib.hid (show padT l (padZ l.length) ++ (be8 N).take 4 ++ [x] = padT l (padZ l.length) ++ (be8 N).take (4 + 1) from by rw [be8_step N 4 (by decide), hx, List.append_assoc])
          obtain ⟨Q, hQ⟩ : ∃ Q, padT l (padZ l.length) ++ (be8 N).take 4 = Q := ⟨_, rfl⟩
          rw [hQ] at HX HO5
          have HQL := Lib.hid (show Q.length ≤ 1073741950 from by rw [← hQ]; have h1 := HL.out; simp only [List.length_append, List.length_take, be8_len]; omega)
          clear hx hQ
          go_wp2_with (at_builtin; refine wpList_append_sl _ rfl (.tmp 26) (.tmp 32) 47 rfl w.heap.size 5 1 1 c1 underBs rowB (by decide) c1_length c1_one _ Q rfl (HO5.out.1.keep (below_alloc _ _)) _ 1 1 [x] rfl rfl (sl_new1 wr x) (by have h1 := HQL.out; omega) (by have h1 := HQL.out; omega) (by have := HO5.out.2.size; simp; omega) ?_)
          intro v6 w6 ho6 hg6
          have H6 := Lib.hid (show Own w6 w.heap.size 5 1 c1 v6 (padT l (padZ l.length) ++ (be8 N).take (4 + 1)) ∧ Below w.heap.size w w6 from ⟨by rw [← HX.out]; exact ho6, Own.grew (HO5.out.1.keep (below_alloc _ _)) hg6 (Below.step HO5.out.2 (below_alloc _ _)) (Nat.le_refl _) (by have := HO5.out.2.size; simp; omega)⟩)
          clear ho6 hg6
          go_wp2
          go_roundw
          case rel => exact ⟨4 + 1, by omega, by go_num, H6.out.1, H6.out.2⟩
          case measure => simp [intOf]
        · have hq7 : (N : Int) / 65536 % 256 = ((UInt8.ofNat (N / 2 ^ (56 - 8 * 5))).toNat : Int) := be_b N 5 _ rfl
          obtain ⟨x, hx⟩ : ∃ x, UInt8.ofNat (N / 2 ^ (56 - 8 * 5)) = x := ⟨_, rfl⟩
          rw [hx] at hq7
          have HX := Lib.hid (show padT l (padZ l.length) ++ (be8 N).take 5 ++ [x] = padT l (padZ l.length) ++ (be8 N).take (5 + 1) from by rw [be8_step N 5 (by decide), hx, List.append_assoc])
          obtain ⟨Q, hQ⟩ : ∃ Q, padT l (padZ l.length) ++ (be8 N).take 5 = Q := ⟨_, rfl⟩
          rw [hQ] at HX HO5
          have HQL := Lib.hid (show Q.length ≤ 1073741950 from by rw [← hQ]; have h1 := HL.out; simp only [List.length_append, List.length_take, be8_len]; omega)
          clear hx hQ
          go_wp2_with (at_builtin; refine wpList_append_sl _ rfl (.tmp 26) (.tmp 32) 47 rfl w.heap.size 5 1 1 c1 underBs rowB (by decide) c1_length c1_one _ Q rfl (HO5.out.1.keep (below_alloc _ _)) _ 1 1 [x] rfl rfl (sl_new1 wr x) (by have h1 := HQL.out; omega) (by have h1 := HQL.out; omega) (by have := HO5.out.2.size; simp; omega) ?_)
          intro v6 w6 ho6 hg6
          have H6 := Lib.hid (show Own w6 w.heap.size 5 1 c1 v6 (padT l (padZ l.length) ++ (be8 N).take (5 + 1)) ∧ Below w.heap.size w w6 from ⟨by rw [← HX.out]; exact ho6, Own.grew (HO5.out.1.keep (below_alloc _ _)) hg6 (Below.step HO5.out.2 (below_alloc _ _)) (Nat.le_refl _) (by have := HO5.out.2.size; simp; omega)⟩)
          clear ho6 hg6
          go_wp2
          go_roundw
          case rel => exact ⟨5 + 1, by omega, by go_num, H6.out.1, H6.out.2⟩
          case measure => simp [intOf]
        · have hq7 : (N : Int) / 256 % 256 = ((UInt8.ofNat (N / 2 ^ (56 - 8 * 6))).toNat : Int) := be_b N 6 _ rfl
          obtain ⟨x, hx⟩ : ∃ x, UInt8.ofNat (N / 2 ^ (56 - 8 * 6)) = x := ⟨_, rfl⟩
          rw [hx] at hq7
          have HX := Lib.hid (show padT l (padZ l.length) ++ (be8 N).take 6 ++ [x] = padT l (padZ l.length) ++ (be8 N).take (6 + 1) from by rw [be8_step N 6 (by decide), hx, List.append_assoc])
          obtain ⟨Q, hQ⟩ : ∃ Q, padT l (padZ l.length) ++ (be8 N).take 6 = Q := ⟨_, rfl⟩
          rw [hQ] at HX HO5
          have HQL := Lib.hid (show Q.length ≤ 1073741950 from by rw [← hQ]; have h1 := HL.out; simp only [List.length_append, List.length_take, be8_len]; omega)
          clear hx hQ
          go_wp2_with (at_builtin; refine wpList_append_sl _ rfl (.tmp 26) (.tmp 32) 47 rfl w.heap.size 5 1 1 c1 underBs rowB (by decide) c1_length c1_one _ Q rfl (HO5.out.1.keep (below_alloc _ _)) _ 1 1 [x] rfl rfl (sl_new1 wr x) (by have h1 := HQL.out; omega) (by have h1 := HQL.out; omega) (by have := HO5.out.2.size; simp; omega) ?_)
          intro v6 w6 ho6 hg6
          have H6 := Lib.hid (show Own w6 w.heap.size 5 1 c1 v6 (padT l (padZ l.length) ++ (be8 N).take (6 + 1)) ∧ Below w.heap.size w w6 from ⟨by rw [← HX.out]; exact ho6, Own.grew (HO5.out.1.keep (below_alloc _ _)) hg6 (Below.step HO5.out.2 (below_alloc _ _)) (Nat.le_refl _) (by have := HO5.out.2.size; simp; omega)⟩)
          clear ho6 hg6
          go_wp2
          go_roundw
          case rel => exact ⟨6 + 1, by omega, by go_num, H6.out.1, H6.out.2⟩
          case measure => simp [intOf]
        · have hq7 : (N : Int) / 1 % 256 = ((UInt8.ofNat (N / 2 ^ (56 - 8 * 7))).toNat : Int) := be_b N 7 _ rfl
          obtain ⟨x, hx⟩ : ∃ x, UInt8.ofNat (N / 2 ^ (56 - 8 * 7)) = x := ⟨_, rfl⟩
          rw [hx, Int.ediv_one] at hq7
          have HX := Lib.hid (show padT l (padZ l.length) ++ (be8 N).take 7 ++ [x] = padT l (padZ l.length) ++ (be8 N).take (7 + 1) from by rw [be8_step N 7 (by decide), hx, List.append_assoc])
          obtain ⟨Q, hQ⟩ : ∃ Q, padT l (padZ l.length) ++ (be8 N).take 7 = Q := ⟨_, rfl⟩
          rw [hQ] at HX HO5
          have HQL := Lib.hid (show Q.length ≤ 1073741950 from by rw [← hQ]; have h1 := HL.out; simp only [List.length_append, List.length_take, be8_len]; omega)
          clear hx hQ
          go_wp2_with (at_builtin; refine wpList_append_sl _ rfl (.tmp 26) (.tmp 32) 47 rfl w.heap.size 5 1 1 c1 underBs rowB (by decide) c1_length c1_one _ Q rfl (HO5.out.1.keep (below_alloc _ _)) _ 1 1 [x] rfl rfl (sl_new1 wr x) (by have h1 := HQL.out; omega) (by have h1 := HQL.out; omega) (by have := HO5.out.2.size; simp; omega) ?_)
          intro v6 w6 ho6 hg6
          have H6 := Lib.hid (show Own w6 w.heap.size 5 1 c1 v6 (padT l (padZ l.length) ++ (be8 N).take (7 + 1)) ∧ Below w.heap.size w w6 from ⟨by rw [← HX.out]; exact ho6, Own.grew (HO5.out.1.keep (below_alloc _ _)) hg6 (Below.step HO5.out.2 (below_alloc _ _)) (Nat.le_refl _) (by have := HO5.out.2.size; simp; omega)⟩)
          clear ho6 hg6
          go_wp2
          go_roundw
          case rel => exact ⟨7 + 1, by omega, by go_num, H6.out.1, H6.out.2⟩
          case measure => simp [intOf]
        · go_wp2
          go_ret
          refine ⟨_, rfl, ?_, HO5.out.2⟩
          rw [← padT_all, HN.out]
          have h := HO5.out.1
          rwa [List.take_of_length_le (by rw [be8_len]; omega)] at h
    · have g1 : ((m : Int) % 64 != 56) = true := by
        have h2 : ¬ (l.length + 1 + k) % 64 = 56 := fun h => hq ((padZ_stop l.length k hk).1 h)
        simp
        omega
      have HK := Lib.hid (show k + 1 ≤ padZ l.length by omega)
      clear hm hml hq hz hsz hk
      go_wp2_with (at_builtin; refine wpList_append_sl _ rfl (.tmp 15) (.tmp 16) 47 rfl w.heap.size 5 1 1 c1 underBs rowB (by decide) c1_length c1_one _ (padT l k) rfl (HO.out.1.keep (below_alloc _ _)) _ 1 1 [0] rfl rfl (sl_new1 wr 0) (by have h1 := HM.out; have h2 := HS.out.2; have h3 : padZ l.length < 64 := Nat.mod_lt _ (by decide); have h4 := HK.out; omega) (by have h1 := HM.out; have h2 := HS.out.2; have h3 : padZ l.length < 64 := Nat.mod_lt _ (by decide); have h4 := HK.out; omega) (by have := HO.out.2.size; simp; omega) ?_)
      intro v4 w4 ho4 hg4
      rw [padT_step] at ho4
      have H4 := Lib.hid (show Own w4 w.heap.size 5 1 c1 v4 (padT l (k + 1)) ∧ Below w.heap.size w w4 from ⟨ho4, Own.grew (HO.out.1.keep (below_alloc _ _)) hg4 (Below.step HO.out.2 (below_alloc _ _)) (Nat.le_refl _) (by have := HO.out.2.size; simp; omega)⟩)
      have HLN := Lib.hid (show l.length + 100 - lenOf v4 < l.length + 100 - m from by
        obtain ⟨A5, c5, rfl, -, -⟩ := ho4.sl
        have h1 := HM.out
        have h3 : padZ l.length < 64 := Nat.mod_lt _ (by decide)
        have h4 := HK.out
        show l.length + 100 - (padT l (k + 1)).length < _
        rw [padT_len]
        omega)
      clear ho4 hg4
      go_wp2
      go_roundw
      case rel => exact ⟨k + 1, HK.out, H4.out.1, H4.out.2⟩
      case measure => exact HLN.out
end Go.Proofs.YtecalodcbkljoaaGreatDoor
