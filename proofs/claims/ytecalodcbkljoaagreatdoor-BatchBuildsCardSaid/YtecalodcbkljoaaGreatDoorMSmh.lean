/- The digest of what was written to a Hash, of bytes, and its first half. -/
import Derived.Test.YtecalodcbkljoaaGreatDoorMWri
namespace Go.Proofs.YtecalodcbkljoaaGreatDoor
open Go.RowKit
theorem padL_form (n : Nat) : padL n = (128 :: List.replicate (padZ n) 0) ++ be8 (8 * n) := rfl
def be8T (n k : Nat) : List UInt8 := (be8 n).take k
theorem be8_len (n : Nat) : (be8 n).length = 8 := by simp [be8]
theorem be8T_succ (n k : Nat) (hk : k < 8) : be8T n (k + 1) = be8T n k ++ [UInt8.ofNat (n / 2 ^ (56 - 8 * k))] := by
  unfold be8T
  rw [List.take_succ_eq_append_getElem (by rw [be8_len]; exact hk)]
  simp [be8]
theorem be8T_all (n : Nat) : be8T n 8 = be8 n := by
  unfold be8T
  rw [List.take_of_length_le (by rw [be8_len]; exact Nat.le_refl _)]
theorem byte_of (n : Nat) (p : Nat) (q : Int) (hq : ((2 ^ p : Nat) : Int) = q) : ((n : Int) / q) % (256 : Int) = ((UInt8.ofNat (n / 2 ^ p)).toNat : Int) := by
  rw [← hq, UInt8.toNat_ofNat']
  omega
/-- A byte put behind the padding. -/
theorem smh_step {w wr w2 : World} {b : Nat} {c : Nat} {A : Option Addr} {Q ys : List UInt8} {o : Obj} {v2 : Value} (hb : w.heap.size = b) (h1 : Own wr (b + 1) 5 1 c1 (.slice A Q.length c) Q) (h2 : Below w.heap.size w wr) (h3 : Row wr b (cI zI) 143)
    (ho : Own w2 (b + 1) 5 1 c1 v2 (Q ++ ys)) (hg : (wr.alloc o).grownBy w2 (Value.slice A Q.length c).ownBlock) : Own w2 (b + 1) 5 1 c1 v2 (Q ++ ys) ∧ Below w.heap.size w w2 ∧ Row w2 b (cI zI) 143 := by
  refine ⟨ho, Own.grew (h1.keep (below_alloc _ _)) hg (Below.step h2 (below_alloc _ _)) (by omega) (by have := h2.size; simp; omega), (h3.keep (below_alloc _ _)).same (hg.block b (by have := h3.lt; simp; omega) ?_)⟩
  intro e
  have := (h1.keep (below_alloc wr o)).lt b e.symm
  omega
set_option maxRecDepth 100000 in
set_option maxHeartbeats 6400000 in
theorem sum_h (g : Nat) (x : Hs) (l : List UInt8) (w : World) (hK : KAt w) (hrow : Row w g (cS x) 158) (hx : HsW l x) (hlen : l.length ≤ 1152921504606846976) :
    Calls Tryz.prog 98 #[.pointer (some ⟨g, 0, none⟩)] w fun e w' => e = .returned (vI ⟨sha l, sha_length l⟩) ∧ Below w.heap.size w w' := by
  obtain ⟨n, hn⟩ : ∃ n, l.length = n := ⟨_, rfl⟩
  obtain ⟨b, hb⟩ : ∃ b, w.heap.size = b := ⟨_, rfl⟩
  have HX := Lib.hid (And.intro hK (And.intro hrow (And.intro hx (show l.length = n from hn))))
  have HN := Lib.hid (show n ≤ 1152921504606846976 by rw [← hn]; exact hlen)
  obtain ⟨W0, hW0⟩ : ∃ W0, (w.alloc (.cells (aI zI) 143)).alloc (.cells #[.int .u8 128] 5) = W0 := ⟨_, rfl⟩
  have H0 := Lib.hid (show Below w.heap.size w W0 ∧ Row W0 b (cI zI) 143 ∧ Own W0 (b + 1) 5 1 c1 (.slice (some ⟨b + 1, 0, none⟩) 1 1) [128] from by
    subst hW0 hb
    refine ⟨Below.step (below_alloc _ _) (below_alloc _ _), (Row.new w (cI zI) _).keep (below_alloc _ _), ?_⟩
    have := Own.lit (base := w.heap.size + 1) (e := 5) (w := w.alloc (.cells (aI zI) 143)) c1_length [128] (by simp) (by simp)
    rw [show (w.alloc (.cells (aI zI) 143)).heap.size = w.heap.size + 1 by simp] at this
    exact this)
  clear hK hrow hx hlen hn
  go_enter Tryz.func98, Tryz.ntmps98
  go_wp2
  have HB := Lib.hid hb
  clear hb hW0
  have HZ := Lib.hid (show padZ n < 64 from Nat.mod_lt _ (by omega))
  go_loopw [3] (fun v wr => ∃ k : Nat, k ≤ padZ n ∧ Own wr (b + 1) 5 1 c1 v (128 :: List.replicate k 0) ∧ Below w.heap.size w wr ∧ Row wr b (cI zI) 143) (fun v _ => 128 - slN v)
  case atStart => exact ⟨0, Nat.zero_le _, H0.out.2.2, H0.out.1, H0.out.2.1⟩
  case round =>
    obtain ⟨k, hk, ho, hbw, hro⟩ := hrel
    obtain ⟨P, hP⟩ : ∃ P : List UInt8, 128 :: List.replicate k 0 = P := ⟨_, rfl⟩
    have hPl : P.length = k + 1 := by rw [← hP]; simp
    rw [hP] at ho
    have hsz := hbw.size
    obtain ⟨A, c, rfl, hc, hs⟩ := ho.sl
    have c72 : wr.cell? ⟨g, 72, none⟩ = some (.int .i64 (n : Int)) := by rw [(HX.out.2.1.keep hbw).cell, cS_72, HX.out.2.2.1.len, HX.out.2.2.2]
    have HO := Lib.hid (show Own wr (b + 1) 5 1 c1 (.slice A P.length c) P ∧ Below w.heap.size w wr ∧ Row wr b (cI zI) 143 ∧ Sl wr c1 A P ∧ P.length ≤ c from ⟨ho, hbw, hro, hs, hc⟩)
    have HP := Lib.hid hP
    have HPL := Lib.hid hPl
    have m5 : IntKind.i64.wrap ((n : Int) + (P.length : Int)) = (n : Int) + (P.length : Int) := IntWalk.i64_in _ (by have := HN.out; have := HZ.out; omega)
    clear ho hbw hro hs hc hP hsz hPl
    by_cases hlt : k < padZ n
    · have ht : (((n : Int) + (P.length : Int)) % 64 != 56) = true := by
        have h1 := HPL.out
        have h2 : (n + (k + 1)) % 64 ≠ 56 := by
          unfold padZ at hlt
          omega
        simp
        omega
      have HK := Lib.hid hlt
      clear hlt
      go_wp2_with (at_builtin; refine wpList_append_sl _ rfl (.tmp 20) (.tmp 21) 47 rfl (b + 1) 5 1 1 c1 underBs rowB (by decide) c1_length c1_one (.slice A P.length c) P rfl (HO.out.1.keep (below_alloc _ _)) (some ⟨wr.heap.size, 0, none⟩) 1 1 [0] rfl rfl (sl_newB wr 0) (by have := HPL.out; have := HZ.out; have := HK.out; omega) (by have := HPL.out; have := HZ.out; have := HK.out; omega) (by have h1 := HO.out.2.2.1.lt; simp; omega) ?_)
      intro v2 w2 ho hg
      have hbb : Below w.heap.size w w2 := Own.grew (HO.out.1.keep (below_alloc _ _)) hg (Below.step HO.out.2.1 (below_alloc _ _)) (by have := HB.out; omega) (by have := HO.out.2.1.size; simp; omega)
      have hrr : Row w2 b (cI zI) 143 := (HO.out.2.2.1.keep (below_alloc _ _)).same (hg.block b (by have h1 := HO.out.2.2.1.lt; simp; omega) (by
        intro e
        have := (HO.out.1.keep (below_alloc wr (.cells #[cB 0] 5))).lt b e.symm
        omega))
      have HN2 := Lib.hid (show Own w2 (b + 1) 5 1 c1 v2 (128 :: List.replicate (k + 1) 0) ∧ Below w.heap.size w w2 ∧ Row w2 b (cI zI) 143 from ⟨by rw [← HP.out] at ho; rw [List.replicate_succ']; exact ho, hbb, hrr⟩)
      have hsl2 : slN v2 = k + 2 := by
        obtain ⟨A2, c2, rfl, -, -⟩ := HN2.out.1.sl
        simp [slN]
      clear ho hg hbb hrr
      go_wp2
      go_roundw
      case rel => exact ⟨k + 1, HK.out, HN2.out⟩
      case measure =>
        have h1 := HPL.out
        have h2 := HZ.out
        have h3 := HK.out
        show 128 - slN v2 < 128 - P.length
        omega
    · obtain rfl : k = padZ n := by omega
      have ht : (((n : Int) + (P.length : Int)) % 64 != 56) = false := by
        have h1 := HPL.out
        have h2 : (n + (padZ n + 1)) % 64 = 56 := by
          unfold padZ
          omega
        simp
        omega
      obtain ⟨N8, hN8⟩ : ∃ N8, 8 * n = N8 := ⟨_, rfl⟩
      have HN8 := Lib.hid hN8
      have u0 : IntKind.u64.wrap (n : Int) = (n : Int) := by have := HN.out; simp [IntKind.wrap, IntKind.bits, IntKind.signed]; omega
      have u1 : IntKind.u64.wrap (8 * (n : Int)) = (N8 : Int) := by have := HN.out; simp [IntKind.wrap, IntKind.bits, IntKind.signed]; omega
      clear hlt hk hN8
      go_wp2
      clear ht c72 u0 u1 m5
      go_loopw [3, 29] (fun v i wq => ∃ k : Nat, k ≤ 8 ∧ i = .int .i64 k ∧ Own wq (b + 1) 5 1 c1 v (P ++ be8T N8 k) ∧ Below w.heap.size w wq ∧ Row wq b (cI zI) 143) (fun _ i _ => 8 - (intOf i).toNat)
      case atStart => exact ⟨0, Nat.zero_le _, rfl, by rw [show P ++ be8T N8 0 = P by simp [be8T]]; exact HO.out.1, HO.out.2.1, HO.out.2.2.1⟩
      case round =>
        clear HO
        obtain ⟨k, hk, rfl, ho, hbw, hro⟩ := hrel
        obtain ⟨Q, hQ⟩ : ∃ Q : List UInt8, P ++ be8T N8 k = Q := ⟨_, rfl⟩
        have hQl : Q.length = padZ n + 1 + k := by rw [← hQ, List.length_append, HPL.out, be8T, List.length_take, be8_len]; omega
        rw [hQ] at ho
        obtain ⟨A, c, rfl, hc, hs⟩ := ho.sl
        have HO := Lib.hid (show Own wr (b + 1) 5 1 c1 (.slice A Q.length c) Q ∧ Below w.heap.size w wr ∧ Row wr b (cI zI) 143 ∧ Sl wr c1 A Q ∧ Q.length ≤ c from ⟨ho, hbw, hro, hs, hc⟩)
        have HQ := Lib.hid hQ
        have HQL := Lib.hid hQl
        clear ho hbw hro hs hc hQ hQl
        by_cases hlt : k < 8
        · have hk8 : k = 0 ∨ k = 1 ∨ k = 2 ∨ k = 3 ∨ k = 4 ∨ k = 5 ∨ k = 6 ∨ k = 7 := by omega
          clear hk hlt
          rcases hk8 with rfl | rfl | rfl | rfl | rfl | rfl | rfl | rfl
          · have hv := byte_of N8 56 72057594037927936 rfl
            obtain ⟨cb, hcb⟩ : ∃ cb, UInt8.ofNat (N8 / 2 ^ 56) = cb := ⟨_, rfl⟩
            rw [hcb] at hv
            have HCB := Lib.hid hcb
            clear hcb
            go_wp2_with (at_builtin; refine wpList_append_sl _ rfl (.tmp 32) (.tmp 39) 47 rfl (b + 1) 5 1 1 c1 underBs rowB (by decide) c1_length c1_one (.slice A Q.length c) Q rfl (HO.out.1.keep (below_alloc _ _)) (some ⟨wr.heap.size, 0, none⟩) 1 1 [cb] rfl rfl (sl_newB wr _) (by have := HQL.out; have := HZ.out; omega) (by have := HQL.out; have := HZ.out; omega) (by have h1 := HO.out.2.2.1.lt; simp; omega) ?_)
            intro v2 w2 ho hg
            have HN2 := Lib.hid (smh_step HB.out HO.out.1 HO.out.2.1 HO.out.2.2.1 ho hg)
            have HQ2 := Lib.hid (show Q ++ [cb] = P ++ be8T N8 1 by rw [← HQ.out, be8T_succ N8 0 (by omega), List.append_assoc, show UInt8.ofNat (N8 / 2 ^ (56 - 8 * 0)) = cb from HCB.out])
            clear ho hg
            go_wp2
            go_roundw
            case rel => exact ⟨1, by omega, by go_num, by rw [← HQ2.out]; exact HN2.out.1, HN2.out.2.1, HN2.out.2.2⟩
            case measure => simp [intOf]
          · have hv := byte_of N8 48 281474976710656 rfl
            obtain ⟨cb, hcb⟩ : ∃ cb, UInt8.ofNat (N8 / 2 ^ 48) = cb := ⟨_, rfl⟩
            rw [hcb] at hv
            have HCB := Lib.hid hcb
            clear hcb
            go_wp2_with (at_builtin; refine wpList_append_sl _ rfl (.tmp 32) (.tmp 39) 47 rfl (b + 1) 5 1 1 c1 underBs rowB (by decide) c1_length c1_one (.slice A Q.length c) Q rfl (HO.out.1.keep (below_alloc _ _)) (some ⟨wr.heap.size, 0, none⟩) 1 1 [cb] rfl rfl (sl_newB wr _) (by have := HQL.out; have := HZ.out; omega) (by have := HQL.out; have := HZ.out; omega) (by have h1 := HO.out.2.2.1.lt; simp; omega) ?_)
            intro v2 w2 ho hg
            have HN2 := Lib.hid (smh_step HB.out HO.out.1 HO.out.2.1 HO.out.2.2.1 ho hg)
            have HQ2 := Lib.hid (show Q ++ [cb] = P ++ be8T N8 2 by rw [← HQ.out, be8T_succ N8 1 (by omega), List.append_assoc, show UInt8.ofNat (N8 / 2 ^ (56 - 8 * 1)) = cb from HCB.out])
            clear ho hg
            go_wp2
            go_roundw
            case rel => exact ⟨2, by omega, by go_num, by rw [← HQ2.out]; exact HN2.out.1, HN2.out.2.1, HN2.out.2.2⟩
            case measure => simp [intOf]
          · have hv := byte_of N8 40 1099511627776 rfl
            obtain ⟨cb, hcb⟩ : ∃ cb, UInt8.ofNat (N8 / 2 ^ 40) = cb := ⟨_, rfl⟩
            rw [hcb] at hv
            have HCB := Lib.hid hcb
            clear hcb
            go_wp2_with (at_builtin; refine wpList_append_sl _ rfl (.tmp 32) (.tmp 39) 47 rfl (b + 1) 5 1 1 c1 underBs rowB (by decide) c1_length c1_one (.slice A Q.length c) Q rfl (HO.out.1.keep (below_alloc _ _)) (some ⟨wr.heap.size, 0, none⟩) 1 1 [cb] rfl rfl (sl_newB wr _) (by have := HQL.out; have := HZ.out; omega) (by have := HQL.out; have := HZ.out; omega) (by have h1 := HO.out.2.2.1.lt; simp; omega) ?_)
            intro v2 w2 ho hg
            have HN2 := Lib.hid (smh_step HB.out HO.out.1 HO.out.2.1 HO.out.2.2.1 ho hg)
            have HQ2 := Lib.hid (show Q ++ [cb] = P ++ be8T N8 3 by rw [← HQ.out, be8T_succ N8 2 (by omega), List.append_assoc, show UInt8.ofNat (N8 / 2 ^ (56 - 8 * 2)) = cb from HCB.out])
            clear ho hg
            go_wp2
            go_roundw
            case rel => exact ⟨3, by omega, by go_num, by rw [← HQ2.out]; exact HN2.out.1, HN2.out.2.1, HN2.out.2.2⟩
            case measure => simp [intOf]
          · have hv := byte_of N8 32 4294967296 rfl
            obtain ⟨cb, hcb⟩ : ∃ cb, UInt8.ofNat (N8 / 2 ^ 32) = cb := ⟨_, rfl⟩
            rw [hcb] at hv
            have HCB := Lib.hid hcb
            clear hcb
            go_wp2_with (at_builtin; refine wpList_append_sl _ rfl (.tmp 32) (.tmp 39) 47 rfl (b + 1) 5 1 1 c1 underBs rowB (by decide) c1_length c1_one (.slice A Q.length c) Q rfl (HO.out.1.keep (below_alloc _ _)) (some ⟨wr.heap.size, 0, none⟩) 1 1 [cb] rfl rfl (sl_newB wr _) (by have := HQL.out; have := HZ.out; omega) (by have := HQL.out; have := HZ.out; omega) (by have h1 := HO.out.2.2.1.lt; simp; omega) ?_)
            intro v2 w2 ho hg
            have HN2 := Lib.hid (smh_step HB.out HO.out.1 HO.out.2.1 HO.out.2.2.1 ho hg)
            have HQ2 := Lib.hid (show Q ++ [cb] = P ++ be8T N8 4 by rw [← HQ.out, be8T_succ N8 3 (by omega), List.append_assoc, show UInt8.ofNat (N8 / 2 ^ (56 - 8 * 3)) = cb from HCB.out])
            clear ho hg
            go_wp2
            go_roundw
            case rel => exact ⟨4, by omega, by go_num, by rw [← HQ2.out]; exact HN2.out.1, HN2.out.2.1, HN2.out.2.2⟩
            case measure => simp [intOf]
          · have hv := byte_of N8 24 16777216 rfl
            obtain ⟨cb, hcb⟩ : ∃ cb, UInt8.ofNat (N8 / 2 ^ 24) = cb := ⟨_, rfl⟩
            rw [hcb] at hv
            have HCB := Lib.hid hcb
            clear hcb
            go_wp2_with (at_builtin; refine wpList_append_sl _ rfl (.tmp 32) (.tmp 39) 47 rfl (b + 1) 5 1 1 c1 underBs rowB (by decide) c1_length c1_one (.slice A Q.length c) Q rfl (HO.out.1.keep (below_alloc _ _)) (some ⟨wr.heap.size, 0, none⟩) 1 1 [cb] rfl rfl (sl_newB wr _) (by have := HQL.out; have := HZ.out; omega) (by have := HQL.out; have := HZ.out; omega) (by have h1 := HO.out.2.2.1.lt; simp; omega) ?_)
            intro v2 w2 ho hg
            have HN2 := Lib.hid (smh_step HB.out HO.out.1 HO.out.2.1 HO.out.2.2.1 ho hg)
            have HQ2 := Lib.hid (show Q ++ [cb] = P ++ be8T N8 5 by rw [← HQ.out, be8T_succ N8 4 (by omega), List.append_assoc, show UInt8.ofNat (N8 / 2 ^ (56 - 8 * 4)) = cb from HCB.out])
            clear ho hg
            go_wp2
            go_roundw
            case rel => exact ⟨5, by omega, by go_num, by rw [← HQ2.out]; exact HN2.out.1, HN2.out.2.1, HN2.out.2.2⟩
            case measure => simp [intOf]
          · have hv := byte_of N8 16 65536 rfl
            obtain ⟨cb, hcb⟩ : ∃ cb, UInt8.ofNat (N8 / 2 ^ 16) = cb := ⟨_, rfl⟩
            rw [hcb] at hv
            have HCB := Lib.hid hcb
            clear hcb
            go_wp2_with (at_builtin; refine wpList_append_sl _ rfl (.tmp 32) (.tmp 39) 47 rfl (b + 1) 5 1 1 c1 underBs rowB (by decide) c1_length c1_one (.slice A Q.length c) Q rfl (HO.out.1.keep (below_alloc _ _)) (some ⟨wr.heap.size, 0, none⟩) 1 1 [cb] rfl rfl (sl_newB wr _) (by have := HQL.out; have := HZ.out; omega) (by have := HQL.out; have := HZ.out; omega) (by have h1 := HO.out.2.2.1.lt; simp; omega) ?_)
            intro v2 w2 ho hg
            have HN2 := Lib.hid (smh_step HB.out HO.out.1 HO.out.2.1 HO.out.2.2.1 ho hg)
            have HQ2 := Lib.hid (show Q ++ [cb] = P ++ be8T N8 6 by rw [← HQ.out, be8T_succ N8 5 (by omega), List.append_assoc, show UInt8.ofNat (N8 / 2 ^ (56 - 8 * 5)) = cb from HCB.out])
            clear ho hg
            go_wp2
            go_roundw
            case rel => exact ⟨6, by omega, by go_num, by rw [← HQ2.out]; exact HN2.out.1, HN2.out.2.1, HN2.out.2.2⟩
            case measure => simp [intOf]
          · have hv := byte_of N8 8 256 rfl
            obtain ⟨cb, hcb⟩ : ∃ cb, UInt8.ofNat (N8 / 2 ^ 8) = cb := ⟨_, rfl⟩
            rw [hcb] at hv
            have HCB := Lib.hid hcb
            clear hcb
            go_wp2_with (at_builtin; refine wpList_append_sl _ rfl (.tmp 32) (.tmp 39) 47 rfl (b + 1) 5 1 1 c1 underBs rowB (by decide) c1_length c1_one (.slice A Q.length c) Q rfl (HO.out.1.keep (below_alloc _ _)) (some ⟨wr.heap.size, 0, none⟩) 1 1 [cb] rfl rfl (sl_newB wr _) (by have := HQL.out; have := HZ.out; omega) (by have := HQL.out; have := HZ.out; omega) (by have h1 := HO.out.2.2.1.lt; simp; omega) ?_)
            intro v2 w2 ho hg
            have HN2 := Lib.hid (smh_step HB.out HO.out.1 HO.out.2.1 HO.out.2.2.1 ho hg)
            have HQ2 := Lib.hid (show Q ++ [cb] = P ++ be8T N8 7 by rw [← HQ.out, be8T_succ N8 6 (by omega), List.append_assoc, show UInt8.ofNat (N8 / 2 ^ (56 - 8 * 6)) = cb from HCB.out])
            clear ho hg
            go_wp2
            go_roundw
            case rel => exact ⟨7, by omega, by go_num, by rw [← HQ2.out]; exact HN2.out.1, HN2.out.2.1, HN2.out.2.2⟩
            case measure => simp [intOf]
          · have hv := byte_of N8 0 1 rfl
            rw [Int.ediv_one] at hv
            obtain ⟨cb, hcb⟩ : ∃ cb, UInt8.ofNat (N8 / 2 ^ 0) = cb := ⟨_, rfl⟩
            rw [hcb] at hv
            have HCB := Lib.hid hcb
            clear hcb
            go_wp2_with (at_builtin; refine wpList_append_sl _ rfl (.tmp 32) (.tmp 39) 47 rfl (b + 1) 5 1 1 c1 underBs rowB (by decide) c1_length c1_one (.slice A Q.length c) Q rfl (HO.out.1.keep (below_alloc _ _)) (some ⟨wr.heap.size, 0, none⟩) 1 1 [cb] rfl rfl (sl_newB wr _) (by have := HQL.out; have := HZ.out; omega) (by have := HQL.out; have := HZ.out; omega) (by have h1 := HO.out.2.2.1.lt; simp; omega) ?_)
            intro v2 w2 ho hg
            have HN2 := Lib.hid (smh_step HB.out HO.out.1 HO.out.2.1 HO.out.2.2.1 ho hg)
            have HQ2 := Lib.hid (show Q ++ [cb] = P ++ be8T N8 8 by rw [← HQ.out, be8T_succ N8 7 (by omega), List.append_assoc, show UInt8.ofNat (N8 / 2 ^ (56 - 8 * 7)) = cb from HCB.out])
            clear ho hg
            go_wp2
            go_roundw
            case rel => exact ⟨8, by omega, by go_num, by rw [← HQ2.out]; exact HN2.out.1, HN2.out.2.1, HN2.out.2.2⟩
            case measure => simp [intOf]
        · obtain rfl : k = 8 := by omega
          have HPQ := Lib.hid (show Q = padL n by rw [← HQ.out, be8T_all, ← HP.out, ← HN8.out, padL_form])
          have hrg := HX.out.2.1.keep HO.out.2.1
          obtain ⟨x1, x2, -⟩ := rowS hrg
          obtain ⟨g2, hg2⟩ : ∃ g2, wr.heap.size = g2 := ⟨_, rfl⟩
          have HS2 := Lib.hid (show Below w.heap.size w (wr.alloc (.cells (aS x) 158)) ∧ Row (wr.alloc (.cells (aS x) 158)) g2 (cS x) 158 ∧ Row (wr.alloc (.cells (aS x) 158)) b (cI zI) 143 ∧ Sl (wr.alloc (.cells (aS x) 158)) c1 A Q from by
            refine ⟨Below.step HO.out.2.1 (below_alloc _ _), ?_, HO.out.2.2.1.keep (below_alloc _ _), HO.out.2.2.2.1.keep (below_alloc _ _)⟩
            rw [← hg2]
            exact Row.new wr (cS x) _)
          have HG := Lib.hid (show g2 ≠ 1 ∧ OutG g2 A Q ∧ b < g2 from by
            have h1 := HX.out.1.1
            have h2 := HO.out.2.1.size
            refine ⟨by omega, fun ad e hne => ?_, by rw [← hg2]; exact HO.out.2.2.1.lt⟩
            obtain ⟨ad', e', hat⟩ := HO.out.2.2.2.1 hne
            rw [e] at e'
            cases e'
            have := hat.1
            omega)
          clear hrg hk hlt
          go_wp2_with (first
            | (go_at_call 97; refine (write_h g2 x l Q A c _ (HX.out.1.keep HS2.out.1) HG.out.1 HS2.out.2.1 HX.out.2.2.1 HS2.out.2.2.2 HG.out.2.1 HO.out.2.2.2.2 (by have h1 := HX.out.2.2.2; have h2 := HN.out; have h3 := HQL.out; have h4 := HZ.out; omega)).mono ?_; rintro e w5 ⟨rfl, ho5, x5, hr5, hx5⟩; obtain ⟨z1, z2⟩ := rowS_st hr5; have H5 := Lib.hid (show Row w5 b (cI zI) 143 ∧ Below w.heap.size w w5 ∧ HsOk (l ++ Q) x5 from ⟨ho5.row HS2.out.2.2.1 (by have := HG.out.2.2; omega), HS2.out.1.trans (ho5.below (by have h1 := HB.out; have h2 := HG.out.2.2; omega) HS2.out.1.size), hx5⟩); clear ho5 hr5 hx5)
            | (go_at_call 107; refine (digest_w _ _).mono ?_; rintro e w6 ⟨rfl, hb6⟩; obtain ⟨-, -, ro⟩ := rowI (H5.out.1.keep hb6); have H6 := Lib.hid (Below.step H5.out.2.1 hb6); clear hb6))
          have hld := load_d (at_setRow (cI (digI x5.st)) ro)
          have hle : w.heap.size ≤ b := by have := HB.out; omega
          have e : digI x5.st = ⟨sha l, sha_length l⟩ := by
            apply Subtype.ext
            show x5.st.bytes = (shaF (l ++ padL l.length)).bytes
            rw [H5.out.2.2.st, HPQ.out, HX.out.2.2.2]
          exact bodyPost_ret (results_c1 (ad := ⟨b, 0, none⟩) rfl rfl hld) rfl ⟨congrArg (fun i => Ending.returned (vI i)) e, Below.setRow H6.out hle _⟩
theorem KAt.size {w : World} (h : KAt w) : 1 < w.heap.size := h.1
set_option maxRecDepth 100000 in
set_option maxHeartbeats 3200000 in
theorem sum_b (A : Option Addr) (c : Nat) (l : List UInt8) (w : World) (hK : KAt w) (hs : Sl w c1 A l) (hc : l.length ≤ c) (hlen : l.length ≤ 1152921504606846976) :
    Calls Tryz.prog 89 #[.slice A l.length c] w fun e w' => e = .returned (vI ⟨sha l, sha_length l⟩) ∧ Below w.heap.size w w' := by
  obtain ⟨b, hb⟩ : ∃ b, w.heap.size = b := ⟨_, rfl⟩
  obtain ⟨W0, hW0⟩ : ∃ W0, w.alloc (.cells (aI zI) 143) = W0 := ⟨_, rfl⟩
  have H0 := Lib.hid (show Below w.heap.size w W0 ∧ Row W0 b (cI zI) 143 ∧ W0.heap.size = b + 1 from by
    subst hW0 hb
    exact ⟨below_alloc _ _, Row.new w (cI zI) _, by simp⟩)
  have H1 := Lib.hid (show Below w.heap.size w (W0.alloc (.cells (aS zS) 158)) ∧ Row (W0.alloc (.cells (aS zS) 158)) b (cI zI) 143 ∧ Row (W0.alloc (.cells (aS zS) 158)) (b + 1) (cS zS) 158 from by
    refine ⟨Below.step H0.out.1 (below_alloc _ _), H0.out.2.1.keep (below_alloc _ _), ?_⟩
    have := Row.new W0 (cS zS) 158
    rwa [H0.out.2.2] at this)
  have HX := Lib.hid (And.intro hK (And.intro hs (And.intro hc hlen)))
  have HB := Lib.hid hb
  have hz := H0.out.2.2
  have HG := Lib.hid (show b + 1 ≠ 1 ∧ OutG (b + 1) A l from by
    have h1 := hK.1
    refine ⟨by omega, fun ad e hne => ?_⟩
    obtain ⟨ad', e', hat⟩ := hs hne
    rw [e] at e'
    cases e'
    have := hat.1
    omega)
  clear hK hs hc hlen
  go_enter Tryz.func89, Tryz.ntmps89
  go_wp2_with (first
    | (go_at_call 96; refine (new_hash _).mono ?_; rintro e w1 ⟨rfl, rfl⟩; rw [hz])
    | (go_at_call 97; refine (write_h (b + 1) zS [] l A c _ (HX.out.1.keep H1.out.1) HG.out.1 H1.out.2.2 HsW.new (HX.out.2.1.keep H1.out.1) HG.out.2 HX.out.2.2.1 (by have := HX.out.2.2.2; simp; omega)).mono ?_; rintro e w2 ⟨rfl, ho2, x2, hr2, hx2⟩; have H2 := Lib.hid (show Row w2 b (cI zI) 143 ∧ Below w.heap.size w w2 ∧ Row w2 (b + 1) (cS x2) 158 ∧ HsOk l x2 from ⟨ho2.row H1.out.2.1 (by omega), H1.out.1.trans (ho2.below (by have h1 := HB.out; omega) H1.out.1.size), hr2, hx2⟩); clear ho2 hr2 hx2)
    | (go_at_call 98; refine (sum_h (b + 1) x2 l _ (HX.out.1.keep H2.out.2.1) H2.out.2.2.1 H2.out.2.2.2.w HX.out.2.2.2).mono ?_; rintro e w3 ⟨rfl, hb3⟩; obtain ⟨-, -, ro⟩ := rowI (H2.out.1.keep hb3); have H3 := Lib.hid (Below.step H2.out.2.1 hb3); clear hb3))
  have hld := load_d (at_setRow (cI ⟨sha l, sha_length l⟩) ro)
  have hle : w.heap.size ≤ b := by have := HB.out; omega
  exact bodyPost_ret (results_c1 (ad := ⟨b, 0, none⟩) rfl rfl hld) rfl ⟨rfl, Below.setRow H3.out hle _⟩
end Go.Proofs.YtecalodcbkljoaaGreatDoor
