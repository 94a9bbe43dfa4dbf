/- ascii.Unhex: the bytes of a text of hexadecimal digits, or the code of the error. ascii.Hex: the text of bytes in lower-case hexadecimal. Whole variables written and read back. The classes of bytes of message identifiers, and what a text that is one stands for. msgid.Parse: the identity of a message identifier, or the code of an error. msgid.Parse at a text that is no message identifier: the code of an error. msgid.Print: the text of an identity. ascii.Number. ascii.Digits. -/
import Derived.Laws.IdiomStrings
import Derived.Test.YtibelollgdnidaaGreatDoorMTyA
import Derived.Lib.ConvBytes
import Derived.Lib.AppendIntMem
namespace Go.Proofs.YtibelollgdnidaaGreatDoor
section
open Go.RowKit
theorem underBs : Tryz.prog.underlying 23 = some (.slice 5) := Tryz.underlying23
theorem rowB : (Tryz.prog.info? 5).map (fun i => (i.zero.map (·.cells.size), i.size, i.bytes)) = some (some 1, 1, 1) := by kernel_rfl
def c1 (b : UInt8) : List Value := [cB b]
theorem c1_length (b : UInt8) : (c1 b).length = 1 := rfl
theorem c1_one (b : UInt8) : ∀ u ∈ c1 b, u.oneCell' = true := by
 intro u hu
 obtain rfl : u = cB b := by simpa [c1] using hu
 rfl
theorem sl_newB (w : World) (b : UInt8) : Sl (w.alloc (.cells #[cB b] 5)) c1 (some ⟨w.heap.size, 0, none⟩) [b] :=
 fun _ => ⟨_, rfl, at_new w [cB b] 5 _ rfl⟩
def isSlB (xs : List UInt8) : Value → World → Prop := fun v w => ∃ A n c, v = .slice A n c ∧ xs.length = n ∧ n ≤ c ∧ Sl w c1 A xs
theorem Mono.slB (xs : List UInt8) : Mono (isSlB xs) := fun _ _ _ hb ⟨A, n, c, h1, h2, h3, h4⟩ => ⟨A, n, c, h1, h2, h3, h4.keep hb⟩
def pairV (a b : UInt8) : UInt8 := UInt8.ofNat (16 * hexV a + hexV b)
def unhexL : List UInt8 → List UInt8
 | a :: b :: r => pairV a b :: unhexL r
 | _ => []
theorem unhexL_append : ∀ (n : Nat) (l : List UInt8) (a b : UInt8), l.length = 2 * n → unhexL (l ++ [a, b]) = unhexL l ++ [pairV a b]
 | 0, [], a, b, _ => rfl
 | n + 1, x :: y :: r, a, b, h => by
  have hr : r.length = 2 * n := by simp at h; omega
  simp only [List.cons_append, unhexL, unhexL_append n r a b hr]
 | n + 1, [x], a, b, h => by simp at h; omega
 | n + 1, [], a, b, h => by simp at h
 | 0, x :: r, a, b, h => by simp at h
theorem unhexL_length : ∀ (n : Nat) (l : List UInt8), l.length = 2 * n → (unhexL l).length = n
 | 0, [], _ => rfl
 | n + 1, x :: y :: r, h => by
  have hr : r.length = 2 * n := by simp at h; omega
  simp only [unhexL, List.length_cons, unhexL_length n r hr]
 | n + 1, [x], h => by simp at h; omega
 | n + 1, [], h => by simp at h
 | 0, x :: r, h => by simp at h
theorem unhexL_step (s : ByteArray) (k : Nat) (h : k + 1 < s.size) (he : k % 2 = 0 := by omega) : unhexL ((bl s).take (k + 2)) = unhexL ((bl s).take k) ++ [pairV s[k] s[k + 1]] := by
 have h1 : (bl s).take (k + 2) = (bl s).take k ++ [s[k], s[k + 1]] := by
  rw [List.take_succ_eq_append_getElem (by rw [bl_length]; exact h), List.take_succ_eq_append_getElem (by rw [bl_length]; omega), List.append_assoc]
  rfl
 rw [h1]
 exact unhexL_append (k / 2) _ _ _ (by rw [List.length_take, bl_length]; omega)
theorem or_nib {a b : Nat} (ha : a < 16) (hb : b < 16) : bits BinOp.or IntKind.u8 ((a : Int) * 16) (b : Int) = ((16 * a + b : Nat) : Int) := by
 have h : (List.range 16).all (fun a => (List.range 16).all fun b => decide (bits BinOp.or IntKind.u8 ((a : Int) * 16) (b : Int) = ((16 * a + b : Nat) : Int))) = true := by decide +kernel
 exact of_decide_eq_true (List.all_eq_true.1 (List.all_eq_true.1 h a (List.mem_range.2 ha)) b (List.mem_range.2 hb))
theorem pairV_toNat {a b : UInt8} (ha : hexB a = true) (hb : hexB b = true) : (pairV a b).toNat = 16 * hexV a + hexV b := by
 have h1 := hexV_lt a ha
 have h2 := hexV_lt b hb
 unfold pairV
 rw [UInt8.toNat_ofNat']
 omega
theorem or_pair {a b : UInt8} (ha : hexB a = true) (hb : hexB b = true) : bits BinOp.or IntKind.u8 ((hexV a : Int) * 16) (hexV b : Int) = ((pairV a b).toNat : Int) := by
 rw [or_nib (hexV_lt a ha) (hexV_lt b hb), pairV_toNat ha hb]
theorem shl_hex {a : UInt8} (ha : hexB a = true) : IntKind.u8.wrap ((hexV a : Int) * 16) = (hexV a : Int) * 16 := by
 have := hexV_lt a ha
 simp [IntKind.wrap, IntKind.bits, IntKind.signed]; omega
theorem hex_at (s : ByteArray) (h : (bl s).all hexB = true) (k : Nat) (hk : k < s.size) : hexB s[k] = true :=
 List.all_eq_true.1 h s[k] (by rw [show s[k] = (bl s)[k]'(by rw [bl_length]; exact hk) from rfl]; exact List.getElem_mem _)
theorem runL_all (p : UInt8 → Bool) (l : List UInt8) : runL p l = l.length ↔ l.all p = true := by
 unfold runL
 induction l with
 | nil => simp
 | cons x r ih =>
  rw [List.takeWhile_cons]
  by_cases hx : p x = true
  ·rw [if_pos hx, List.all_cons, hx]
   simpa using ih
  ·rw [if_neg hx]
   simp [hx]
theorem skip_all (s : ByteArray) (w : World) (hs : s.size ≤ 4611686018427387904) (h : (bl s).all hexB = true) :
  Calls Tryz.prog 107 #[.string s, .int .i64 0, .func (.func 160) #[] #[]] w fun e w' => e = .returned (.int .i64 (s.size : Int)) ∧ w = w' := by
 have := skip_hex s 0 w (Nat.zero_le _) hs
 rw [List.drop_zero, (runL_all hexB (bl s)).2 h, bl_length, Nat.zero_add] at this
 exact this
set_option maxRecDepth 100000 in
set_option maxHeartbeats 1600000 in
theorem unhex_yes (s : ByteArray) (w : World) (hs : s.size ≤ 4294967296) (h1 : s.size % 2 = 0) (h : (bl s).all hexB = true) :
  Calls Tryz.prog 122 #[.string s] w fun e w' => ∃ v, e = .returned (.tuple #[v, .int .i64 0]) ∧ Below w.heap.size w w' ∧ Own w' w.heap.size 5 1 c1 v (unhexL (bl s)) := by
 have h2 : ((s.size : Int) % 2 != 0) = false := by simp; omega
 have HA := Lib.hid h
 have HL := Lib.hid hs
 obtain ⟨i, z, hi, hz, hsz⟩ := info_of rowB
 have hby : i.bytes = 1 := by have := rowB; rw [hi] at this; simp at this; exact this.2.2
 obtain ⟨w1, hmk, hown, hg⟩ := run_make_own (P := Tryz.prog) w w.heap.size 23 5 i z 1 underBs hi hz hsz .i64 .i64 (s.size / 2) (by rw [hby]; omega) (by unfold maxLen; omega) (Nat.le_refl _)
 have H1 := Lib.hid (And.intro (show Below w.heap.size w w1 from ⟨hg.os, hg.tape, hg.output, hg.size, fun k hk => hg.block k hk (by simp)⟩) (show Own w1 w.heap.size 5 1 c1 (.slice (some ⟨w.heap.size, 0, none⟩) 0 (s.size / 2)) [] from hown))
 have hmk2 : (Instr.makeSlice 23 (.int .i64 0) (.int .i64 ((s.size : Int) / 2))).run Tryz.prog w = .ok (.slice (some ⟨w.heap.size, 0, none⟩) 0 (s.size / 2)) w1 := hmk
 clear h hown hg hmk hi hz hsz hby
 go_enter Tryz.func122, Tryz.ntmps122
 go_wp2_with (go_at_call 107; refine (skip_all s _ (by omega) HA.out).mono ?_; rintro e w' ⟨rfl, rfl⟩)
 go_loopw [6, 7] (fun v i wr => ∃ k : Nat, k ≤ s.size ∧ k % 2 = 0 ∧ i = .int .i64 k ∧ Below w.heap.size w wr ∧ Own wr w.heap.size 5 1 c1 v (unhexL ((bl s).take k))) (fun _ i _ => s.size - (intOf i).toNat)
 case atStart => exact ⟨0, Nat.zero_le _, rfl, rfl, H1.out.1, H1.out.2⟩
 case round =>
  obtain ⟨k, hk, hev, rfl, hb, ho⟩ := hrel
  have HO := Lib.hid (And.intro hb ho)
  clear hb ho
  by_cases hlt : k < s.size
  ·have hlt1 : k + 1 < s.size := by omega
   have HC := Lib.hid (And.intro (hex_at s HA.out k hlt) (And.intro (hex_at s HA.out (k + 1) hlt1) (And.intro (shl_hex (hex_at s HA.out k hlt)) (or_pair (hex_at s HA.out k hlt) (hex_at s HA.out (k + 1) hlt1)))))
   have HU := Lib.hid (unhexL_length (k / 2) ((bl s).take k) (by rw [List.length_take, bl_length]; omega))
   have hlti : (k : Int) < (s.size : Int) := by omega
   have q3 : IntKind.i64.wrap ((k : Int) + 1) = (k : Int) + 1 := IntWalk.i64_in _ (by omega)
   have q4 : (k : Int) + 1 < (s.size : Int) := by omega
   go_wp2_with fail
   refine AnyO.wp_any_tail 15 (by kernel_rfl) (by kernel_rfl) (by kernel_rfl) (by kernel_rfl) (by kernel_rfl) (by kernel_rfl) (pstP [isV (u6), isV (.func (.func 161) #[] #[]), isV (.string s), isV (.int .i64 (k : Int)), isV (vB s[k]), isV (.int .u8 (hexV s[k] : Int)), isV (.int .u8 ((hexV s[k] : Int) * 16)), isV (.func (.func 161) #[] #[]), isV (.string s), isV (.int .i64 (k : Int)), isV (.int .i64 ((k : Int) + 1)), isV (vB s[k + 1]), isV (.int .u8 (hexV s[k + 1] : Int)), isV (vB (pairV s[k] s[k + 1])), isSlB [pairV s[k] s[k + 1]]]) (MonoL.cons (Mono.v _) (MonoL.cons (Mono.v _) (MonoL.cons (Mono.v _) (MonoL.cons (Mono.v _) (MonoL.cons (Mono.v _) (MonoL.cons (Mono.v _) (MonoL.cons (Mono.v _) (MonoL.cons (Mono.v _) (MonoL.cons (Mono.v _) (MonoL.cons (Mono.v _) (MonoL.cons (Mono.v _) (MonoL.cons (Mono.v _) (MonoL.cons (Mono.v _) (MonoL.cons (Mono.v _) (MonoL.cons (Mono.slB _) MonoL.nil))))))))))))))) ?_ ?_
   ·intro i hi
    have hi2 : i = 5 ∨ i = 12 ∨ i = 0 ∨ i = 1 ∨ i = 2 ∨ i = 3 ∨ i = 4 ∨ i = 6 ∨ i = 7 ∨ i = 8 ∨ i = 9 ∨ i = 10 ∨ i = 11 ∨ i = 13 ∨ i = 14 := by omega
    clear hi
    rcases hi2 with rfl | rfl | rfl | rfl | rfl | rfl | rfl | rfl | rfl | rfl | rfl | rfl | rfl | rfl | rfl
    ·refine AnyO.S rfl [1, 4] ?_; intro vs u hE hp ac hb K hK
     have s31 : _ = _ := AnyO.sw 31 1 hb hp
     have s34 : _ = _ := AnyO.sw 34 4 hb hp
     go_simp
     go_at_call 161
     refine (hexValue_b _ HC.out.1 u).mono ?_
     rintro e w2 ⟨rfl, rfl⟩
     exact hK _ _ (Below.refl _ _) rfl
    ·refine AnyO.S rfl [7, 11, 5] ?_; intro vs u hE hp ac hb K hK
     have s37 : _ = _ := AnyO.sw 37 7 hb hp
     have s41 : _ = _ := AnyO.sw 41 11 hb hp
     go_simp
     go_at_call 161
     refine (hexValue_b _ HC.out.2.1 u).mono ?_
     rintro e w2 ⟨rfl, rfl⟩
     exact hK _ _ (Below.refl _ _) rfl
    all_goals
     refine AnyO.T rfl ?_; intro vs u hE hp ac hb K hK
     try have s6 : ac.tmps[6]?.getD undef = u6 := by rw [hb.out]; kernel_rfl
     try have s5 : ac.tmps[5]?.getD undef = .func (.func 161) #[] #[] := by rw [hb.out]; kernel_rfl
     try have s0 : ac.tmps[0]?.getD undef = .string s := by rw [hb.out]; kernel_rfl
     try have s7 : ac.tmps[7]?.getD undef = .int .i64 (k : Int) := by rw [hb.out]; kernel_rfl
     try have s32 : _ = _ := AnyO.sw 32 2 hb hp
     try have s33 : _ = _ := AnyO.sw 33 3 hb hp
     try have s35 : _ = _ := AnyO.sw 35 5 hb hp
     try have s39 : _ = _ := AnyO.sw 39 9 hb hp
     try have s38 : _ = _ := AnyO.sw 38 8 hb hp
     try have s40 : _ = _ := AnyO.sw 40 10 hb hp
     try have s36 : _ = _ := AnyO.sw 36 6 hb hp
     try have s42 : _ = _ := AnyO.sw 42 12 hb hp
     try have s43 : _ = _ := AnyO.sw 43 13 hb hp
     have q1_0 := HC.out.2.2.1
     have q2_1 := HC.out.2.2.2
     go_simp
     first | exact hK _ _ (Below.refl _ _) rfl | exact hK _ _ (below_alloc _ _) ⟨_, _, _, rfl, rfl, Nat.le_refl _, sl_newB _ _⟩
   ·intro vs u hE hp
    have e0 : _ = _ := hp 0 (by decide)
    have e1 : _ = _ := hp 1 (by decide)
    have e2 : _ = _ := hp 2 (by decide)
    have e3 : _ = _ := hp 3 (by decide)
    have e4 : _ = _ := hp 4 (by decide)
    have e5 : _ = _ := hp 5 (by decide)
    have e6 : _ = _ := hp 6 (by decide)
    have e7 : _ = _ := hp 7 (by decide)
    have e8 : _ = _ := hp 8 (by decide)
    have e9 : _ = _ := hp 9 (by decide)
    have e10 : _ = _ := hp 10 (by decide)
    have e11 : _ = _ := hp 11 (by decide)
    have e12 : _ = _ := hp 12 (by decide)
    have e13 : _ = _ := hp 13 (by decide)
    obtain ⟨A_14, n_14, c_14, e14, h_14⟩ := show isSlB [pairV s[k] s[k + 1]] (vs 14) u from hp 14 (by decide)
    clear hp
    have HE := Lib.hid (And.intro hE h_14); clear hE h_14
    rw [puts_range [some 30, some 31, some 32, some 33, some 34, some 35, some 36, some 37, some 38, some 39, some 40, some 41, some 42, some 43, some 44] (by kernel_rfl)]
    simp only [putL, Nat.reduceAdd, List.drop_succ_cons, List.drop_zero, e0, e1, e2, e3, e4, e5, e6, e7, e8, e9, e10, e11, e12, e13, e14]
    clear e0 e1 e2 e3 e4 e5 e6 e7 e8 e9 e10 e11 e12 e13 e14
    go_simp
    go_wp2_with (at_builtin; refine wpList_append_sl _ rfl (.tmp 30) (.tmp 44) 23 rfl w.heap.size 5 1 1 c1 underBs rowB (by decide) c1_length c1_one u6 (unhexL ((bl s).take k)) rfl (Own.keep HO.out.2 HE.out.1) _ _ _ [pairV s[k] s[k + 1]] HE.out.2.1 rfl HE.out.2.2.2 (by have := HL.out; have := HU.out; have := HU.out; have : 1 = n_14 := HE.out.2.1; omega) (by have := HL.out; have := HU.out; have := HU.out; have : 1 = n_14 := HE.out.2.1; omega) (by have := HO.out.1.size; have := HE.out.1.size; omega) ?_)
    intro v2 w2 ho hg
    have hb2 := Own.grew (Own.keep HO.out.2 HE.out.1) hg (HO.out.1.trans (HE.out.1.mono HO.out.1.size)) (Nat.le_refl _) (by have := HO.out.1.size; have := HE.out.1.size; omega)
    have H2 := Lib.hid (And.intro hb2 ho); clear hb2 ho hg
    go_wp2
    go_roundw
    case rel => exact ⟨k + 2, by omega, by omega, by go_num, H2.out.1, by rw [unhexL_step s k hlt1]; exact H2.out.2⟩
    case measure => simp [intOf]; omega
  ·have hkn : k = s.size := by omega
   subst hkn
   go_wp2
   go_ret2
   exact ⟨_, rfl, HO.out.1, by have := HO.out.2; rwa [show (bl s).take s.size = bl s from by rw [← bl_length, List.take_length]] at this⟩
end
section
open Go.RowKit
abbrev dig16 (p : Nat) (h : p < 16) : UInt8 := (⟨#[48, 49, 50, 51, 52, 53, 54, 55, 56, 57, 97, 98, 99, 100, 101, 102]⟩ : ByteArray)[p]'h
def digC (p : Nat) : UInt8 := if p < 10 then UInt8.ofNat (48 + p) else UInt8.ofNat (87 + p)
def hexC (b : UInt8) : List UInt8 := [digC (b.toNat / 16), digC (b.toNat % 16)]
def hexL (l : List UInt8) : List UInt8 := l.flatMap hexC
theorem dig16_eq (p : Nat) (h : p < 16) : dig16 p h = digC p := by
 match p, h with
 | 0, _ => rfl
 | 1, _ => rfl
 | 2, _ => rfl
 | 3, _ => rfl
 | 4, _ => rfl
 | 5, _ => rfl
 | 6, _ => rfl
 | 7, _ => rfl
 | 8, _ => rfl
 | 9, _ => rfl
 | 10, _ => rfl
 | 11, _ => rfl
 | 12, _ => rfl
 | 13, _ => rfl
 | 14, _ => rfl
 | 15, _ => rfl
 | n + 16, h => exact absurd h (by omega)
theorem hexL_length (l : List UInt8) : (hexL l).length = 2 * l.length := by
 unfold hexL
 induction l with
 | nil => rfl
 | cons b r ih => simp [List.flatMap_cons, hexC, ih]; omega
theorem and15 (x : UInt8) : bits BinOp.and IntKind.u8 (x.toNat : Int) 15 = ((x.toNat % 16 : Nat) : Int) :=
 of_decide_eq_true (byte_all (p := fun x => decide (bits BinOp.and IntKind.u8 (x.toNat : Int) 15 = ((x.toNat % 16 : Nat) : Int))) (by decide +kernel) x)
theorem sl_newBs (w : World) (l : List UInt8) : Sl (w.alloc (.cells (l.map vB).toArray 5)) c1 (some ⟨w.heap.size, 0, none⟩) l := by
 have e : l.flatMap c1 = l.map vB := by
  induction l with
  | nil => rfl
  | cons b r ih => rw [List.flatMap_cons, ih]; rfl
 refine fun _ => ⟨_, rfl, ?_⟩
 rw [e]
 exact at_new w (l.map vB) 5 _ rfl
theorem Sl.byte {w : World} {A : Option Addr} {xs : List UInt8} (h : Sl w c1 A xs) {k : Nat} (hk : k < xs.length) : ∃ ad, A = some ad ∧ w.cell? (ad.add k) = some (vB xs[k]) := by
 obtain ⟨ad, rfl, hat⟩ := Sl.at_ c1_length h hk
 refine ⟨ad, rfl, ?_⟩
 have := hat.2 0 (cB xs[k]) rfl
 rw [Nat.mul_one, show ((ad.add k).add 0) = ad.add k from by unfold Addr.add; rfl] at this
 exact this
theorem conv_bs {w : World} {A : Option Addr} {n c : Nat} {l : List UInt8} (h : Sl w c1 A l) (hn : l.length = n) (ha : A ≠ none) : (convert 23 9 (.slice A n c)).run Tryz.prog w = .ok (.string ⟨l.toArray⟩) w := by
 subst hn
 cases A with
 | none => exact absurd rfl ha
 | some ad =>
  refine run_convert_bytes_back w 23 9 5 ad c l underBs Tryz.underlying5 Tryz.underlying9 fun j hj => ?_
  obtain ⟨ad', e, hc⟩ := Sl.byte h hj
  obtain rfl : ad = ad' := by injection e
  exact hc
theorem Own.some' {w : World} {base : Nat} {e : TypeId} {s : Nat} {v : Value} {l : List UInt8} (h : Own w base e s c1 v l) : v = .slice none 0 0 ∨ ∃ ad n c, v = .slice (some ad) n c ∧ l.length = n ∧ n ≤ c ∧ Sl w c1 (some ad) l := by
 obtain ⟨A, c, rfl, hc, hs⟩ := h.sl
 cases A with
 | none =>
  left
  rcases h.2 with ⟨h1, h2⟩ | ⟨g, cap, cur, h1, _⟩
  ·exact h1
  ·cases h1
 | some ad => exact .inr ⟨ad, _, c, rfl, rfl, hc, hs⟩
theorem ownBs_keepNotNil {w : World} {base : Nat} {e : TypeId} {s : Nat} {v : Value} {l : List UInt8} (h : Own w base e s c1 v l) (hne : l ≠ []) : ∃ ad n c, v = .slice (some ad) n c ∧ l.length = n ∧ n ≤ c ∧ Sl w c1 (some ad) l := by
 rcases h.some' with rfl | h
 ·obtain ⟨A, c, e, _, _⟩ := h.sl
  injection e with _ e2 _
  exact absurd (List.eq_nil_of_length_eq_zero e2.symm) hne
 ·exact h
set_option maxRecDepth 100000 in
set_option maxHeartbeats 1600000 in
theorem hex_b (A : Option Addr) (c n : Nat) (xs : List UInt8) (w : World) (hn : xs.length = n) (hx : Sl w c1 A xs) (hne : xs ≠ []) (hm : n ≤ 1073741824) :
  Calls Tryz.prog 166 #[.slice A n c] w fun e w' => e = .returned (.string ⟨(hexL xs).toArray⟩) ∧ Below w.heap.size w w' := by
 subst hn
 have HX := Lib.hid (And.intro hx hne)
 have HL := Lib.hid hm
 obtain ⟨i, z, hi, hz, hsz⟩ := info_of rowB
 have hby : i.bytes = 1 := by have := rowB; rw [hi] at this; simp at this; exact this.2.2
 obtain ⟨w1, hmk, hown, hg⟩ := run_make_own (P := Tryz.prog) w w.heap.size 23 5 i z 1 underBs hi hz hsz .i64 .i64 (2 * xs.length) (by rw [hby]; omega) (by unfold maxLen; omega) (Nat.le_refl _)
 have H1 := Lib.hid (And.intro (show Below w.heap.size w w1 from ⟨hg.os, hg.tape, hg.output, hg.size, fun k hk => hg.block k hk (by simp)⟩) (show Own w1 w.heap.size 5 1 c1 (.slice (some ⟨w.heap.size, 0, none⟩) 0 (2 * xs.length)) [] from hown))
 have hmk2 : (Instr.makeSlice 23 (.int .i64 0) (.int .i64 (2 * (xs.length : Int)))).run Tryz.prog w = .ok (.slice (some ⟨w.heap.size, 0, none⟩) 0 (2 * xs.length)) w1 := hmk
 clear hx hown hg hmk hi hz hsz hby hne
 go_enter Tryz.func166, Tryz.ntmps166
 go_wp2_with fail
 go_loopw [3, 12] (fun v i wr => ∃ k : Nat, k ≤ xs.length ∧ i = .int .i64 k ∧ Below w.heap.size w wr ∧ Own wr w.heap.size 5 1 c1 v (hexL (xs.take k))) (fun _ i _ => xs.length - (intOf i).toNat)
 case atStart => exact ⟨0, Nat.zero_le _, rfl, H1.out.1, H1.out.2⟩
 case round =>
  obtain ⟨k, hk, rfl, hb, ho⟩ := hrel
  have HO := Lib.hid (And.intro hb ho)
  by_cases hlt : k < xs.length
  ·obtain ⟨ad, rfl, hcell⟩ := Sl.byte (HX.out.1.keep hb) hlt
   obtain ⟨x, hx⟩ : ∃ x, xs[k] = x := ⟨_, rfl⟩
   rw [hx] at hcell
   obtain ⟨p, hp⟩ : ∃ p, p = x.toNat / 16 := ⟨_, rfl⟩
   obtain ⟨q, hq⟩ : ∃ q, q = x.toNat % 16 := ⟨_, rfl⟩
   have hx8 := x.toNat_lt
   have HC := Lib.hid (And.intro (show p < 16 by omega) (And.intro (show q < 16 by omega) (And.intro (show (x.toNat : Int) / 16 = (p : Int) by omega) (show bits BinOp.and IntKind.u8 (x.toNat : Int) 15 = (q : Int) by rw [and15, hq]))))
   have HU := Lib.hid (show (hexL (xs.take k)).length ≤ 2 * xs.length by rw [hexL_length, List.length_take]; omega)
   have HX2 := Lib.hid (show hexL (xs.take (k + 1)) = hexL (xs.take k) ++ [dig16 p HC.out.1, dig16 q HC.out.2.1] by
    rw [dig16_eq, dig16_eq, hp, hq, List.take_succ_eq_append_getElem hlt, hx]
    unfold hexL
    rw [List.flatMap_append, List.flatMap_singleton]
    rfl)
   clear hb ho hp hq hx hx8
   go_wp2_with fail
   refine AnyO.wp_any_tail 8 (by kernel_rfl) (by kernel_rfl) (by kernel_rfl) (by kernel_rfl) (by kernel_rfl) (by kernel_rfl) (pstP [isV (u3), isV (vB x), isV (.int .u8 (p : Int)), isV (vB (dig16 p HC.out.1)), isV (vB x), isV (.int .u8 (q : Int)), isV (vB (dig16 q HC.out.2.1)), isSlB [dig16 p HC.out.1, dig16 q HC.out.2.1]]) (MonoL.cons (Mono.v _) (MonoL.cons (Mono.v _) (MonoL.cons (Mono.v _) (MonoL.cons (Mono.v _) (MonoL.cons (Mono.v _) (MonoL.cons (Mono.v _) (MonoL.cons (Mono.v _) (MonoL.cons (Mono.slB _) MonoL.nil)))))))) ?_ ?_
   ·intro i hi
    have hi2 : i = 0 ∨ i = 1 ∨ i = 2 ∨ i = 3 ∨ i = 4 ∨ i = 5 ∨ i = 6 ∨ i = 7 := by omega
    clear hi
    rcases hi2 with rfl | rfl | rfl | rfl | rfl | rfl | rfl | rfl
    all_goals
     refine AnyO.T rfl ?_; intro vs u hE hp ac hb K hK
     try have s3 : ac.tmps[3]?.getD undef = u3 := by rw [hb.out]; kernel_rfl
     try have s5 : ac.tmps[5]?.getD undef = vB x := by rw [hb.out]; kernel_rfl
     try have s17 : _ = _ := AnyO.sw 17 1 hb hp
     try have s18 : _ = _ := AnyO.sw 18 2 hb hp
     try have s20 : _ = _ := AnyO.sw 20 4 hb hp
     try have s21 : _ = _ := AnyO.sw 21 5 hb hp
     try have s19 : _ = _ := AnyO.sw 19 3 hb hp
     try have s22 : _ = _ := AnyO.sw 22 6 hb hp
     have r1_0 := HC.out.2.2.1
     have r1_1 : (p : Int) < 16 := by have := HC.out.1; omega
     have r1_2 := HC.out.2.2.2
     have r1_3 : (q : Int) < 16 := by have := HC.out.2.1; omega
     go_simp
     first | exact hK _ _ (Below.refl _ _) rfl | exact hK _ _ (below_alloc _ _) ⟨_, _, _, rfl, rfl, Nat.le_refl _, sl_newBs u [dig16 p HC.out.1, dig16 q HC.out.2.1]⟩
   ·intro vs u hE hp
    have e0 : _ = _ := hp 0 (by decide)
    have e1 : _ = _ := hp 1 (by decide)
    have e2 : _ = _ := hp 2 (by decide)
    have e3 : _ = _ := hp 3 (by decide)
    have e4 : _ = _ := hp 4 (by decide)
    have e5 : _ = _ := hp 5 (by decide)
    have e6 : _ = _ := hp 6 (by decide)
    obtain ⟨A_7, n_7, c_7, e7, h_7⟩ := show isSlB [dig16 p HC.out.1, dig16 q HC.out.2.1] (vs 7) u from hp 7 (by decide)
    clear hp
    have HE := Lib.hid (And.intro hE h_7); clear hE h_7
    rw [puts_range [some 16, some 17, some 18, some 19, some 20, some 21, some 22, some 23] (by kernel_rfl)]
    simp only [putL, Nat.reduceAdd, List.drop_succ_cons, List.drop_zero, e0, e1, e2, e3, e4, e5, e6, e7]
    clear e0 e1 e2 e3 e4 e5 e6 e7
    go_simp
    go_wp2_with (at_builtin; refine wpList_append_sl _ rfl (.tmp 16) (.tmp 23) 23 rfl w.heap.size 5 1 1 c1 underBs rowB (by decide) c1_length c1_one u3 (hexL (xs.take k)) rfl (Own.keep HO.out.2 HE.out.1) _ _ _ [dig16 p HC.out.1, dig16 q HC.out.2.1] HE.out.2.1 rfl HE.out.2.2.2 (by have := HL.out; have := HU.out; have : 2 = n_7 := HE.out.2.1; omega) (by have := HL.out; have := HU.out; have : 2 = n_7 := HE.out.2.1; omega) (by have := HO.out.1.size; have := HE.out.1.size; omega) ?_)
    intro v2 w2 ho hg
    have hb2 := Own.grew (Own.keep HO.out.2 HE.out.1) hg (HO.out.1.trans (HE.out.1.mono HO.out.1.size)) (Nat.le_refl _) (by have := HO.out.1.size; have := HE.out.1.size; omega)
    have H2 := Lib.hid (And.intro hb2 ho); clear hb2 ho hg
    go_wp2
    go_roundw
    case rel => exact ⟨k + 1, by omega, by go_num, H2.out.1, by rw [HX2.out]; exact H2.out.2⟩
    case measure => simp [intOf]; omega
  ·have hkn : k = xs.length := by omega
   subst hkn
   rw [List.take_length] at ho
   obtain ⟨ad, m, cc, rfl, hl, hc, hs⟩ := ownBs_keepNotNil ho (by intro e; have := hexL_length xs; rw [e] at this; exact HX.out.2 (List.eq_nil_of_length_eq_zero (by simp at this; omega)))
   have hcv := conv_bs (c := cc) hs hl (by simp)
   clear hb ho hl hc hs
   go_wp2
   go_ret
   exact ⟨rfl, HO.out.1⟩
end
section
open Go.RowKit
theorem rowOk_cells {w : World} {g n : Nat} (h : rowOk w g n = true) : ∃ cs t, w.heap[g]? = some (.cells cs t (0, 0)) ∧ cs.size = n := by
 unfold rowOk at h
 split at h
 ·rename_i cs t hg
  exact ⟨cs, t, hg, by simpa using h⟩
 ·cases h
theorem rowOk_lt {w : World} {g n : Nat} (h : rowOk w g n = true) : g < w.heap.size := by
 obtain ⟨cs, t, hg, _⟩ := rowOk_cells h
 exact (Array.getElem?_eq_some_iff.1 hg).1
theorem rowOk_keep {w w' : World} {g n : Nat} (hb : Below w.heap.size w w') (hg : g < w.heap.size) : rowOk w' g n = rowOk w g n := by
 unfold rowOk
 rw [hb.block g hg]
theorem rowOk_kept {w w' : World} {g n : Nat} (h : rowOk w g n = true) (hb : Below w.heap.size w w') : rowOk w' g n = true := (rowOk_keep hb (rowOk_lt h)).trans h
theorem at_setRow {w : World} {g n : Nat} (cs : List Value) (h : rowOk w g n = true) : At (w.setRow g cs.toArray) ⟨g, 0, none⟩ cs := by
 obtain ⟨old, t, hg, _⟩ := rowOk_cells h
 have h2 := setRow_heap w g old cs.toArray t (0, 0) hg
 refine ⟨(Array.getElem?_eq_some_iff.1 h2).1, fun j u hu => ?_⟩
 have hadd : (⟨g, 0, none⟩ : Addr).add j = ⟨g, j, none⟩ := by unfold Addr.add; split <;> simp_all
 rw [hadd]
 unfold World.cell?
 rw [h2]
 simpa using hu
theorem Below.setRow {B g : Nat} {w0 w : World} (h : Below B w0 w) (hB : B ≤ g) (cs : Array Value) : Below B w0 (w.setRow g cs) := by
 refine ⟨h.os, h.tape, h.output, ?_, fun k hk => ?_⟩
 ·have := h.size
  simpa [World.setRow] using this
 ·rw [← h.block k hk]
  simp only [World.setRow, Array.getElem?_modify]
  rw [if_neg (by omega)]
theorem At.setCell {w : World} {g k : Nat} {cs : List Value} (h : At w ⟨g, 0, none⟩ cs) (hk : k < cs.length) (v : Value) : At (w.setCell ⟨g, k, none⟩ v) ⟨g, 0, none⟩ (cs.set k v) := by
 have e : ∀ k, (⟨g, 0, none⟩ : Addr).add k = ⟨g, k, none⟩ := by intro k; unfold Addr.add; split <;> simp_all
 refine ⟨by have := h.1; simpa [World.setCell] using this, fun j u hu => ?_⟩
 rw [e]
 by_cases hj : j = k
 ·subst hj
  have h1 := h.2 j cs[j] (List.getElem?_eq_getElem hk)
  rw [e] at h1
  rw [World.cell?_setCell_same' _ _ _ (by rw [h1]; rfl)]
  rw [List.getElem?_set_self hk] at hu
  exact hu
 ·have hne : (⟨g, k, none⟩ : Addr) ≠ ⟨g, j, none⟩ := by intro h; injection h with _ h; omega
  refine (World.cell?_setCell_other w _ _ v hne).trans ?_
  rw [List.getElem?_set_ne (by omega)] at hu
  have := h.2 j u hu
  rwa [e] at this
theorem results_c1 {P : Program} {fn : Func} {tmps : Array Value} {w : World} {a : Tmp} {t : TypeId} {ad : Addr} {v : Value} (hres : fn.results = #[.cell a t]) (h1 : tmps[a]?.getD undef = .pointer (some ad)) (h2 : (loadVar t ad).run P w = .ok v w) :
  (results fn tmps).run P w = .ok v w := by
 simp [results, hres, h1, h2, asAddr]
theorem results_c2 {P : Program} {fn : Func} {tmps : Array Value} {w : World} {a p : Tmp} {t : TypeId} {ad : Addr} {v x : Value} (hres : fn.results = #[.cell a t, .tmp p]) (h1 : tmps[a]?.getD undef = .pointer (some ad)) (h2 : (loadVar t ad).run P w = .ok v w) (h3 : tmps[p]?.getD undef = x) :
  (results fn tmps).run P w = .ok (.tuple #[v, x]) w := by
 simp [results, hres, h1, h2, h3, asAddr]
theorem results_c3 {P : Program} {fn : Func} {tmps : Array Value} {w : World} {a p q : Tmp} {t : TypeId} {ad : Addr} {v x y : Value} (hres : fn.results = #[.cell a t, .tmp p, .tmp q]) (h1 : tmps[a]?.getD undef = .pointer (some ad)) (h2 : (loadVar t ad).run P w = .ok v w) (h3 : tmps[p]?.getD undef = x) (h4 : tmps[q]?.getD undef = y) :
  (results fn tmps).run P w = .ok (.tuple #[v, x, y]) w := by
 simp [results, hres, h1, h2, h3, h4, asAddr]
theorem cI_c1 (x : Id) : x.1.flatMap (fun b => [cB b]) = cI x := by
 unfold cI
 induction x.1 with
 | nil => rfl
 | cons b r ih => simp [ih]
end
section
open Go.RowKit
def okAt (i : Nat) (c : UInt8) : Bool := if i < 1 then decide (c.toNat = 60) else if i < 65 then hexB c else decide (c.toNat = [64, 104, 97, 115, 104, 62].getD (i - 65) 0)
def identB (l : List UInt8) : Bool := decide (l.length = 71) && (List.range 71).all fun i => okAt i (l.getD i 0)
def toId (l : List UInt8) : Id := if h : l.length = 32 then ⟨l, h⟩ else zI
def midL (l : List UInt8) : Id := toId (unhexL ((l.drop 1).take 64))
set_option maxHeartbeats 400000 in
theorem isDigit_m (c : UInt8) (w : World) : Calls Tryz.prog 159 #[vB c] w fun e w' => e = .returned (.bool (hexB c)) ∧ w = w' := by
 rcases hd : digB c with _ | _
 all_goals
  go_enter Tryz.func159, Tryz.ntmps159
  go_wp2_with (go_at_call 108; refine (isDigit_b _ _).mono ?_; rintro e w' ⟨rfl, rfl⟩)
  all_goals
   go_ret
   exact ⟨ret_bool (by unfold hexB; rw [Bool.eq_iff_iff]; simp [hd]; try omega), rfl⟩
theorem beq_byte (c : UInt8) (n : Nat) : ((c.toNat : Int) == (n : Int)) = decide (c.toNat = n) := by
 rw [Bool.eq_iff_iff]; simp; omega
set_option maxHeartbeats 800000 in
theorem fits_b (i : Nat) (c : UInt8) (w : World) (hi : i < 71) : Calls Tryz.prog 121 #[.int .i64 (i : Int), vB c] w fun e w' => e = .returned (.bool (okAt i c)) ∧ w = w' := by
 have hcase : i = 0 ∨ (1 ≤ i ∧ i < 65) ∨ i = 65 ∨ i = 66 ∨ i = 67 ∨ i = 68 ∨ i = 69 ∨ i = 70 := by omega
 clear hi
 rcases hcase with rfl | ⟨h1, h2⟩ | rfl | rfl | rfl | rfl | rfl | rfl
 case inr.inl =>
  have h3 : ¬ (i : Int) < 1 := by omega
  have h4 : (i : Int) < 65 := by omega
  have e : okAt i c = hexB c := by unfold okAt; rw [if_neg (by omega), if_pos h2]
  have H := Lib.hid e; clear e
  go_enter Tryz.func121, Tryz.ntmps121
  go_wp2_with (go_at_call 159; refine (isDigit_m _ _).mono ?_; rintro e w' ⟨rfl, rfl⟩)
  go_ret
  exact ⟨ret_bool H.out.symm, rfl⟩
 all_goals
  go_enter Tryz.func121, Tryz.ntmps121
  go_wp2
  go_ret
  first
   | exact ⟨ret_bool (beq_byte c 60), rfl⟩
   | exact ⟨ret_bool (beq_byte c 64), rfl⟩
   | exact ⟨ret_bool (beq_byte c 104), rfl⟩
   | exact ⟨ret_bool (beq_byte c 97), rfl⟩
   | exact ⟨ret_bool (beq_byte c 115), rfl⟩
   | exact ⟨ret_bool (beq_byte c 62), rfl⟩
end
section
open Go.RowKit
theorem identB_size {s : ByteArray} (h : identB (bl s) = true) : s.size = 71 := by
 unfold identB at h
 simp only [Bool.and_eq_true, decide_eq_true_eq] at h
 rw [← bl_length]; exact h.1
theorem identB_at {s : ByteArray} (h : identB (bl s) = true) (k : Nat) (hk : k < 71) (hs : k < s.size) : okAt k s[k] = true := by
 unfold identB at h
 simp only [Bool.and_eq_true, decide_eq_true_eq] at h
 have := List.all_eq_true.1 h.2 k (List.mem_range.2 hk)
 rw [List.getD_eq_getElem?_getD, List.getElem?_eq_getElem (by rw [bl_length]; exact hs)] at this
 exact this
theorem okAt_hex {i : Nat} {c : UInt8} (h : okAt i c = true) (h1 : 1 ≤ i) (h2 : i < 65) : hexB c = true := by
 unfold okAt at h
 rwa [if_neg (by omega), if_pos h2] at h
theorem unhex_len32 {s : ByteArray} (hs : s.size = 71) : (unhexL (((bl s).drop 1).take 64)).length = 32 :=
 unhexL_length 32 _ (by rw [List.length_take, List.length_drop, bl_length]; omega)
theorem mid_hex {s : ByteArray} (h : identB (bl s) = true) : (((bl s).drop 1).take 64).all hexB = true := by
 have hs := identB_size h
 rw [List.all_eq_true]
 intro c hc
 obtain ⟨j, hj, rfl⟩ := List.getElem_of_mem hc
 rw [List.length_take, List.length_drop, bl_length] at hj
 have hj2 : 1 + j < s.size := by omega
 have := okAt_hex (identB_at h (1 + j) (by omega) hj2) (by omega) (by omega)
 rw [List.getElem_take, List.getElem_drop]
 exact this
theorem Sl.id {w : World} {A : Option Addr} {xs : List UInt8} (h : Sl w c1 A xs) (hl : xs.length = 32) : ∃ ad, A = some ad ∧ At w ad (cI (toId xs)) := by
 obtain ⟨ad, rfl, hat⟩ := h (by intro e; subst e; cases hl)
 refine ⟨ad, rfl, ?_⟩
 have e : toId xs = ⟨xs, hl⟩ := by unfold toId; rw [dif_pos hl]
 rw [e, ← cI_c1]
 exact hat
theorem arrayAt33 (a : Option Addr) (c : Nat) (w : World) : (Instr.arrayAt 34 (.slice a 32 c)).run Tryz.prog w = .ok (.pointer a) w := by
 simp [Instr.arrayAt, run_underlying Tryz.underlying34]
theorem load_id {w : World} {ad : Addr} {x : Id} (h : At w ad (cI x)) : (loadVar 34 ad).run Tryz.prog w = .ok (vI x) w :=
 run_loadVar_at w ad 34 (cI x) _ h Tryz.underlying34 rfl (by rw [cI_length]; exact size34)
set_option maxRecDepth 100000 in
set_option maxHeartbeats 1600000 in
theorem mparse_yes (s : ByteArray) (w : World) (h : identB (bl s) = true) :
  Calls Tryz.prog 81 #[.string s] w fun e w' => e = .returned (.tuple #[vI (midL (bl s)), .int .i64 0, .int .i64 0]) ∧ Below w.heap.size w w' := by
 have hsz := identB_size h
 have hex : bl (s.extract 1 65) = ((bl s).drop 1).take 64 := Lib.extract_data s 1 65
 have hz : (s.extract 1 65).size = 64 := by rw [← bl_length, hex, List.length_take, List.length_drop, bl_length]; omega
 have H := Lib.hid (And.intro h (And.intro (show (s.extract 1 65).size ≤ 4294967296 by omega) (And.intro (show (s.extract 1 65).size % 2 = 0 by omega) (And.intro (show (bl (s.extract 1 65)).all hexB = true by rw [hex]; exact mid_hex h) (And.intro (show (unhexL (bl (s.extract 1 65))).length = 32 by rw [hex]; exact unhex_len32 hsz) (show toId (unhexL (bl (s.extract 1 65))) = midL (bl s) by rw [hex]; rfl))))))
 clear h hex hz
 go_enter Tryz.func81, Tryz.ntmps81
 go_wp2
 go_loop [10] (fun i => ∃ k : Nat, k ≤ 71 ∧ i = .int .i64 k) (fun i => 71 - (intOf i).toNat)
 case atStart => exact ⟨0, Nat.zero_le _, rfl⟩
 case round =>
  obtain ⟨k, hk, rfl⟩ := hrel
  by_cases hlt : k < 71
  ·have hok := identB_at H.out.1 k hlt (by omega)
   have hlt2 : k < s.size := by omega
   go_wp2_with (go_at_call 121; refine (fits_b k _ _ hlt).mono ?_; rintro e w' ⟨rfl, rfl⟩)
   go_round
   case rel => exact ⟨k + 1, by omega, by go_num⟩
   case measure => simp [intOf]; omega
  ·have hkn : k = 71 := by omega
   subst hkn
   go_wp2_with (go_at_call 122; refine (unhex_yes (s.extract 1 65) _ H.out.2.1 H.out.2.2.1 H.out.2.2.2.1).mono ?_; rintro e w1 ⟨v, rfl, hb, ho⟩; obtain ⟨A, c, rfl, hc, hs⟩ := ho.sl; rw [H.out.2.2.2.2.1]; obtain ⟨ad, rfl, hat⟩ := hs.id H.out.2.2.2.2.1; have hsp := arrayAt33 (some ad) c; have hok2 := hat.ok; have hrd2 := hat.rd; rw [cI_length] at hok2 hrd2; rw [H.out.2.2.2.2.2] at hrd2; change _ = vI (midL (bl s)) at hrd2; have hro := rowOk_kept (rowOk_nI w zI 34 w.heap.size rfl) hb; have H1 := Lib.hid (And.intro hro (Below.step (below_alloc _ _) hb)); clear ho hc hs hat hb)
   have hat := at_setRow (cI (midL (bl s))) H1.out.1
   have hld := load_id hat
   exact bodyPost_ret (v := .tuple #[vI (midL (bl s)), .int .i64 0, .int .i64 0]) (results_c3 (ad := ⟨w.heap.size, 0, none⟩) rfl rfl hld rfl rfl) rfl ⟨rfl, Below.setRow H1.out.2 (Nat.le_refl _) _⟩
end
section
open Go.RowKit
def AllOk (s : ByteArray) (k : Nat) : Prop := ∀ j (h : j < s.size), j < k → okAt j s[j] = true
theorem AllOk.zero (s : ByteArray) : AllOk s 0 := fun _ _ h => absurd h (Nat.not_lt_zero _)
theorem AllOk.step (s : ByteArray) (k : Nat) (hk : k < s.size) (h : AllOk s k) (ho : okAt k s[k] = true) : AllOk s (k + 1) := by
 intro j hj hlt
 by_cases e : j = k
 ·subst e; exact ho
 ·exact h j hj (by omega)
end
section
open Go.RowKit
abbrev B64 := { l : List UInt8 // l.length = 64 }
def aB64 (l : B64) : Array Value := (l.1.map cB).toArray
def vB64 (l : B64) : Value := .agg (aB64 l)
def zB64 : B64 := ⟨List.replicate 64 0, by simp⟩
theorem aB64_size (l : B64) : (aB64 l).size = 64 := by simp [aB64, l.2]
theorem aB64_one (l : B64) : (aB64 l).all (·.oneCell') = true := by
 rw [Array.all_eq_true_iff_forall_mem]
 intro u hu
 simp only [aB64, List.mem_toArray, List.mem_map] at hu
 obtain ⟨b, _, rfl⟩ := hu
 rfl
theorem under64 : Tryz.prog.underlying 158 = some (.array 64 5) := Tryz.underlying158
theorem size64 : (Tryz.prog.info? 158).map (·.size) = some 64 := by kernel_rfl
section
variable (w : World)
@[go_sem ↓] theorem load64 (v : Value) : Instr.loadAt 158 v = ldA 158 v := rfl
@[go_sem ↓] theorem store64 (v u : Value) : Instr.storeAt 158 v u = stA 158 v u := rfl
@[go_sem ↓] theorem alloc64 (h : Bool) (v : Value) : Instr.alloc 158 h v = alA 158 h v := rfl
@[go_sem] theorem run_ld64 (ad : Addr) : (ldA 158 (.pointer (some ad))).run Tryz.prog w = if okA w ad 64 = true then .ok (rdA w ad 64) w else (ldB 158 (.pointer (some ad))).run Tryz.prog w := run_ldA_if w 158 ad 64 _ under64 rfl size64
@[go_sem] theorem run_st64 (g : Nat) (x : B64) : (stA 158 (.pointer (some ⟨g, 0, none⟩)) (vB64 x)).run Tryz.prog w = if rowOk w g 64 = true then .ok () (w.setRow g (aB64 x)) else (stB 158 (.pointer (some ⟨g, 0, none⟩)) (vB64 x)).run Tryz.prog w := run_stA_if w 158 g (aB64 x) 64 size64 (aB64_size x) (aB64_one x)
@[go_sem] theorem run_al64 : (alA 158 true (.tuple #[])).run Tryz.prog w = .ok (.pointer (some ⟨w.heap.size, 0, none⟩)) (w.alloc (.cells (aB64 zB64) 158)) := by kernel_rfl
@[go_sem] theorem rowOk_new64 (x : B64) (t : TypeId) (g : Nat) (hg : g = w.heap.size) : rowOk (w.alloc (.cells (aB64 x) t)) g 64 = true := rowOk_new w (aB64 x) t g 64 hg (aB64_size x)
end
theorem flat_c1 (l : List UInt8) : l.flatMap c1 = l.map cB := by
 induction l with
 | nil => rfl
 | cons b r ih => rw [List.flatMap_cons, ih]; rfl
theorem Sl.ofAt {w : World} {ad : Addr} {l : List UInt8} (h : At w ad (l.map cB)) : Sl w c1 (some ad) l :=
 fun _ => ⟨ad, rfl, by rw [flat_c1]; exact h⟩
theorem slice33 (g : Nat) (w : World) : (Instr.sliceAt 34 (.pointer (some ⟨g, 0, none⟩)) none none none).run Tryz.prog w = .ok (.slice (some ⟨g, 0, none⟩) 32 32) w := by kernel_rfl
theorem slice64 (g : Nat) (w : World) : (Instr.sliceAt 158 (.pointer (some ⟨g, 0, none⟩)) none none none).run Tryz.prog w = .ok (.slice (some ⟨g, 0, none⟩) 64 64) w := by kernel_rfl
theorem array64 (a : Option Addr) (c : Nat) (w : World) : (Instr.arrayAt 158 (.slice a 64 c)).run Tryz.prog w = .ok (.pointer a) w := by
 simp [Instr.arrayAt, run_underlying under64]
theorem load_64 {w : World} {ad : Addr} {x : B64} (h : At w ad (x.1.map cB)) : (loadVar 158 ad).run Tryz.prog w = .ok (vB64 x) w :=
 run_loadVar_at w ad 158 (x.1.map cB) _ h under64 rfl (by rw [List.length_map, x.2]; exact size64)
theorem conv_sb (w : World) (s : ByteArray) : ∃ c w', (convert 9 23 (.string s)).run Tryz.prog w = .ok (.slice (some ⟨w.heap.size, 0, none⟩) s.size c) w' ∧ Below w.heap.size w w' ∧ At w' ⟨w.heap.size, 0, none⟩ ((bl s).map cB) := by
 refine ⟨_, _, Lib.run_convert_string_bytes w 9 23 5 s Tryz.underlying9 underBs Tryz.underlying5, ⟨rfl, rfl, rfl, by rw [Lib.bytesWorld_size]; omega, fun k hk => Lib.bytesWorld_at_old w _ s k hk⟩, ⟨by rw [Lib.bytesWorld_size]; exact Nat.lt_succ_self _, fun j u hu => ?_⟩⟩
 have hadd : (⟨w.heap.size, 0, none⟩ : Addr).add j = ⟨w.heap.size, j, none⟩ := by unfold Addr.add; split <;> simp_all
 have hj : j < s.size := by have := (List.getElem?_eq_some_iff.1 hu).1; rwa [List.length_map, bl_length] at this
 rw [hadd, Lib.bytesWorld_cell w _ s j hj, ← hu, List.getElem?_map, List.getElem?_eq_getElem (by rw [bl_length]; exact hj)]
 simp only [Option.map_some, cB, List.getD_eq_getElem?_getD]
 rw [List.getElem?_eq_getElem (by rw [bl_length]; exact hj)]
 rfl
def digs (x : Id) : B64 := ⟨hexL x.1, by rw [hexL_length, x.2]⟩
set_option maxRecDepth 100000 in
set_option maxHeartbeats 1600000 in
theorem digits_b (x : Id) (w : World) : Calls Tryz.prog 127 #[vI x] w fun e w' => e = .returned (vB64 (digs x)) ∧ Below w.heap.size w w' := by
 have hb1 := Below.step (below_alloc w (.cells (aI x) 34)) (below_alloc (w.alloc (.cells (aI x) 34)) (.cells (aB64 zB64) 158))
 have hat := (at_new w (cI x) 34 w.heap.size rfl).keep (below_alloc _ (.cells (aB64 zB64) 158))
 have hro : rowOk ((w.alloc (.cells (aI x) 34)).alloc (.cells (aB64 zB64) 158)) (w.heap.size + 1) 64 = true := rowOk_new64 _ zB64 _ _ (by simp)
 have HB := Lib.hid (And.intro hb1 (And.intro (Sl.ofAt hat) hro))
 clear hb1 hat hro
 have hs1 := slice33 w.heap.size
 go_enter Tryz.func127, Tryz.ntmps127
 go_wp2_with (go_at_call 166; refine (hex_b _ 32 32 x.1 _ x.2 HB.out.2.1 (by intro e; have := x.2; rw [e] at this; cases this) (by omega)).mono ?_; rintro e w1 ⟨rfl, hb1⟩; obtain ⟨c, w2, hcv, hb2, hat2⟩ := conv_sb w1 ⟨(hexL x.1).toArray⟩; rw [show (⟨(hexL x.1).toArray⟩ : ByteArray).size = 64 from (Lib.size_eq _).trans (digs x).2] at hcv; have har := array64 (some ⟨w1.heap.size, 0, none⟩) c w2; have hok2 := hat2.ok; have hrd2 := hat2.rd; rw [show ((bl ⟨(hexL x.1).toArray⟩).map cB).length = 64 from by rw [List.length_map]; exact (digs x).2] at hok2 hrd2; replace hrd2 : rdA w2 ⟨w1.heap.size, 0, none⟩ 64 = vB64 (digs x) := hrd2; have hr2 := rowOk_kept (rowOk_kept HB.out.2.2 hb1) hb2; have H1 := Lib.hid (And.intro (Below.step (Below.step HB.out.1 hb1) hb2) hr2); clear hb1 hb2 hat2)
 have hld := load_64 (x := digs x) (at_setRow ((digs x).1.map cB) H1.out.2)
 exact bodyPost_ret (results_c1 (ad := ⟨w.heap.size + 1, 0, none⟩) rfl rfl hld) rfl ⟨rfl, Below.setRow H1.out.1 (by omega) _⟩
def textL (x : Id) : List UInt8 := [60] ++ hexL x.1 ++ [64, 104, 97, 115, 104, 62]
theorem mk_append (a b : List UInt8) : (⟨a.toArray⟩ : ByteArray) ++ (⟨b.toArray⟩ : ByteArray) = ⟨(a ++ b).toArray⟩ := by
 apply ByteArray.ext
 simp
def sB64 (x : Id) : ByteArray := ⟨(digs x).1.toArray⟩
theorem sB64_text (x : Id) : ((⟨#[60]⟩ : ByteArray) ++ sB64 x) ++ (⟨#[64, 104, 97, 115, 104, 62]⟩ : ByteArray) = ⟨(textL x).toArray⟩ := by
 have h1 := mk_append [60] (digs x).1
 have h2 := mk_append ([60] ++ (digs x).1) [64, 104, 97, 115, 104, 62]
 exact (congrArg (· ++ (⟨#[64, 104, 97, 115, 104, 62]⟩ : ByteArray)) h1).trans h2
set_option maxRecDepth 100000 in
set_option maxHeartbeats 1600000 in
theorem print_m (x : Id) (w : World) : Calls Tryz.prog 88 #[vI x] w fun e w' => e = .returned (.string ⟨(textL x).toArray⟩) ∧ Below w.heap.size w w' := by
 have HB := Lib.hid (below_alloc w (.cells (aI x) 34))
 have hz : (sB64 x).size = 64 := (Lib.size_eq _).trans (digs x).2
 have HF := Lib.hid (sB64_text x)
 go_enter Tryz.func88, Tryz.ntmps88
 go_wp2_with (go_at_call 127; refine (digits_b x _).mono ?_; rintro e w1 ⟨rfl, hb1⟩; have hs1 := slice64 w1.heap.size; have hcv : (convert 23 9 (.slice (some ⟨w1.heap.size, 0, none⟩) 64 64)).run Tryz.prog (w1.alloc (.cells (aB64 (digs x)) 158)) = .ok (.string (sB64 x)) (w1.alloc (.cells (aB64 (digs x)) 158)) := conv_bs (c := 64) (Sl.ofAt (at_new w1 ((digs x).1.map cB) 158 w1.heap.size rfl)) (digs x).2 (by simp); have H1 := Lib.hid (Below.step (Below.step HB.out hb1) (below_alloc w1 (.cells (aB64 (digs x)) 158))); clear hb1)
 go_ret
 exact ⟨congrArg (fun s => Ending.returned (.string s)) HF.out, H1.out⟩
end
section
open Go.RowKit
set_option maxHeartbeats 400000 in
theorem skip_p (f : Nat) (p : UInt8 → Bool) (hc : ∀ c w, Calls Tryz.prog f #[vB c] w fun e w' => e = .returned (.bool (p c)) ∧ w = w') (hcf : ∀ (args : Array Value) (W : World), Sem.run Tryz.prog (callFunc f args) W = .ok (.enter f args) W) (s : ByteArray) (k : Nat) (w : World) (hk : k ≤ s.size) (hs : s.size ≤ 4611686018427387904) :
  Calls Tryz.prog 107 #[.string s, .int .i64 (k : Int), .func (.func f) #[] #[]] w fun e w' => e = .returned (.int .i64 ((k + runL p ((bl s).drop k) : Nat) : Int)) ∧ w = w' := by
 have HC := Lib.hid hc
 clear hc
 go_enter Tryz.func107, Tryz.ntmps107
 go_wp2
 go_loop [1] (fun i => ∃ j : Nat, j ≤ s.size ∧ i = .int .i64 j ∧ k + runL p ((bl s).drop k) = j + runL p ((bl s).drop j)) (fun i => s.size - (intOf i).toNat)
 case atStart => exact ⟨k, hk, rfl, rfl⟩
 case round =>
  obtain ⟨j, hj, rfl, he⟩ := hrel
  by_cases hlt : j < s.size
  ·rcases hp : p s[j] with _ | _
   ·rw [runL_no p s j hlt hp] at he
    have HE := Lib.hid he; clear he
    go_wp2_with (refine (HC.out _ _).mono ?_; rintro e w' ⟨rfl, rfl⟩; rw [hp])
    go_ret
    exact ⟨ret_int (by have := HE.out; omega), rfl⟩
   ·rw [runL_yes p s j hlt hp] at he
    have HE := Lib.hid he; clear he
    go_wp2_with (refine (HC.out _ _).mono ?_; rintro e w' ⟨rfl, rfl⟩; rw [hp])
    go_round
    case rel => exact ⟨j + 1, hlt, by go_num, by rw [HE.out]; omega⟩
    case measure => simp [intOf]; omega
  ·rw [runL_end p s j (by omega)] at he
   have HE := Lib.hid he; clear he
   have hjn : j = s.size := by omega
   subst hjn
   go_wp2
   go_ret
   exact ⟨ret_int (by have := HE.out; omega), rfl⟩
def numL (most : Int) : List UInt8 → Int → Int × Int
 | [], n => (n, 0)
 | c :: r, n => if most / 10 < n ∨ (n = most / 10 ∧ most % 10 < (c.toNat : Int) - 48) then (0, 2) else numL most r (10 * n + ((c.toNat : Int) - 48))
def numE (l : List UInt8) (most : Int) : Int × Int :=
 if l = [] ∨ runL digB l < l.length ∨ (1 < l.length ∧ l.getD 0 0 = 48) then (0, 3) else if most < 0 then (0, 2) else numL most l 0
set_option maxRecDepth 100000 in
set_option maxHeartbeats 1600000 in
theorem number29 (s : ByteArray) (most : Int) (hm0 : -9223372036854775808 ≤ most) (hm1 : most ≤ 9223372036854775807) (r : Int × Int) (hr : numE (bl s) most = r) (w : World) (hs : s.size ≤ 4294967296) :
  Calls Tryz.prog 65 #[.string s, .int .i64 most] w fun e w' => e = .returned (.tuple #[.int .i64 r.1, .int .i64 r.2]) ∧ w = w' := by
 have hcf : ∀ (args : Array Value) (W : World), Sem.run Tryz.prog (callFunc 108 args) W = .ok (.enter 108 args) W := enters_of Tryz.func108 (by kernel_rfl) rfl
 have hsk := skip_p 108 digB isDigit_b hcf s 0 w (Nat.zero_le _) (by omega)
 simp only [List.drop_zero, Nat.zero_add] at hsk
 obtain ⟨n, hn⟩ : ∃ n, runL digB (bl s) = n := ⟨_, rfl⟩
 have hle := runL_le digB (bl s)
 rw [bl_length, hn] at hle
 rw [hn] at hsk
 have HS := Lib.hid (And.intro hsk (And.intro hr hn))
 clear hsk hcf hr hn
 by_cases h0 : s.size = 0
 ·have hs0 : s = ⟨#[]⟩ := by
   have : s.data = #[] := Array.eq_empty_of_size_eq_zero h0
   cases s; simp_all
  subst hs0
  have hr := HS.out.2.1
  have hr2 : r = (0, 3) := by rw [← hr]; rfl
  subst hr2
  clear hr
  go_enter Tryz.func65, Tryz.ntmps65
  go_wp2
  go_ret2
  exact ⟨rfl, rfl⟩
 ·have hne2 : ¬ s.toList = [] := by
   rw [Lib.toList_data]
   intro h
   apply h0
   rw [← bl_length]
   simp [bl, h]
  have hemp : s.toList.isEmpty = false := by simpa using hne2
  have hne3 : ¬ bl s = [] := fun h => h0 (by rw [← bl_length, h]; rfl)
  by_cases h1 : n < s.size
  ·have hi1 : (n : Int) < (s.size : Int) := by omega
   have hr2 : r = (0, 3) := by rw [← HS.out.2.1]; unfold numE; rw [if_pos (.inr (.inl (by rw [HS.out.2.2, bl_length]; exact h1)))]
   subst hr2
   go_enter Tryz.func65, Tryz.ntmps65
   go_wp2_with (go_at_call 107; refine HS.out.1.mono ?_; rintro e w1 ⟨rfl, rfl⟩)
   all_goals
    go_ret2
    exact ⟨rfl, rfl⟩
  ·have hn1 : n = s.size := by omega
   subst hn1
   have hall := (runL_all digB (bl s)).1 (by rw [HS.out.2.2, bl_length])
   have hd : ∀ k (h : k < s.size), 48 ≤ s[k].toNat ∧ s[k].toNat ≤ 57 := fun k h => by
    have := List.all_eq_true.1 hall s[k] (List.getElem_mem (by rw [bl_length]; exact h) : (bl s)[k]'(by rw [bl_length]; exact h) ∈ bl s)
    unfold digB at this
    simp at this
    exact this
   have hlt0 : 0 < s.size := by omega
   have hi1 : (0 : Int) < (s.size : Int) := by omega
   have hg0 : (bl s).getD 0 0 = s[0] := by rw [List.getD_eq_getElem?_getD, List.getElem?_eq_getElem (by rw [bl_length]; exact hlt0)]; rfl
   have HD := Lib.hid (And.intro hd (And.intro hg0 hne3))
   clear hd hg0 hall hne3 hle
   by_cases hz : 1 < s.size ∧ (s[0].toNat : Int) = 48
   ·obtain ⟨hz1, hz2⟩ := hz
    have hi2 : (1 : Int) < (s.size : Int) := by omega
    have hr2 : r = (0, 3) := by
     rw [← HS.out.2.1]; unfold numE
     rw [if_pos (.inr (.inr ⟨by rw [bl_length]; exact hz1, by rw [HD.out.2.1]; exact UInt8.toNat_inj.1 (by simp; omega)⟩))]
    subst hr2
    go_enter Tryz.func65, Tryz.ntmps65
    go_wp2_with (go_at_call 107; refine HS.out.1.mono ?_; rintro e w1 ⟨rfl, rfl⟩)
    all_goals
     go_ret2
     exact ⟨rfl, rfl⟩
   ·have hr2 : r = if most < 0 then (0, 2) else numL most (bl s) 0 := by
     rw [← HS.out.2.1]; unfold numE
     rw [if_neg]
     rintro (h | h | ⟨h, h'⟩)
     ·exact HD.out.2.2 h
     ·rw [HS.out.2.2, bl_length] at h; omega
     ·rw [bl_length] at h
      rw [HD.out.2.1] at h'
      exact hz ⟨h, by rw [h']; rfl⟩
    have hz2 : 1 < s.size → ¬ (s[0].toNat : Int) = 48 := fun h h' => hz ⟨h, h'⟩
    clear hz
    by_cases h1s : 1 < s.size
    ·have hi2 : (1 : Int) < (s.size : Int) := by omega
     have hz3 : ((s[0].toNat : Int) == 48) = false := beq_eq_false_iff_ne.2 (hz2 h1s)
     clear hz2
     by_cases hneg : most < 0
     ·rw [if_pos hneg] at hr2
      subst hr2
      go_enter Tryz.func65, Tryz.ntmps65
      go_wp2_with (go_at_call 107; refine HS.out.1.mono ?_; rintro e w1 ⟨rfl, rfl⟩)
      all_goals
       go_ret2
       exact ⟨rfl, rfl⟩
     ·rw [if_neg hneg] at hr2
      have HR := Lib.hid hr2
      clear hr2
      have hmn : 0 ≤ most := by omega
      go_enter Tryz.func65, Tryz.ntmps65
      go_wp2_with (go_at_call 107; refine HS.out.1.mono ?_; rintro e w1 ⟨rfl, rfl⟩)
      go_loop [6, 32] (fun v i => ∃ (k : Nat) (a : Int), k ≤ s.size ∧ i = .int .i64 k ∧ v = .int .i64 a ∧ 0 ≤ a ∧ a ≤ most ∧ numL most ((bl s).drop k) a = r) (fun _ i => s.size - (intOf i).toNat)
      case atStart => exact ⟨0, 0, Nat.zero_le _, rfl, rfl, by omega, hmn, HR.out.symm⟩
      case round =>
       obtain ⟨k, a, hk, rfl, rfl, ha0, ha1, hnum⟩ := hrel
       by_cases hlt : k < s.size
       ·obtain ⟨hd1, hd2⟩ := HD.out.1 k hlt
        rw [bl_drop s k hlt] at hnum
        unfold numL at hnum
        have hd3 : (48 : Int) ≤ (s[k].toNat : Int) := by omega
        have hd4 : (s[k].toNat : Int) ≤ 57 := by omega
        by_cases hov : most / 10 < a ∨ (a = most / 10 ∧ most % 10 < (s[k].toNat : Int) - 48)
        ·rw [if_pos hov] at hnum
         subst hnum
         rcases hov with h | ⟨h, h'⟩
         ·go_wp2
          all_goals
           go_ret2
           exact ⟨rfl, rfl⟩
         ·subst h
          go_wp2
          all_goals
           go_ret2
           exact ⟨rfl, rfl⟩
        ·rw [if_neg hov] at hnum
         have hng : a ≤ most / 10 := by omega
         have hfit : 10 * a + ((s[k].toNat : Int) - 48) ≤ most := by omega
         have HO := Lib.hid hov
         clear hov
         go_wp2
         all_goals
          go_round
          case rel => exact ⟨k + 1, 10 * a + ((s[k].toNat : Int) - 48), by omega, by go_num, by first | rfl | (congr 1; omega), by omega, hfit, hnum⟩
          case measure => simp [intOf]; omega
       ·have hkn : k = s.size := by omega
        subst hkn
        rw [List.drop_eq_nil_of_le (by rw [bl_length]; exact Nat.le_refl _)] at hnum
        unfold numL at hnum
        subst hnum
        go_wp2
        go_ret2
        exact ⟨rfl, rfl⟩
    ·have hi2 : ¬ (1 : Int) < (s.size : Int) := by omega
     clear hz2
     by_cases hneg : most < 0
     ·rw [if_pos hneg] at hr2
      subst hr2
      go_enter Tryz.func65, Tryz.ntmps65
      go_wp2_with (go_at_call 107; refine HS.out.1.mono ?_; rintro e w1 ⟨rfl, rfl⟩)
      all_goals
       go_ret2
       exact ⟨rfl, rfl⟩
     ·rw [if_neg hneg] at hr2
      have HR := Lib.hid hr2
      clear hr2
      have hmn : 0 ≤ most := by omega
      go_enter Tryz.func65, Tryz.ntmps65
      go_wp2_with (go_at_call 107; refine HS.out.1.mono ?_; rintro e w1 ⟨rfl, rfl⟩)
      go_loop [6, 32] (fun v i => ∃ (k : Nat) (a : Int), k ≤ s.size ∧ i = .int .i64 k ∧ v = .int .i64 a ∧ 0 ≤ a ∧ a ≤ most ∧ numL most ((bl s).drop k) a = r) (fun _ i => s.size - (intOf i).toNat)
      case atStart => exact ⟨0, 0, Nat.zero_le _, rfl, rfl, by omega, hmn, HR.out.symm⟩
      case round =>
       obtain ⟨k, a, hk, rfl, rfl, ha0, ha1, hnum⟩ := hrel
       by_cases hlt : k < s.size
       ·obtain ⟨hd1, hd2⟩ := HD.out.1 k hlt
        rw [bl_drop s k hlt] at hnum
        unfold numL at hnum
        have hd3 : (48 : Int) ≤ (s[k].toNat : Int) := by omega
        have hd4 : (s[k].toNat : Int) ≤ 57 := by omega
        by_cases hov : most / 10 < a ∨ (a = most / 10 ∧ most % 10 < (s[k].toNat : Int) - 48)
        ·rw [if_pos hov] at hnum
         subst hnum
         rcases hov with h | ⟨h, h'⟩
         ·go_wp2
          all_goals
           go_ret2
           exact ⟨rfl, rfl⟩
         ·subst h
          go_wp2
          all_goals
           go_ret2
           exact ⟨rfl, rfl⟩
        ·rw [if_neg hov] at hnum
         have hng : a ≤ most / 10 := by omega
         have hfit : 10 * a + ((s[k].toNat : Int) - 48) ≤ most := by omega
         have HO := Lib.hid hov
         clear hov
         go_wp2
         all_goals
          go_round
          case rel => exact ⟨k + 1, 10 * a + ((s[k].toNat : Int) - 48), by omega, by go_num, by first | rfl | (congr 1; omega), by omega, hfit, hnum⟩
          case measure => simp [intOf]; omega
       ·have hkn : k = s.size := by omega
        subst hkn
        rw [List.drop_eq_nil_of_le (by rw [bl_length]; exact Nat.le_refl _)] at hnum
        unfold numL at hnum
        subst hnum
        go_wp2
        go_ret2
        exact ⟨rfl, rfl⟩
end
section
open Go.RowKit
set_option maxRecDepth 100000 in
set_option maxHeartbeats 400000 in
theorem digits28 (n : Int) (h0 : -9223372036854775808 ≤ n) (h1 : n ≤ 9223372036854775807) (w : World) (htab : Lib.TabIs Tryz.prog w "internal/strconv.uint64pow10" .u64 Lib.pow10Tab) :
  Calls Tryz.prog 25 #[.int .i64 n] w fun e w' => e = .returned (.string ⟨(Lib.itoa n).toArray⟩) ∧ Below w.heap.size w w' := by
 have H := Lib.hid (Tryz.strconv_Itoa n h0 h1 w htab)
 clear htab
 go_enter Tryz.func25, Tryz.ntmps25
 go_wp2_with (go_at_call 58; refine H.out.mono ?_; rintro e w1 ⟨rfl, k, os, rfl⟩; have HB := Lib.hid (Lib.below_grow w.heap.size w (Nat.le_refl _) k os))
 go_ret
 exact ⟨rfl, HB.out⟩
end
end Go.Proofs.YtibelollgdnidaaGreatDoor
