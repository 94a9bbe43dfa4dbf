/- BatchTampering is true for all items, places and bytes. -/
import Derived.Test.YtecalodcbkljoaaDoorMTrc
import Derived.Test.YtecalodcbkljoaaDoorMBrw
import Derived.Test.YtecalodcbkljoaaDoorMClx
namespace Go.Proofs.YtecalodcbkljoaaDoor
open Go.RowKit
theorem itemP_e9 {s : List UInt8} {a : Nat} {e : Int} {k : Nat} (h : itemP s a = .error (e, k)) : e ≠ 0 := by
  unfold itemP at h
  split at h
  · cases h
    decide
  · split at h
    · cases h
      decide
    · simp only [] at h
      split at h
      · cases h
        decide
      · split at h
        · cases h
          decide
        · split at h
          · cases h
            decide
          · cases h
theorem unp_e9 {s : List UInt8} {e : Int} {k : Nat} (h : unpackP s = .error (e, k)) : e ≠ 0 := by
  have hi : ∀ (n a : Nat) {e : Int} {k : Nat}, itemsP s n a = .error (e, k) → e ≠ 0 := by
    intro n
    induction n with
    | zero => intro a e k h; cases h
    | succ n ih =>
      intro a e k h
      unfold itemsP at h
      split at h
      · rename_i er hi
        obtain ⟨e1, k1⟩ := er
        cases h
        exact itemP_e9 hi
      · rename_i x b hx
        split at h
        · rename_i er hi
          obtain ⟨e1, k1⟩ := er
          cases h
          exact ih b hi
        · cases h
  unfold unpackP at h
  split at h
  · cases h
    decide
  · split at h
    · rename_i er hf
      cases h
      unfold firstP at hf
      split at hf
      · cases hf
        decide
      · split at hf
        · cases hf
        · cases hf
          decide
    · split at h
      · rename_i er hs
        obtain ⟨e1, k1⟩ := er
        cases h
        exact hi _ _ hs
      · split at h
        · rename_i er hl
          cases h
          unfold lastP at hl
          split at hl
          · cases hl
            decide
          · split at hl
            · cases hl
              decide
            · split at hl
              · cases hl
                decide
              · cases hl
        · cases h
theorem hexL_inj {a b : List UInt8} (h : hexL a = hexL b) : a = b := by rw [← unhex_hex a, h, unhex_hex]
theorem coll_of {x y : It} (h1 : x ≠ y) (h2 : digT x = digT y) : collB x y = true := by
  have h3 : (sha (msgL x)).take 16 = (sha (msgL y)).take 16 := hexL_inj h2
  unfold collB
  rw [decide_eq_false h1, decide_eq_true h3]
  rfl
set_option maxRecDepth 100000 in
set_option maxHeartbeats 12800000 in
theorem tampering_law (A : Option Addr) (c : Nat) (l : List It) (h : Int) (y : UInt8) (w : World) (hs : Sl w cX A l) (hc : l.length ≤ c) (_hm : c ≤ maxLen) (hh : 0 ≤ h ∧ h < 65536) (hL : Laid w) : Calls Tryd.prog 3 #[.slice A l.length c, .int .u16 h, vB y] w fun e w' => e = .returned (.bool true) ∧ Below w.heap.size w w' := by
  have HB := Lib.hid (toL_big l)
  obtain ⟨X, hX⟩ : ∃ X, toL l = X := ⟨_, rfl⟩
  rw [hX] at HB
  have HX10 := Lib.hid (show X.length ≤ 10 by rw [← hX]; exact toL_len l)
  obtain ⟨S, hS⟩ : ∃ S, batS X = S := ⟨_, rfl⟩
  obtain ⟨a, ha⟩ : ∃ a : Nat, h.toNat % S.size = a := ⟨_, rfl⟩
  obtain ⟨u, hu⟩ : ∃ u : Nat, h = (u : Int) := ⟨h.toNat, by omega⟩
  subst hu
  have hsz : S.size = (batL X).length := by rw [← hS, batS_size]
  have hpos : 0 < S.size := by have := HB.out.2.2.2.2; omega
  have hlt : a < S.size := by rw [← ha]; exact Nat.mod_lt _ hpos
  have hmod : (u : Int) % (S.size : Int) = (a : Int) := by rw [← ha]; simp
  have htm : Int.tmod (u : Int) (S.size : Int) = (a : Int) := by rw [Int.tmod_eq_emod_of_nonneg (by omega)]; exact hmod
  have hz0 : ¬ (S.size : Int) = 0 := by omega
  have hai : (a : Int) < (S.size : Int) := by omega
  have hu6 : (u : Int) < 65536 := hh.2
  have hS5 : (S.size : Int) ≤ 4194304 := by have := HB.out.2.2.2.1; omega
  have HXE := Lib.hid hX
  have HSE := Lib.hid (And.intro hS hsz)
  have H0 := Lib.hid (And.intro hs (And.intro hc hL))
  have HLT := Lib.hid hlt
  clear hs hc hL hX hS ha hh hsz
  by_cases hy : y = 0
  · subst hy
    go_enter Tryd.func3, Tryd.ntmps3
    go_wp2_with (first
      | (go_at_call 7
         refine (to_b A c l _ H0.out.1 H0.out.2.1).mono ?_
         rintro e w1 ⟨v1, rfl, ho1, hb1⟩
         rw [HXE.out] at ho1
         obtain ⟨A1, d1, rfl, hd1, hs1⟩ := ho1.sl
         have H1 := Lib.hid (And.intro hb1 hs1)
         clear hb1 ho1 hd1 hs1)
      | (go_at_call 8
         refine (rtext_b A1 d1 X _ H1.out.2 HB.out.1 HB.out.2.1).mono ?_
         rintro e w2 ⟨rfl, hb2⟩
         rw [HSE.out.1]
         obtain ⟨c3, w3, hcv, hb3, -, -, -⟩ := conv_brow w2 S
         have H3 := Lib.hid (Below.step (Below.step H1.out.1 hb2) hb3)
         clear hb2 hb3)
      | (go_at_call 9
         have hh := H3
         clear hh
         refine (known_c _ (H0.out.2.2.keep H3.out)).mono ?_
         rintro e w4 ⟨rfl, hb4⟩
         have H4 := Lib.hid (Below.step H3.out hb4)
         clear hb4 H3)
      | (go_at_call 9
         refine (known_c _ (H0.out.2.2.keep H4.out)).mono ?_
         rintro e w5 ⟨rfl, hb5⟩
         have H5 := Lib.hid (Below.step H4.out hb5)
         clear hb5))
    go_ret
    exact ⟨rfl, H5.out⟩
  have hyb : ((y.toNat : Int) == 0) = false := by
    rw [beq_eq_false_iff_ne]
    intro e
    exact hy (UInt8.toNat_inj.1 (by show y.toNat = 0; omega))
  obtain ⟨x0, hx0⟩ : ∃ x0, (bl S)[a]? = some x0 := ⟨_, List.getElem?_eq_getElem (by rw [bl_length]; exact hlt)⟩
  have hxo := b_xor x0 y
  obtain ⟨v0, hv0⟩ : ∃ v : Nat, (x0 ^^^ y).toNat = v := ⟨_, rfl⟩
  rw [hv0] at hxo
  have HV0 := Lib.hid hv0
  clear hv0
  obtain ⟨Q, hQ⟩ : ∃ Q, mkS ((bl S).set a (x0 ^^^ y)) = Q := ⟨_, rfl⟩
  have hbQ : bl Q = (bl S).set a (x0 ^^^ y) := by rw [← hQ, bl_mkS]
  have HQ := Lib.hid (show bl Q = (bl S).set a (x0 ^^^ y) ∧ (bl S)[a]? = some x0 ∧ y ≠ 0 ∧ Q.size ≤ 1073741824 ∧ mkS ((bl S).set a (x0 ^^^ y)) = Q from ⟨hbQ, hx0, hy, by rw [← bl_length, hbQ, List.length_set, bl_length]; omega, hQ⟩)
  have HSA := Lib.hid (And.intro H0.out.2.2 (show (bl S).length = S.size from bl_length S))
  clear hy hx0 hQ hbQ
  obtain ⟨N, hN⟩ : ∃ N, X.length = N := ⟨_, rfl⟩
  have HN := Lib.hid hN
  clear hN
  cases hun : unpackP (bl Q) with
  | error er =>
    obtain ⟨e9, k9⟩ := er
    have HU := Lib.hid hun
    have he9 : e9 ≠ 0 := unp_e9 hun
    have hei : (e9 != 0) = true := by simpa using he9
    clear hun he9
    go_enter Tryd.func3, Tryd.ntmps3
    go_wp2_with (first
      | (go_at_call 7
         refine (to_b A c l _ H0.out.1 H0.out.2.1).mono ?_
         rintro e w1 ⟨v1, rfl, ho1, hb1⟩
         rw [HXE.out] at ho1
         obtain ⟨A1, d1, rfl, hd1, hs1⟩ := ho1.sl
         have H1 := Lib.hid (And.intro hb1 hs1)
         clear hb1 ho1 hd1 hs1)
      | (go_at_call 8
         refine (rtext_b A1 d1 X _ H1.out.2 HB.out.1 HB.out.2.1).mono ?_
         rintro e w2 ⟨rfl, hb2⟩
         rw [HSE.out.1]
         obtain ⟨c3, w3, hcv, hb3, hr3, -, -⟩ := conv_brow w2 S
         have H3 := Lib.hid (show Below w.heap.size w w3 ∧ BRow w3 w2.heap.size (bl S) ∧ w.heap.size ≤ w2.heap.size from ⟨Below.step (Below.step H1.out.1 hb2) hb3, hr3, (Below.step H1.out.1 hb2).size⟩)
         clear hb2 hb3 hr3)
      | (go_at_call 9
         refine (known_c _ (H0.out.2.2.keep H3.out.1)).mono ?_
         rintro e w4 ⟨rfl, hb4⟩
         obtain ⟨g, hg⟩ : ∃ g, w2.heap.size = g := ⟨_, rfl⟩
         rw [hg] at H3
         have hr4 := H3.out.2.1.keep hb4
         have k1 : w4.cell? ⟨g, a, none⟩ = some (.int .u8 (x0.toNat : Int)) := hr4.cell a x0 HQ.out.2.1
         have k2 := hr4.fz a (by rw [HSA.out.2]; exact HLT.out)
         obtain ⟨W5, hW5⟩ : ∃ W5, w4.setCell ⟨g, a, none⟩ (.int .u8 (v0 : Int)) = W5 := ⟨_, rfl⟩
         have hr5 : BRow W5 g ((bl S).set a (x0 ^^^ y)) := (by rw [← hW5, ← HV0.out]; exact hr4.set a (x0 ^^^ y) (by rw [HSA.out.2]; exact HLT.out))
         have hb5 : Below w.heap.size w W5 := (by rw [← hW5]; exact (Below.step H3.out.1 hb4).trans ((One.set (g := g) a _).below H3.out.2.2 (Below.step H3.out.1 hb4).size))
         have hcv2 : (convert 26 9 (.slice (some ⟨g, 0, none⟩) S.size c3)).run Tryd.prog W5 = .ok (.string Q) W5 := (by have := conv_any (n := S.size) (c := c3) hr5.sl (by rw [List.length_set, HSA.out.2]); rw [this]; exact congrArg (fun z => Result.ok (Value.string z) W5) HQ.out.2.2.2.2)
         have H5 := Lib.hid hb5
         clear hb4 hr4 hr5 hb5)
      | (go_at_call 10
         refine (unpack_s Q _ (H0.out.2.2.keep H5.out) HQ.out.2.2.2.1).mono ?_
         rintro e w6 hu6
         rw [HU.out] at hu6
         obtain ⟨A6, c6, rfl, hb6⟩ := hu6.fail
         have H6 := Lib.hid (Below.step H5.out hb6)
         clear hu6 hb6))
    go_ret
    exact ⟨rfl, H6.out⟩
  | ok m =>
    obtain ⟨m1, m2, m3, m4⟩ := unpackP_back hun
    have hcol : ∃ (i : Nat) (p q : It), X[i]? = some p ∧ m[i]? = some q ∧ collB p q = true := by
      have hb : bl Q = batL m := m1
      have hbX : bl S = batL X := by rw [← HSE.out.1, bl_batS]
      rw [HQ.out.1, hbX] at hb
      rcases batL_ham X m HB.out.2.2.1 m4 (by rw [← hb, List.length_set]) (by rw [← hb]; exact ham_set _ _ _) with e | ⟨i, p, q, h1, h2, h3, h4⟩
      · exfalso
        rw [← e] at hb
        have h5 := congrArg (fun z => z[a]?) hb
        have h6 := HQ.out.2.1
        rw [hbX] at h6
        change ((batL X).set a (x0 ^^^ y))[a]? = (batL X)[a]? at h5
        rw [List.getElem?_set_self (by have := (List.getElem?_eq_some_iff.1 h6).1; exact this), h6] at h5
        exact xor_ne HQ.out.2.2.1 (Option.some.inj h5)
      · exact ⟨i, p, q, h1, h2, coll_of h3 h4⟩
    obtain ⟨i0, p0, q0, hp0, hq0, hc0⟩ := hcol
    obtain ⟨M, hM⟩ : ∃ M, m.length = M := ⟨_, rfl⟩
    have HU := Lib.hid hun
    have HM := Lib.hid (show m.length = M ∧ m.length ≤ 1000 ∧ (∀ x ∈ m, x.text.size ≤ 65536) from ⟨hM, m2, m4⟩)
    have HC := Lib.hid (And.intro hp0 (And.intro hq0 hc0))
    clear hun m1 m2 m3 m4 hM hp0 hq0 hc0
    go_enter Tryd.func3, Tryd.ntmps3
    go_wp2_with (first
      | (go_at_call 7
         refine (to_b A c l _ H0.out.1 H0.out.2.1).mono ?_
         rintro e w1 ⟨v1, rfl, ho1, hb1⟩
         rw [HXE.out] at ho1
         obtain ⟨A1, d1, rfl, hd1, hs1⟩ := ho1.sl
         have H1 := Lib.hid (And.intro hb1 hs1)
         clear hb1 ho1 hd1 hs1)
      | (go_at_call 8
         refine (rtext_b A1 d1 X _ H1.out.2 HB.out.1 HB.out.2.1).mono ?_
         rintro e w2 ⟨rfl, hb2⟩
         rw [HSE.out.1]
         obtain ⟨c3, w3, hcv, hb3, hr3, -, -⟩ := conv_brow w2 S
         have H3 := Lib.hid (show Below w.heap.size w w3 ∧ BRow w3 w2.heap.size (bl S) ∧ w.heap.size ≤ w2.heap.size ∧ Sl w3 cX A1 X ∧ (X ≠ [] → ∃ ad, A1 = some ad ∧ ad.block < w2.heap.size) from ⟨Below.step (Below.step H1.out.1 hb2) hb3, hr3, (Below.step H1.out.1 hb2).size, (H1.out.2.keep hb2).keep hb3, fun hx => by obtain ⟨ad, h1, h2, -⟩ := (H1.out.2.keep hb2) hx; exact ⟨ad, h1, h2⟩⟩)
         rw [HN.out]
         clear hb2 hb3 hr3)
      | (go_at_call 9
         refine (known_c _ (H0.out.2.2.keep H3.out.1)).mono ?_
         rintro e w4 ⟨rfl, hb4⟩
         obtain ⟨g, hg⟩ : ∃ g, w2.heap.size = g := ⟨_, rfl⟩
         rw [hg] at H3
         have hr4 := H3.out.2.1.keep hb4
         have k1 : w4.cell? ⟨g, a, none⟩ = some (.int .u8 (x0.toNat : Int)) := hr4.cell a x0 HQ.out.2.1
         have k2 := hr4.fz a (by rw [HSA.out.2]; exact HLT.out)
         obtain ⟨W5, hW5⟩ : ∃ W5, w4.setCell ⟨g, a, none⟩ (.int .u8 (v0 : Int)) = W5 := ⟨_, rfl⟩
         have hr5 : BRow W5 g ((bl S).set a (x0 ^^^ y)) := (by rw [← hW5, ← HV0.out]; exact hr4.set a (x0 ^^^ y) (by rw [HSA.out.2]; exact HLT.out))
         have hb5 : Below w.heap.size w W5 := (by rw [← hW5]; exact (Below.step H3.out.1 hb4).trans ((One.set (g := g) a _).below H3.out.2.2.1 (Below.step H3.out.1 hb4).size))
         have hsx : Sl W5 cX A1 X := (by
           have hsl4 := H3.out.2.2.2.1.keep hb4
           intro hx
           obtain ⟨ad, e1, h1⟩ := H3.out.2.2.2.2 hx
           obtain ⟨ad2, e2, h2, h3⟩ := hsl4 hx
           obtain rfl : ad = ad2 := Option.some.inj (e1.symm.trans e2)
           refine ⟨ad, e1, by rw [← hW5]; simpa [World.setCell] using h2, fun j v hv => ?_⟩
           rw [← h3 j v hv]
           refine World.cell?_of_block ?_
           rw [block_of_add, ← hW5]
           exact heap_set_other _ _ _ _ _ (by omega))
         have hcv2 : (convert 26 9 (.slice (some ⟨g, 0, none⟩) S.size c3)).run Tryd.prog W5 = .ok (.string Q) W5 := (by have := conv_any (n := S.size) (c := c3) hr5.sl (by rw [List.length_set, HSA.out.2]); rw [this]; exact congrArg (fun z => Result.ok (Value.string z) W5) HQ.out.2.2.2.2)
         have H5 := Lib.hid (And.intro hb5 hsx)
         clear hb4 hr4 hr5 hb5 hsx)
      | (go_at_call 10
         refine (unpack_s Q _ (H0.out.2.2.keep H5.out.1) HQ.out.2.2.2.1).mono ?_
         rintro e w6 hu6
         rw [HU.out] at hu6
         obtain ⟨A6, c6, rfl, -, hs6, hb6⟩ := hu6.good
         rw [HM.out.1]
         have H6 := Lib.hid (show Below w.heap.size w w6 ∧ Sl w6 cX A1 X ∧ Sl w6 cX A6 m from ⟨Below.step H5.out.1 hb6, H5.out.2.keep hb6, hs6⟩)
         clear hu6 hb6 hs6))
    clear k1 k2 hW5 hcv hcv2
    go_loopw [12] (fun i wr => ∃ k : Nat, k ≤ i0 ∧ i = .int .i64 (k : Int) ∧ Below w6.heap.size w6 wr) (fun i _ => i0 - (intOf i).toNat)
    case atStart => exact ⟨0, Nat.zero_le _, rfl, Below.refl _ _⟩
    case round =>
      obtain ⟨k, hk, rfl, hb⟩ := hrel
      have HBB := Lib.hid hb
      have HBx := HB
      have HB := Lib.hid (Below.step H6.out.1 hb)
      have h1 := (List.getElem?_eq_some_iff.1 HC.out.1).1
      have h2 := (List.getElem?_eq_some_iff.1 HC.out.2.1).1
      have hkX : k < X.length := by omega
      have hkm' : k < m.length := by omega
      have hki : (k : Int) < (N : Int) := by have := HN.out; omega
      have hkm : (k : Int) < (M : Int) := by have := HM.out.1; omega
      have hn1 : (N : Int) ≤ 1000 ∧ (M : Int) ≤ 1000 := by have := HN.out; have := HM.out.1; have := HM.out.2.1; have := HX10.out; omega
      obtain ⟨ad, rfl, hat⟩ := Sl.at_ cX_length (H6.out.2.1.keep hb) hkX
      obtain ⟨od, rfl, hbt⟩ := Sl.at_ cX_length (H6.out.2.2.keep hb) hkm'
      obtain ⟨x, hx⟩ : ∃ x, X[k] = x := ⟨_, rfl⟩
      obtain ⟨z, hz⟩ : ∃ z, m[k] = z := ⟨_, rfl⟩
      rw [hx] at hat
      rw [hz] at hbt
      have HAX := Lib.hid hat
      have HAZ := Lib.hid hbt
      have HXS := Lib.hid (show x.text.size ≤ 1000000 ∧ z.text.size ≤ 1000000 from ⟨HBx.out.2.1 x (by rw [← hx]; exact List.getElem_mem _), by have := HM.out.2.2 z (by rw [← hz]; exact List.getElem_mem _); omega⟩)
      have hHI : (collB x z = true) ∨ k < i0 := by
        by_cases e : k = i0
        · left
          subst e
          have e1 := HC.out.1
          have e2 := HC.out.2.1
          rw [List.getElem?_eq_getElem hkX, hx] at e1
          rw [List.getElem?_eq_getElem hkm', hz] at e2
          rw [Option.some.inj e1, Option.some.inj e2]
          exact HC.out.2.2
        · right
          omega
      have HHI := Lib.hid hHI
      clear hb hat hbt hx hz hHI h1 h2 hkX hkm'
      cases hcb : collB x z with
      | true =>
        have HCB := Lib.hid hcb
        clear hcb
        go_wp2_with fail
        refine AnyO.wp_any_tail 15 (by kernel_rfl) (by kernel_rfl) (by kernel_rfl) (by kernel_rfl) (by kernel_rfl) (by kernel_rfl) (pstP [isV (.slice (some ad) N d1), isV (.int .i64 (k : Int)), isV (.pointer (some (ad.add (k * 33)))), isV (vX x), isV (.slice (some od) M c6), isV (.int .i64 (k : Int)), isV (.pointer (some (od.add (k * 33)))), isV (.pointer (some (od.add (k * 33)))), isV (vI z.id), isV (.slice (some od) M c6), isV (.int .i64 (k : Int)), isV (.pointer (some (od.add (k * 33)))), isV (.pointer (some ⟨(od.add (k * 33)).block, (od.add (k * 33)).off + 32, none⟩)), isV (.string z.text), isV (vX z)]) (MonoL.cons (Mono.v _) (MonoL.cons (Mono.v _) (MonoL.cons (Mono.v _) (MonoL.cons (Mono.v _) (MonoL.cons (Mono.v _) (MonoL.cons (Mono.v _) (MonoL.cons (Mono.v _) (MonoL.cons (Mono.v _) (MonoL.cons (Mono.v _) (MonoL.cons (Mono.v _) (MonoL.cons (Mono.v _) (MonoL.cons (Mono.v _) (MonoL.cons (Mono.v _) (MonoL.cons (Mono.v _) (MonoL.cons (Mono.v _) MonoL.nil))))))))))))))) ?_ ?_
        · intro i hi
          have hi2 : i = 0 ∨ i = 1 ∨ i = 2 ∨ i = 3 ∨ i = 4 ∨ i = 5 ∨ i = 6 ∨ i = 7 ∨ i = 8 ∨ i = 9 ∨ i = 10 ∨ i = 11 ∨ i = 12 ∨ i = 13 ∨ i = 14 := by omega
          clear hi
          rcases hi2 with rfl | rfl | rfl | rfl | rfl | rfl | rfl | rfl | rfl | rfl | rfl | rfl | rfl | rfl | rfl
          · -- 0: Op.move (Operand.tmp 7)
            refine AnyO.Step.mk rfl [] (by kernel_rfl) ?_
            intro vs u hE hp ac hb K hK
            have s7 : ac.tmps[7]?.getD undef = .slice (some ad) N d1 := by rw [hb]; kernel_rfl
            rw [if_pos (AnyO.wanted_none rfl)]
            clear hb hp
            go_simp
            exact hK _ _ (Below.refl _ _) rfl
          · -- 1: Op.move (Operand.tmp 12)
            refine AnyO.Step.mk rfl [] (by kernel_rfl) ?_
            intro vs u hE hp ac hb K hK
            have s12 : ac.tmps[12]?.getD undef = .int .i64 (k : Int) := by rw [hb]; kernel_rfl
            rw [if_pos (AnyO.wanted_none rfl)]
            clear hb hp
            go_simp
            exact hK _ _ (Below.refl _ _) rfl
          · -- 2: Op.indexAddr 24 (Operand.tmp 60) (Operand.tmp 61)
            refine AnyO.Step.mk rfl [0, 1] (by kernel_rfl) ?_
            intro vs u hE hp ac hb K hK
            have s60 : ac.tmps[60]?.getD undef = .slice (some ad) N d1 := by rw [hb]; exact (show _ = vs 0 by kernel_rfl).trans (hp 0 (by decide))
            have s61 : ac.tmps[61]?.getD undef = .int .i64 (k : Int) := by rw [hb]; exact (show _ = vs 1 by kernel_rfl).trans (hp 1 (by decide))
            rw [if_pos (AnyO.wanted_none rfl)]
            clear hb hp
            have r1 := hki
            have r2 := hn1
            go_simp
            exact hK _ _ (Below.refl _ _) rfl
          · -- 3: Op.load 36 (Operand.tmp 62)
            refine AnyO.Step.mk rfl [2] (by kernel_rfl) ?_
            intro vs u hE hp ac hb K hK
            have s62 : ac.tmps[62]?.getD undef = .pointer (some (ad.add (k * 33))) := by rw [hb]; exact (show _ = vs 2 by kernel_rfl).trans (hp 2 (by decide))
            rw [if_pos (AnyO.wanted_none rfl)]
            clear hb hp
            obtain ⟨r1, r2⟩ := at_X (HAX.out.keep (Below.step (below_drew wr) hE))
            go_simp
            exact hK _ _ (Below.refl _ _) rfl
          · -- 4: Op.move (Operand.tmp 9)
            refine AnyO.Step.mk rfl [] (by kernel_rfl) ?_
            intro vs u hE hp ac hb K hK
            have s9 : ac.tmps[9]?.getD undef = .slice (some od) M c6 := by rw [hb]; kernel_rfl
            rw [if_pos (AnyO.wanted_none rfl)]
            clear hb hp
            go_simp
            exact hK _ _ (Below.refl _ _) rfl
          · -- 5: Op.move (Operand.tmp 12)
            refine AnyO.Step.mk rfl [] (by kernel_rfl) ?_
            intro vs u hE hp ac hb K hK
            have s12 : ac.tmps[12]?.getD undef = .int .i64 (k : Int) := by rw [hb]; kernel_rfl
            rw [if_pos (AnyO.wanted_none rfl)]
            clear hb hp
            go_simp
            exact hK _ _ (Below.refl _ _) rfl
          · -- 6: Op.indexAddr 22 (Operand.tmp 64) (Operand.tmp 65)
            refine AnyO.Step.mk rfl [4, 5] (by kernel_rfl) ?_
            intro vs u hE hp ac hb K hK
            have s64 : ac.tmps[64]?.getD undef = .slice (some od) M c6 := by rw [hb]; exact (show _ = vs 4 by kernel_rfl).trans (hp 4 (by decide))
            have s65 : ac.tmps[65]?.getD undef = .int .i64 (k : Int) := by rw [hb]; exact (show _ = vs 5 by kernel_rfl).trans (hp 5 (by decide))
            rw [if_pos (AnyO.wanted_none rfl)]
            clear hb hp
            have r1 := hkm
            have r2 := hn1
            go_simp
            exact hK _ _ (Below.refl _ _) rfl
          · -- 7: Op.fieldAddr 39 (Operand.tmp 66) 0
            refine AnyO.Step.mk rfl [6] (by kernel_rfl) ?_
            intro vs u hE hp ac hb K hK
            have s66 : ac.tmps[66]?.getD undef = .pointer (some (od.add (k * 33))) := by rw [hb]; exact (show _ = vs 6 by kernel_rfl).trans (hp 6 (by decide))
            rw [if_pos (AnyO.wanted_none rfl)]
            clear hb hp
            go_simp
            exact hK _ _ (Below.refl _ _) rfl
          · -- 8: Op.load 37 (Operand.tmp 67)
            refine AnyO.Step.mk rfl [7] (by kernel_rfl) ?_
            intro vs u hE hp ac hb K hK
            have s67 : ac.tmps[67]?.getD undef = .pointer (some (od.add (k * 33))) := by rw [hb]; exact (show _ = vs 7 by kernel_rfl).trans (hp 7 (by decide))
            rw [if_pos (AnyO.wanted_none rfl)]
            clear hb hp
            obtain ⟨r1, r2, -⟩ := at_idX (HAZ.out.keep (Below.step (below_drew wr) hE))
            go_simp
            exact hK _ _ (Below.refl _ _) rfl
          · -- 9: Op.move (Operand.tmp 9)
            refine AnyO.Step.mk rfl [] (by kernel_rfl) ?_
            intro vs u hE hp ac hb K hK
            have s9 : ac.tmps[9]?.getD undef = .slice (some od) M c6 := by rw [hb]; kernel_rfl
            rw [if_pos (AnyO.wanted_none rfl)]
            clear hb hp
            go_simp
            exact hK _ _ (Below.refl _ _) rfl
          · -- 10: Op.move (Operand.tmp 12)
            refine AnyO.Step.mk rfl [] (by kernel_rfl) ?_
            intro vs u hE hp ac hb K hK
            have s12 : ac.tmps[12]?.getD undef = .int .i64 (k : Int) := by rw [hb]; kernel_rfl
            rw [if_pos (AnyO.wanted_none rfl)]
            clear hb hp
            go_simp
            exact hK _ _ (Below.refl _ _) rfl
          · -- 11: Op.indexAddr 22 (Operand.tmp 69) (Operand.tmp 70)
            refine AnyO.Step.mk rfl [9, 10] (by kernel_rfl) ?_
            intro vs u hE hp ac hb K hK
            have s69 : ac.tmps[69]?.getD undef = .slice (some od) M c6 := by rw [hb]; exact (show _ = vs 9 by kernel_rfl).trans (hp 9 (by decide))
            have s70 : ac.tmps[70]?.getD undef = .int .i64 (k : Int) := by rw [hb]; exact (show _ = vs 10 by kernel_rfl).trans (hp 10 (by decide))
            rw [if_pos (AnyO.wanted_none rfl)]
            clear hb hp
            have r1 := hkm
            have r2 := hn1
            go_simp
            exact hK _ _ (Below.refl _ _) rfl
          · -- 12: Op.fieldAddr 39 (Operand.tmp 71) 1
            refine AnyO.Step.mk rfl [11] (by kernel_rfl) ?_
            intro vs u hE hp ac hb K hK
            have s71 : ac.tmps[71]?.getD undef = .pointer (some (od.add (k * 33))) := by rw [hb]; exact (show _ = vs 11 by kernel_rfl).trans (hp 11 (by decide))
            rw [if_pos (AnyO.wanted_none rfl)]
            clear hb hp
            go_simp
            exact hK _ _ (Below.refl _ _) rfl
          · -- 13: Op.load 9 (Operand.tmp 72)
            refine AnyO.Step.mk rfl [12] (by kernel_rfl) ?_
            intro vs u hE hp ac hb K hK
            have s72 : ac.tmps[72]?.getD undef = .pointer (some ⟨(od.add (k * 33)).block, (od.add (k * 33)).off + 32, none⟩) := by rw [hb]; exact (show _ = vs 12 by kernel_rfl).trans (hp 12 (by decide))
            rw [if_pos (AnyO.wanted_none rfl)]
            clear hb hp
            obtain ⟨-, -, r1⟩ := at_idX (HAZ.out.keep (Below.step (below_drew wr) hE))
            go_simp
            exact hK _ _ (Below.refl _ _) rfl
          · -- 14: Op.build 36 #[(0, Operand.tmp 68), (1, Operand.tmp 73)]
            refine AnyO.Step.mk rfl [8, 13] (by kernel_rfl) ?_
            intro vs u hE hp ac hb K hK
            have s68 : ac.tmps[68]?.getD undef = vI z.id := by rw [hb]; exact (show _ = vs 8 by kernel_rfl).trans (hp 8 (by decide))
            have s73 : ac.tmps[73]?.getD undef = .string z.text := by rw [hb]; exact (show _ = vs 13 by kernel_rfl).trans (hp 13 (by decide))
            rw [if_pos (AnyO.wanted_none rfl)]
            clear hb hp
            go_simp
            exact hK _ _ (Below.refl _ _) rfl
        · intro vs u hE hp
          have e0 : vs 0 = .slice (some ad) N d1 := hp 0 (by decide)
          have e1 : vs 1 = .int .i64 (k : Int) := hp 1 (by decide)
          have e2 : vs 2 = .pointer (some (ad.add (k * 33))) := hp 2 (by decide)
          have e3 : vs 3 = vX x := hp 3 (by decide)
          have e4 : vs 4 = .slice (some od) M c6 := hp 4 (by decide)
          have e5 : vs 5 = .int .i64 (k : Int) := hp 5 (by decide)
          have e6 : vs 6 = .pointer (some (od.add (k * 33))) := hp 6 (by decide)
          have e7 : vs 7 = .pointer (some (od.add (k * 33))) := hp 7 (by decide)
          have e8 : vs 8 = vI z.id := hp 8 (by decide)
          have e9 : vs 9 = .slice (some od) M c6 := hp 9 (by decide)
          have e10 : vs 10 = .int .i64 (k : Int) := hp 10 (by decide)
          have e11 : vs 11 = .pointer (some (od.add (k * 33))) := hp 11 (by decide)
          have e12 : vs 12 = .pointer (some ⟨(od.add (k * 33)).block, (od.add (k * 33)).off + 32, none⟩) := hp 12 (by decide)
          have e13 : vs 13 = .string z.text := hp 13 (by decide)
          have e14 : vs 14 = vX z := hp 14 (by decide)
          clear hp
          have HE := Lib.hid hE
          clear hE
          rw [puts_range [some 60, some 61, some 62, some 63, some 64, some 65, some 66, some 67, some 68, some 69, some 70, some 71, some 72, some 73, some 74] (by kernel_rfl)]
          simp only [putL, Nat.reduceAdd, List.drop_succ_cons, List.drop_zero, e0, e1, e2, e3, e4, e5, e6, e7, e8, e9, e10, e11, e12, e13, e14]
          clear e0 e1 e2 e3 e4 e5 e6 e7 e8 e9 e10 e11 e12 e13 e14
          go_simp
          go_wp2_with (go_at_call 11; refine (collide_b x z u HXS.out.1 HXS.out.2).mono ?_; rintro e w9 ⟨rfl, hb9⟩; rw [HCB.out]; have H9 := Lib.hid (Below.step (Below.step HB.out HE.out) hb9); clear hb9)
          go_ret
          exact ⟨rfl, H9.out⟩
      | false =>
        have HLK := Lib.hid (show k < i0 from by
          rcases HHI.out with h | h
          · rw [hcb] at h
            cases h
          · exact h)
        have HCB := Lib.hid hcb
        clear hcb
        go_wp2_with fail
        refine AnyO.wp_any_tail 15 (by kernel_rfl) (by kernel_rfl) (by kernel_rfl) (by kernel_rfl) (by kernel_rfl) (by kernel_rfl) (pstP [isV (.slice (some ad) N d1), isV (.int .i64 (k : Int)), isV (.pointer (some (ad.add (k * 33)))), isV (vX x), isV (.slice (some od) M c6), isV (.int .i64 (k : Int)), isV (.pointer (some (od.add (k * 33)))), isV (.pointer (some (od.add (k * 33)))), isV (vI z.id), isV (.slice (some od) M c6), isV (.int .i64 (k : Int)), isV (.pointer (some (od.add (k * 33)))), isV (.pointer (some ⟨(od.add (k * 33)).block, (od.add (k * 33)).off + 32, none⟩)), isV (.string z.text), isV (vX z)]) (MonoL.cons (Mono.v _) (MonoL.cons (Mono.v _) (MonoL.cons (Mono.v _) (MonoL.cons (Mono.v _) (MonoL.cons (Mono.v _) (MonoL.cons (Mono.v _) (MonoL.cons (Mono.v _) (MonoL.cons (Mono.v _) (MonoL.cons (Mono.v _) (MonoL.cons (Mono.v _) (MonoL.cons (Mono.v _) (MonoL.cons (Mono.v _) (MonoL.cons (Mono.v _) (MonoL.cons (Mono.v _) (MonoL.cons (Mono.v _) MonoL.nil))))))))))))))) ?_ ?_
        · intro i hi
          have hi2 : i = 0 ∨ i = 1 ∨ i = 2 ∨ i = 3 ∨ i = 4 ∨ i = 5 ∨ i = 6 ∨ i = 7 ∨ i = 8 ∨ i = 9 ∨ i = 10 ∨ i = 11 ∨ i = 12 ∨ i = 13 ∨ i = 14 := by omega
          clear hi
          rcases hi2 with rfl | rfl | rfl | rfl | rfl | rfl | rfl | rfl | rfl | rfl | rfl | rfl | rfl | rfl | rfl
          · -- 0: Op.move (Operand.tmp 7)
            refine AnyO.Step.mk rfl [] (by kernel_rfl) ?_
            intro vs u hE hp ac hb K hK
            have s7 : ac.tmps[7]?.getD undef = .slice (some ad) N d1 := by rw [hb]; kernel_rfl
            rw [if_pos (AnyO.wanted_none rfl)]
            clear hb hp
            go_simp
            exact hK _ _ (Below.refl _ _) rfl
          · -- 1: Op.move (Operand.tmp 12)
            refine AnyO.Step.mk rfl [] (by kernel_rfl) ?_
            intro vs u hE hp ac hb K hK
            have s12 : ac.tmps[12]?.getD undef = .int .i64 (k : Int) := by rw [hb]; kernel_rfl
            rw [if_pos (AnyO.wanted_none rfl)]
            clear hb hp
            go_simp
            exact hK _ _ (Below.refl _ _) rfl
          · -- 2: Op.indexAddr 24 (Operand.tmp 60) (Operand.tmp 61)
            refine AnyO.Step.mk rfl [0, 1] (by kernel_rfl) ?_
            intro vs u hE hp ac hb K hK
            have s60 : ac.tmps[60]?.getD undef = .slice (some ad) N d1 := by rw [hb]; exact (show _ = vs 0 by kernel_rfl).trans (hp 0 (by decide))
            have s61 : ac.tmps[61]?.getD undef = .int .i64 (k : Int) := by rw [hb]; exact (show _ = vs 1 by kernel_rfl).trans (hp 1 (by decide))
            rw [if_pos (AnyO.wanted_none rfl)]
            clear hb hp
            have r1 := hki
            have r2 := hn1
            go_simp
            exact hK _ _ (Below.refl _ _) rfl
          · -- 3: Op.load 36 (Operand.tmp 62)
            refine AnyO.Step.mk rfl [2] (by kernel_rfl) ?_
            intro vs u hE hp ac hb K hK
            have s62 : ac.tmps[62]?.getD undef = .pointer (some (ad.add (k * 33))) := by rw [hb]; exact (show _ = vs 2 by kernel_rfl).trans (hp 2 (by decide))
            rw [if_pos (AnyO.wanted_none rfl)]
            clear hb hp
            obtain ⟨r1, r2⟩ := at_X (HAX.out.keep (Below.step (below_drew wr) hE))
            go_simp
            exact hK _ _ (Below.refl _ _) rfl
          · -- 4: Op.move (Operand.tmp 9)
            refine AnyO.Step.mk rfl [] (by kernel_rfl) ?_
            intro vs u hE hp ac hb K hK
            have s9 : ac.tmps[9]?.getD undef = .slice (some od) M c6 := by rw [hb]; kernel_rfl
            rw [if_pos (AnyO.wanted_none rfl)]
            clear hb hp
            go_simp
            exact hK _ _ (Below.refl _ _) rfl
          · -- 5: Op.move (Operand.tmp 12)
            refine AnyO.Step.mk rfl [] (by kernel_rfl) ?_
            intro vs u hE hp ac hb K hK
            have s12 : ac.tmps[12]?.getD undef = .int .i64 (k : Int) := by rw [hb]; kernel_rfl
            rw [if_pos (AnyO.wanted_none rfl)]
            clear hb hp
            go_simp
            exact hK _ _ (Below.refl _ _) rfl
          · -- 6: Op.indexAddr 22 (Operand.tmp 64) (Operand.tmp 65)
            refine AnyO.Step.mk rfl [4, 5] (by kernel_rfl) ?_
            intro vs u hE hp ac hb K hK
            have s64 : ac.tmps[64]?.getD undef = .slice (some od) M c6 := by rw [hb]; exact (show _ = vs 4 by kernel_rfl).trans (hp 4 (by decide))
            have s65 : ac.tmps[65]?.getD undef = .int .i64 (k : Int) := by rw [hb]; exact (show _ = vs 5 by kernel_rfl).trans (hp 5 (by decide))
            rw [if_pos (AnyO.wanted_none rfl)]
            clear hb hp
            have r1 := hkm
            have r2 := hn1
            go_simp
            exact hK _ _ (Below.refl _ _) rfl
          · -- 7: Op.fieldAddr 39 (Operand.tmp 66) 0
            refine AnyO.Step.mk rfl [6] (by kernel_rfl) ?_
            intro vs u hE hp ac hb K hK
            have s66 : ac.tmps[66]?.getD undef = .pointer (some (od.add (k * 33))) := by rw [hb]; exact (show _ = vs 6 by kernel_rfl).trans (hp 6 (by decide))
            rw [if_pos (AnyO.wanted_none rfl)]
            clear hb hp
            go_simp
            exact hK _ _ (Below.refl _ _) rfl
          · -- 8: Op.load 37 (Operand.tmp 67)
            refine AnyO.Step.mk rfl [7] (by kernel_rfl) ?_
            intro vs u hE hp ac hb K hK
            have s67 : ac.tmps[67]?.getD undef = .pointer (some (od.add (k * 33))) := by rw [hb]; exact (show _ = vs 7 by kernel_rfl).trans (hp 7 (by decide))
            rw [if_pos (AnyO.wanted_none rfl)]
            clear hb hp
            obtain ⟨r1, r2, -⟩ := at_idX (HAZ.out.keep (Below.step (below_drew wr) hE))
            go_simp
            exact hK _ _ (Below.refl _ _) rfl
          · -- 9: Op.move (Operand.tmp 9)
            refine AnyO.Step.mk rfl [] (by kernel_rfl) ?_
            intro vs u hE hp ac hb K hK
            have s9 : ac.tmps[9]?.getD undef = .slice (some od) M c6 := by rw [hb]; kernel_rfl
            rw [if_pos (AnyO.wanted_none rfl)]
            clear hb hp
            go_simp
            exact hK _ _ (Below.refl _ _) rfl
          · -- 10: Op.move (Operand.tmp 12)
            refine AnyO.Step.mk rfl [] (by kernel_rfl) ?_
            intro vs u hE hp ac hb K hK
            have s12 : ac.tmps[12]?.getD undef = .int .i64 (k : Int) := by rw [hb]; kernel_rfl
            rw [if_pos (AnyO.wanted_none rfl)]
            clear hb hp
            go_simp
            exact hK _ _ (Below.refl _ _) rfl
          · -- 11: Op.indexAddr 22 (Operand.tmp 69) (Operand.tmp 70)
            refine AnyO.Step.mk rfl [9, 10] (by kernel_rfl) ?_
            intro vs u hE hp ac hb K hK
            have s69 : ac.tmps[69]?.getD undef = .slice (some od) M c6 := by rw [hb]; exact (show _ = vs 9 by kernel_rfl).trans (hp 9 (by decide))
            have s70 : ac.tmps[70]?.getD undef = .int .i64 (k : Int) := by rw [hb]; exact (show _ = vs 10 by kernel_rfl).trans (hp 10 (by decide))
            rw [if_pos (AnyO.wanted_none rfl)]
            clear hb hp
            have r1 := hkm
            have r2 := hn1
            go_simp
            exact hK _ _ (Below.refl _ _) rfl
          · -- 12: Op.fieldAddr 39 (Operand.tmp 71) 1
            refine AnyO.Step.mk rfl [11] (by kernel_rfl) ?_
            intro vs u hE hp ac hb K hK
            have s71 : ac.tmps[71]?.getD undef = .pointer (some (od.add (k * 33))) := by rw [hb]; exact (show _ = vs 11 by kernel_rfl).trans (hp 11 (by decide))
            rw [if_pos (AnyO.wanted_none rfl)]
            clear hb hp
            go_simp
            exact hK _ _ (Below.refl _ _) rfl
          · -- 13: Op.load 9 (Operand.tmp 72)
            refine AnyO.Step.mk rfl [12] (by kernel_rfl) ?_
            intro vs u hE hp ac hb K hK
            have s72 : ac.tmps[72]?.getD undef = .pointer (some ⟨(od.add (k * 33)).block, (od.add (k * 33)).off + 32, none⟩) := by rw [hb]; exact (show _ = vs 12 by kernel_rfl).trans (hp 12 (by decide))
            rw [if_pos (AnyO.wanted_none rfl)]
            clear hb hp
            obtain ⟨-, -, r1⟩ := at_idX (HAZ.out.keep (Below.step (below_drew wr) hE))
            go_simp
            exact hK _ _ (Below.refl _ _) rfl
          · -- 14: Op.build 36 #[(0, Operand.tmp 68), (1, Operand.tmp 73)]
            refine AnyO.Step.mk rfl [8, 13] (by kernel_rfl) ?_
            intro vs u hE hp ac hb K hK
            have s68 : ac.tmps[68]?.getD undef = vI z.id := by rw [hb]; exact (show _ = vs 8 by kernel_rfl).trans (hp 8 (by decide))
            have s73 : ac.tmps[73]?.getD undef = .string z.text := by rw [hb]; exact (show _ = vs 13 by kernel_rfl).trans (hp 13 (by decide))
            rw [if_pos (AnyO.wanted_none rfl)]
            clear hb hp
            go_simp
            exact hK _ _ (Below.refl _ _) rfl
        · intro vs u hE hp
          have e0 : vs 0 = .slice (some ad) N d1 := hp 0 (by decide)
          have e1 : vs 1 = .int .i64 (k : Int) := hp 1 (by decide)
          have e2 : vs 2 = .pointer (some (ad.add (k * 33))) := hp 2 (by decide)
          have e3 : vs 3 = vX x := hp 3 (by decide)
          have e4 : vs 4 = .slice (some od) M c6 := hp 4 (by decide)
          have e5 : vs 5 = .int .i64 (k : Int) := hp 5 (by decide)
          have e6 : vs 6 = .pointer (some (od.add (k * 33))) := hp 6 (by decide)
          have e7 : vs 7 = .pointer (some (od.add (k * 33))) := hp 7 (by decide)
          have e8 : vs 8 = vI z.id := hp 8 (by decide)
          have e9 : vs 9 = .slice (some od) M c6 := hp 9 (by decide)
          have e10 : vs 10 = .int .i64 (k : Int) := hp 10 (by decide)
          have e11 : vs 11 = .pointer (some (od.add (k * 33))) := hp 11 (by decide)
          have e12 : vs 12 = .pointer (some ⟨(od.add (k * 33)).block, (od.add (k * 33)).off + 32, none⟩) := hp 12 (by decide)
          have e13 : vs 13 = .string z.text := hp 13 (by decide)
          have e14 : vs 14 = vX z := hp 14 (by decide)
          clear hp
          have HE := Lib.hid hE
          clear hE
          rw [puts_range [some 60, some 61, some 62, some 63, some 64, some 65, some 66, some 67, some 68, some 69, some 70, some 71, some 72, some 73, some 74] (by kernel_rfl)]
          simp only [putL, Nat.reduceAdd, List.drop_succ_cons, List.drop_zero, e0, e1, e2, e3, e4, e5, e6, e7, e8, e9, e10, e11, e12, e13, e14]
          clear e0 e1 e2 e3 e4 e5 e6 e7 e8 e9 e10 e11 e12 e13 e14
          go_simp
          go_wp2_with (go_at_call 11; refine (collide_b x z u HXS.out.1 HXS.out.2).mono ?_; rintro e w9 ⟨rfl, hb9⟩; rw [HCB.out]; have H9 := Lib.hid (Below.step (Below.step HBB.out HE.out) hb9); clear hb9)
          have H9k := Lib.hid (show Below w6.heap.size w6 w9 from H9.out)
          go_roundw
          case rel => exact ⟨k + 1, HLK.out, by go_num, H9k.out⟩
          case measure => have := HLK.out; simp [intOf]; omega
end Go.Proofs.YtecalodcbkljoaaDoor
