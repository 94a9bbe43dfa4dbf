/- BatchTruncates is true for all items. -/
import Derived.Test.YtecalodcbkljoaaDoorMPks
import Derived.Test.YtecalodcbkljoaaDoorMTru
namespace Go.Proofs.YtecalodcbkljoaaDoor
open Go.RowKit
theorem toL_big (l : List It) : (toL l).length ≤ 1000 ∧ (∀ x ∈ toL l, x.text.size ≤ 1000000) ∧ (∀ x ∈ toL l, x.text.size ≤ 65536) ∧ (batL (toL l)).length ≤ 4194304 ∧ 12 ≤ (batL (toL l)).length := by
  have h1 := toL_len l
  have h2 := toL_size l
  have h3 := sumN_bound (toL l) (fun x hx => by have := h2 x hx; omega)
  have h4 := itoa_len 2 (toL l).length (by decide) (by omega)
  have h5 : 0 < (Lib.itoa ((toL l).length : Int)).length := by
    rw [Lib.itoa_nonneg]
    exact List.length_pos_iff.2 (dec_ne _)
  refine ⟨by omega, fun x hx => by have := h2 x hx; omega, fun x hx => by have := h2 x hx; omega, ?_, ?_⟩
  · rw [batL_len]; unfold sizeN; omega
  · rw [batL_len]; unfold sizeN; omega
set_option maxRecDepth 100000 in
set_option maxHeartbeats 6400000 in
theorem truncates_law (A : Option Addr) (c : Nat) (l : List It) (h : Int) (w : World) (hs : Sl w cX A l) (hc : l.length ≤ c) (_hm : c ≤ maxLen) (hh : 0 ≤ h ∧ h < 65536) (hL : Laid w) : Calls Tryd.prog 4 #[.slice A l.length c, .int .u16 h] w fun e w' => e = .returned (.bool true) ∧ Below w.heap.size w w' := by
  have HB := Lib.hid (toL_big l)
  obtain ⟨X, hX⟩ : ∃ X, toL l = X := ⟨_, rfl⟩
  rw [hX] at HB
  obtain ⟨S, hS⟩ : ∃ S, batS X = S := ⟨_, rfl⟩
  obtain ⟨a, ha⟩ : ∃ a : Nat, h.toNat % S.size = a := ⟨_, rfl⟩
  obtain ⟨u, hu⟩ : ∃ u : Nat, h = (u : Int) := ⟨h.toNat, by omega⟩
  subst hu
  have hsz : S.size = (batL X).length := by rw [← hS, batS_size]
  have hpos : 0 < S.size := by have := HB.out.2.2.2.2; omega
  have hlt : a < S.size := by rw [← ha]; exact Nat.mod_lt _ hpos
  have hmod : (u : Int) % (S.size : Int) = (a : Int) := by rw [← ha]; simp
  have htm : Int.tmod (u : Int) (S.size : Int) = (a : Int) := by rw [Int.tmod_eq_emod_of_nonneg (by omega)]; exact hmod
  have hz0 : ¬ (S.size : Int) = 0 := by omega
  have hai : (a : Int) ≤ (S.size : Int) := by omega
  have hu6 : (u : Int) < 65536 := hh.2
  have hS5 : (S.size : Int) ≤ 4194304 := by have := HB.out.2.2.2.1; omega
  have HU := Lib.hid (show unpackP (bl (S.extract 0 a)) = .error (23, a) ∧ (S.extract 0 a).size ≤ 1073741824 from by
    refine ⟨?_, by simp; omega⟩
    have e : bl (S.extract 0 a) = (batL X).take a := by
      have := bl_piece S 0 a
      rw [Nat.zero_add, List.drop_zero] at this
      rw [this, ← hS, bl_batS]
    rw [e]
    exact unpackP_cut X HB.out.2.2.1 HB.out.1 a (by omega) (by omega))
  have HXE := Lib.hid hX
  have HSE := Lib.hid hS
  have H0 := Lib.hid (And.intro hs (And.intro hc hL))
  clear hs hc hL hX hS ha hh hsz
  go_enter Tryd.func4, Tryd.ntmps4
  go_wp2_with (first
    | (go_at_call 7
       refine (to_b A c l _ H0.out.1 H0.out.2.1).mono ?_
       rintro e w1 ⟨v1, rfl, ho1, hb1⟩
       rw [HXE.out] at ho1
       obtain ⟨A1, d1, rfl, hd1, hs1⟩ := ho1.sl
       have H1 := Lib.hid (And.intro hb1 hs1)
       clear hb1 ho1 hd1 hs1)
    | (go_at_call 8
       refine (rtext_b A1 d1 X _ H1.out.2 HB.out.1 HB.out.2.1).mono ?_
       rintro e w2 ⟨rfl, hb2⟩
       rw [HSE.out]
       have H2 := Lib.hid (Below.step H1.out.1 hb2)
       clear hb2)
    | (go_at_call 10
       refine (unpack_s _ _ (H0.out.2.2.keep H2.out) HU.out.2).mono ?_
       rintro e w4 hu4
       rw [HU.out.1] at hu4
       obtain ⟨A4, d4, rfl, hb4⟩ := hu4.fail
       have H4 := Lib.hid (Below.step H2.out hb4)
       clear hu4 hb4)
    | (go_at_call 9
       refine (known_c _ (H0.out.2.2.keep H4.out)).mono ?_
       rintro e w5 ⟨rfl, hb5⟩
       have H5 := Lib.hid (Below.step H4.out hb5)
       clear hb5))
  go_ret
  exact ⟨rfl, H5.out⟩
end Go.Proofs.YtecalodcbkljoaaDoor
