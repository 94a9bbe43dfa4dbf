/- BatchPacks is true for all items. -/
import Derived.Test.YtecalodcbkljoaaDoorMPkp
import Derived.Test.YtecalodcbkljoaaDoorMRtx
import Derived.Test.YtecalodcbkljoaaDoorMTo5
namespace Go.Proofs.YtecalodcbkljoaaDoor
open Go.RowKit
theorem chk_toL (l : List It) : (chkB (toL l)).2 = 0 := by
  have h1 := toL_len l
  have h2 := toL_size l
  unfold chkB
  rw [if_neg (by omega), if_neg (by
    rw [List.any_eq_true]
    rintro ⟨x, hx, h⟩
    have := h2 x hx
    have h3 : 65536 < x.text.size := by simpa using h
    omega)]
  have h3 := sumN_bound (toL l) (fun x hx => by have := h2 x hx; omega)
  have h4 := itoa_len 2 (toL l).length (by decide) (by omega)
  rw [if_neg (by unfold sizeN; omega)]
set_option maxRecDepth 100000 in
set_option maxHeartbeats 6400000 in
theorem packs_law (A : Option Addr) (c : Nat) (l : List It) (w : World) (hs : Sl w cX A l) (hc : l.length ≤ c) (_hm : c ≤ maxLen) (hL : Laid w) : Calls Tryd.prog 5 #[.slice A l.length c] w fun e w' => e = .returned (.bool true) ∧ Below w.heap.size w w' := by
  obtain ⟨X, hX⟩ : ∃ X, toL l = X := ⟨_, rfl⟩
  have HX := Lib.hid (show X.length ≤ 1000 ∧ (∀ x ∈ X, x.text.size ≤ 400) ∧ (chkB X).2 = 0 from by
    rw [← hX]
    exact ⟨by have := toL_len l; omega, toL_size l, chk_toL l⟩)
  have HXE := Lib.hid hX
  have H0 := Lib.hid (And.intro hs (And.intro hc hL))
  have HU := Lib.hid (unp_pk0 HX.out.2.2)
  have HPK := Lib.hid (show pkS X = batS X from by unfold pkS; rw [if_pos HX.out.2.2])
  have HZ := Lib.hid (show (pkS X).size ≤ 1073741824 from by have := pkS_le X; omega)
  have HB := Lib.hid (show ∀ x ∈ X, x.text.size ≤ 1073741824 from fun x hx => by have := HX.out.2.1 x hx; omega)
  have HBB := Lib.hid (show ∀ x ∈ X, x.text.size ≤ 1000000 from fun x hx => by have := HX.out.2.1 x hx; omega)
  clear hs hc hL hX
  go_enter Tryd.func5, Tryd.ntmps5
  go_wp2_with (first
    | (go_at_call 7
       refine (to_b A c l _ H0.out.1 H0.out.2.1).mono ?_
       rintro e w1 ⟨v1, rfl, ho1, hb1⟩
       rw [HXE.out] at ho1
       obtain ⟨A1, d1, rfl, hd1, hs1⟩ := ho1.sl
       have H1 := Lib.hid (And.intro hb1 hs1)
       clear hb1 ho1 hd1 hs1)
    | (go_at_call 12
       refine (back_b A1 d1 X _ H1.out.2 (by have := HX.out.1; omega)).mono ?_
       rintro e w2 ⟨v2, rfl, ho2, hb2⟩
       obtain ⟨A2, d2, rfl, hd2, hs2⟩ := ho2.sl
       have H2 := Lib.hid (show Below w.heap.size w w2 ∧ Sl w2 cX A1 X ∧ Sl w2 cX A2 X from ⟨Below.step H1.out.1 hb2, H1.out.2.keep hb2, hs2⟩)
       clear hb2 ho2 hd2 hs2)
    | (go_at_call 13
       refine (pack_p A2 d2 X _ (H0.out.2.2.keep H2.out.1) H2.out.2.2 (by have := HX.out.1; omega) HB.out).mono ?_
       rintro e w3 ⟨rfl, hb3⟩
       rw [HX.out.2.2]
       have H3 := Lib.hid (show Below w.heap.size w w3 ∧ Sl w3 cX A1 X ∧ Sl w3 cX A2 X from ⟨Below.step H2.out.1 hb3, H2.out.2.1.keep hb3, H2.out.2.2.keep hb3⟩)
       clear hb3)
    | (go_at_call 10
       refine (unpack_s _ _ (H0.out.2.2.keep H3.out.1) HZ.out).mono ?_
       rintro e w4 hu4
       rw [HU.out] at hu4
       obtain ⟨A4, d4, rfl, -, hs4, hb4⟩ := hu4.good
       have H4 := Lib.hid (show Below w.heap.size w w4 ∧ Sl w4 cX A1 X ∧ Sl w4 cX A2 X ∧ Sl w4 cX A4 X from ⟨Below.step H3.out.1 hb4, H3.out.2.1.keep hb4, H3.out.2.2.keep hb4, hs4⟩)
       clear hu4 hs4 hb4)
    | (go_at_call 9
       refine (known_c _ (H0.out.2.2.keep H4.out.1)).mono ?_
       rintro e w5 ⟨rfl, hb5⟩
       have H5 := Lib.hid (show Below w.heap.size w w5 ∧ Sl w5 cX A1 X ∧ Sl w5 cX A2 X ∧ Sl w5 cX A4 X from ⟨Below.step H4.out.1 hb5, H4.out.2.1.keep hb5, H4.out.2.2.1.keep hb5, H4.out.2.2.2.keep hb5⟩)
       clear hb5)
    | (go_at_call 8
       refine (rtext_b A1 d1 X _ H5.out.2.1 HX.out.1 HBB.out).mono ?_
       rintro e w6 ⟨rfl, hb6⟩
       rw [← HPK.out]
       have H6 := Lib.hid (show Below w.heap.size w w6 ∧ Sl w6 cX A1 X ∧ Sl w6 cX A2 X ∧ Sl w6 cX A4 X from ⟨Below.step H5.out.1 hb6, H5.out.2.1.keep hb6, H5.out.2.2.1.keep hb6, H5.out.2.2.2.keep hb6⟩)
       clear hb6)
    | (go_at_call 14
       refine (size_p A2 d2 X _ (H0.out.2.2.keep H6.out.1) H6.out.2.2.1 (by have := HX.out.1; omega) HB.out).mono ?_
       rintro e w7 ⟨rfl, hb7⟩
       have H7 := Lib.hid (show Below w.heap.size w w7 ∧ Sl w7 cX A1 X ∧ Sl w7 cX A4 X from ⟨Below.step H6.out.1 hb7, H6.out.2.1.keep hb7, H6.out.2.2.2.keep hb7⟩)
       clear hb7)
    | (go_at_call 15
       refine (same_b A4 A1 d4 d1 X X _ H7.out.2.2 H7.out.2.1 (by have := HX.out.1; omega) (by have := HX.out.1; omega)).mono ?_
       rintro e w8 ⟨rfl, hb8⟩
       rw [decide_eq_true rfl]
       have H8 := Lib.hid (Below.step H7.out.1 hb8)
       clear hb8))
  go_ret
  exact ⟨rfl, H8.out⟩
end Go.Proofs.YtecalodcbkljoaaDoor
