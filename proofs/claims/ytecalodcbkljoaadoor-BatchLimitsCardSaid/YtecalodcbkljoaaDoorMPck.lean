/- Pack: the text of a batch. -/
import Derived.Test.YtecalodcbkljoaaDoorMChk
import Derived.Test.YtecalodcbkljoaaDoorMBld
namespace Go.Proofs.YtecalodcbkljoaaDoor
open Go.RowKit
theorem Bd.less {B b : Nat} {l : List UInt8} {F : List Nat} {w : World} (h : Bd B b l F w) : Bd B b l [] w := by
  obtain ⟨q, v, h1, h2, h3, h4⟩ := h
  exact ⟨q, v, h1, fun k _ hm => by simp at hm, fun k hk => by simp at hk, h4⟩
theorem Bd.and {B b : Nat} {l : List UInt8} {F : List Nat} {w w0 : World} (h : Bd B b l F w) : B ≤ w.heap.size := by
  obtain ⟨q, v, h1, h2, h3, h4⟩ := h
  exact h4
def batS (l : List It) : ByteArray := ⟨(batL l).toArray⟩
/-- What stands in the builder behind t items. -/
def packT (l : List It) (t : Nat) : List UInt8 := firstL l.length ++ (l.take t).flatMap itL
theorem packT_succ (l : List It) (t : Nat) (x : It) (h : t < l.length) (hx : l[t] = x) : packT l (t + 1) = ((packT l t ++ (headL x ++ [10])) ++ bl x.text) ++ [10] := by
  unfold packT
  rw [List.take_succ_eq_append_getElem h, hx, List.flatMap_append]
  simp [itL]
theorem packT_all (l : List It) : packT l l.length ++ endL = batL l := by
  unfold packT batL
  rw [List.take_length, List.append_assoc]
theorem sumN_mono (l : List It) (t : Nat) : sumN (l.take t) ≤ sumN l := by
  have h : sumN l = sumN (l.take t) + sumN (l.drop t) := by
    unfold sumN
    rw [← List.sum_append, ← List.map_append, List.take_append_drop]
  omega
theorem packT_len (l : List It) (t : Nat) : (packT l t).length + 4 ≤ (batL l).length := by
  rw [batL_len]
  unfold packT sizeN
  rw [List.length_append, firstL_len, flat_len]
  have := sumN_mono l t
  omega
set_option maxRecDepth 100000 in
set_option maxHeartbeats 6400000 in
theorem pack_l (A : Option Addr) (c : Nat) (l : List It) (r : Nat × Int) (hr : chkB l = r) (w : World) (hL : Laid w) (hs : Sl w cX A l) (hn : l.length ≤ 1073741824) (hx : ∀ x ∈ l, x.text.size ≤ 1073741824) :
    Calls Tryd.prog 13 #[.slice A l.length c] w fun e w' => e = .returned (.tuple #[.string (if r.2 = 0 then batS l else ⟨#[]⟩), .int .i64 r.2]) ∧ Below w.heap.size w w' := by
  have HC := Lib.hid (check_l A c l r hr w hL hs hn hx)
  have HX := Lib.hid (And.intro hL (And.intro hs hx))
  by_cases h0 : r.2 = 0
  case neg =>
    have h2 : (r.2 != 0) = true := by simpa using h0
    have H0 := Lib.hid h0
    obtain ⟨r1, r2⟩ := r
    clear hL hs hx hr hn h0
    go_enter Tryd.func13, Tryd.ntmps13
    go_wp2_with (go_at_call 23; refine HC.out.mono ?_; rintro e w3 ⟨rfl, hb3⟩; have H3 := Lib.hid hb3; clear hb3)
    go_ret2
    exact ⟨rfl, H3.out⟩
  have hk : l.length ≤ 1000 ∧ sizeN l.length (sumN l) ≤ 4194304 := by
    unfold chkB at hr
    split at hr
    · rw [← hr] at h0; cases h0
    · split at hr
      · rw [← hr] at h0; cases h0
      · split at hr
        · rw [← hr] at h0; cases h0
        · omega
  have hbl : (batL l).length ≤ 4194304 := by rw [batL_len]; exact hk.2
  have HN := Lib.hid (And.intro hk.1 hbl)
  obtain ⟨r1, r2⟩ := r
  obtain rfl : r2 = 0 := h0
  clear hL hs hx hr hn hk hbl
  rw [if_pos rfl]
  go_enter Tryd.func13, Tryd.ntmps13
  go_wp2_with (first
    | (go_at_call 23; refine HC.out.mono ?_; rintro e w3 ⟨rfl, hb3⟩; have HB0 := Lib.hid (Bd.new w3); have H3 := Lib.hid (Below.step hb3 (below_alloc w3 (.cells #[.pointer none, .slice none 0 0] 62))); have H30 := Lib.hid hb3.size; obtain ⟨b, hb⟩ : ∃ b, w3.heap.size = b := ⟨_, rfl⟩; rw [hb] at HB0 H30; obtain ⟨W3, hW3⟩ : ∃ W3, w3.alloc (.cells #[.pointer none, .slice none 0 0] 62) = W3 := ⟨_, rfl⟩; rw [hW3] at HB0 H3; clear hb3)
    | (go_at_call 25; refine (first_l l.length (by have := HN.out.1; omega) _ (HX.out.1.keep H3.out)).mono ?_; rintro e w4 ⟨rfl, hb4⟩; have HB4 := Lib.hid (HB0.out.keep hb4); have H4 := Lib.hid (Below.step H3.out hb4); clear hb4)
    | (go_at_call 24; refine (HB4.out.str (fstS l.length) (by have h1 := packT_len l 0; have h2 := HN.out.2; have h3 : (packT l 0).length = (fstS l.length).size := (by rw [← bl_length]; simp [packT, fstS]); simp only [List.length_nil]; omega)).mono ?_; rintro e w5 ⟨rfl, hb5, hk5⟩; have HB5 := Lib.hid hb5; have H5 := Lib.hid (H4.out.trans (hk5.1.mono H30.out)); clear hb5 hk5))
  have HBS := Lib.hid (show w.heap.size ≤ b by have h1 := H30.out; omega)
  clear hb hW3
  go_loopw [23] (fun i wr => ∃ t : Nat, t ≤ l.length ∧ i = .int .i64 t ∧ Bd b b (packT l t) [] wr ∧ Below w.heap.size w wr) (fun i _ => l.length - (intOf i).toNat)
  case atStart => exact ⟨0, Nat.zero_le _, rfl, by
    have h := HB5.out
    rw [List.nil_append] at h
    simpa [packT, fstS] using h, H5.out⟩
  case round =>
    obtain ⟨t, ht, rfl, hbd, hb⟩ := hrel
    have HBD := Lib.hid hbd
    have HB := Lib.hid hb
    clear hbd hb
    by_cases hlt : t < l.length
    · obtain ⟨ad, rfl, hat⟩ := Sl.at_ cX_length (HX.out.2.1.keep HB.out) hlt
      obtain ⟨x, hxe⟩ : ∃ x, l[t] = x := ⟨_, rfl⟩
      rw [hxe] at hat
      have hok := hat.ok
      have hrd := hat.rd
      rw [cX_length] at hok hrd
      change rdA wr (ad.add (t * 33)) 33 = vX x at hrd
      have hlti : (t : Int) < (l.length : Int) := by omega
      have hT : (t : Int) < 1000 := by have := HN.out.1; omega
      have HM := Lib.hid (show x.text.size ≤ 1073741824 from HX.out.2.2 x (by rw [← hxe]; exact List.getElem_mem _))
      have HXE := Lib.hid (packT_succ l t x hlt hxe)
      obtain ⟨g, hg⟩ : ∃ g, wr.heap.size = g := ⟨_, rfl⟩
      obtain ⟨W6, hW6⟩ : ∃ W6, wr.alloc (.cells (aX x) 39) = W6 := ⟨_, rfl⟩
      have H6 := Lib.hid (show Below w.heap.size w W6 ∧ Row W6 g (cX x) 39 ∧ Bd b b (packT l t) [g] W6 from by
        subst hW6 hg
        exact ⟨Below.step HB.out (below_alloc _ _), Row.new wr (cX x) _, HBD.out.more (below_alloc _ _) [wr.heap.size] (by simp)⟩)
      obtain ⟨⟨x1, x2, -⟩, -, -⟩ := rowX H6.out.2.1
      have HPL := Lib.hid (show (packT l t).length + (linS x).size + x.text.size + 1 ≤ 1000000000 from by
        have h1 := packT_len l (t + 1)
        have h2 := HN.out.2
        rw [packT_succ l t x hlt hxe] at h1
        have h3 : (linS x).size = (headL x ++ [10]).length := by rw [← bl_length]; rfl
        simp only [List.length_append, List.length_cons, List.length_nil, bl_length] at h1 h3
        omega)
      clear hat hxe
      go_wp2_with (first
        | (go_at_call 26; refine (line_i x _ (HX.out.1.keep H6.out.1) HM.out).mono ?_; rintro e w7 ⟨rfl, hb7⟩; have H7 := Lib.hid (show Below w.heap.size w w7 ∧ Row w7 g (cX x) 39 ∧ Bd b b (packT l t) [g] w7 from ⟨Below.step H6.out.1 hb7, H6.out.2.1.keep hb7, H6.out.2.2.keep hb7⟩); have T7 : True := trivial; clear hb7 x1 x2 hok hrd)
        | (have hh := T7; clear hh T7; go_at_call 24; refine (H7.out.2.2.str (linS x) (by have := HPL.out; omega)).mono ?_; rintro e w8 ⟨rfl, hb8, hk8⟩; have H8 := Lib.hid (show Below w.heap.size w w8 ∧ Row w8 g (cX x) 39 ∧ Bd b b (packT l t ++ bl (linS x)) [g] w8 from ⟨H7.out.1.trans (hk8.1.mono HBS.out), H7.out.2.1.same (hk8.2 g (by simp)), hb8⟩); obtain ⟨-, -, x3⟩ := rowX H8.out.2.1; have T8 : True := trivial; clear hb8 hk8)
        | (have hh := T8; clear hh T8; go_at_call 24; refine (H8.out.2.2.str x.text (by have := HPL.out; rw [List.length_append, bl_length]; omega)).mono ?_; rintro e w9 ⟨rfl, hb9, hk9⟩; have H9 := Lib.hid (show Below w.heap.size w w9 ∧ Bd b b (packT l t ++ bl (linS x) ++ bl x.text) [g] w9 from ⟨H8.out.1.trans (hk9.1.mono HBS.out), hb9⟩); clear hb9 hk9 x3)
        | (go_at_call 27; refine (H9.out.2.byte 10 10 rfl (by have := HPL.out; rw [List.length_append, List.length_append, bl_length, bl_length]; omega)).mono ?_; rintro e w10 ⟨rfl, hb10, hk10⟩; have H10 := Lib.hid (show Bd b b (packT l (t + 1)) [] w10 ∧ Below w.heap.size w w10 from ⟨by rw [HXE.out]; exact hb10.less, H9.out.1.trans (hk10.1.mono HBS.out)⟩); clear hb10 hk10))
      go_roundw
      case rel => exact ⟨t + 1, hlt, by go_num, H10.out.1, H10.out.2⟩
      case measure => simp [intOf]; omega
    · obtain rfl : t = l.length := by omega
      clear hlt ht
      go_wp2_with (first
        | (go_at_call 24; refine (HBD.out.str ⟨#[101, 110, 100, 10]⟩ (by have h1 := packT_len l l.length; have h2 := HN.out.2; show (packT l l.length).length + 4 ≤ 1000000000; omega)).mono ?_; rintro e w8 ⟨rfl, hb8, hk8⟩; have H8 := Lib.hid (show Below w.heap.size w w8 ∧ Bd b b (batL l) [] w8 from ⟨HB.out.trans (hk8.1.mono HBS.out), by rw [← packT_all]; exact hb8⟩); clear hb8 hk8)
        | (go_at_call 28; refine H8.out.2.string.mono ?_; rintro e w9 ⟨rfl, hb9⟩; have H9 := Lib.hid (H8.out.1.trans (hb9.mono HBS.out)); clear hb9))
      go_ret2
      exact ⟨rfl, H9.out⟩
end Go.Proofs.YtecalodcbkljoaaDoor
