/- digest: the reader: unprotect, body, contents. -/
import Derived.Test.YtibelollgdnidaaGreatDoorMRd1
import Derived.Test.YtibelollgdnidaaGreatDoorMSqz
import Derived.Lib.IndexAny
namespace Go.Proofs.YtibelollgdnidaaGreatDoor
open Go.RowKit
theorem One.grew {b : Nat} {w0 w w' : World} {α : Type} {base : Nat} {e : TypeId} {n : Nat} {enc : α → List Value} {v : Value} {xs : List α} (h : One b w0 w) (ho : Own w base e n enc v xs) (hg : w.grownBy w' v.ownBlock) (hB : w0.heap.size ≤ base) : One b w0 w' :=
 ⟨hg.os.trans h.os, hg.tape.trans h.tape, hg.output.trans h.output, Nat.le_trans h.size hg.size, fun j hj hb => (hg.block j (Nat.lt_of_lt_of_le hj h.size) (fun e => by have := ho.lt j e.symm; omega)).trans (h.out j hj hb)⟩
theorem Row.grew {b : Nat} {w w' : World} {cs : List Value} {t : TypeId} {α : Type} {base : Nat} {e : TypeId} {n : Nat} {enc : α → List Value} {v : Value} {xs : List α} (hr : Row w b cs t) (ho : Own w base e n enc v xs) (hg : w.grownBy w' v.ownBlock) (hB : b < base) : Row w' b cs t :=
 hr.same (hg.block b hr.lt (fun e => by have := ho.lt b e.symm; omega))
theorem Own.one {b : Nat} {w w' : World} {α : Type} {base : Nat} {e : TypeId} {n : Nat} {enc : α → List Value} {v : Value} {xs : List α} (h : Own w base e n enc v xs) (ho : One b w w') (hb : b < base) : Own w' base e n enc v xs := by
 refine ⟨h.1, h.2.imp id fun ⟨g', cap, cur, a1, a2, a3, r⟩ => ⟨g', cap, cur, a1, a2, ?_, r⟩⟩
 have hlt : g' < w.heap.size := (Array.getElem?_eq_some_iff.1 a3).1
 rw [ho.out g' hlt (by omega)]
 exact a3
theorem tx_beql (a l : List UInt8) : ((tx a).toList == l) = decide (a = l) := by
 rw [Lib.toList_data, tx_data]
 by_cases h : a = l
 ·subst h
  rw [decide_eq_true rfl]
  exact beq_self_eq_true _
 ·rw [decide_eq_false h, beq_eq_false_iff_ne]
  exact h
theorem hasPre (s p : List UInt8) (w : World) : Calls Tryz.prog 39 #[.string (tx s), .string (tx p)] w fun e w' => e = .returned (.bool (Lib.hasPrefix s p)) ∧ w' = w := Tryz.strings_HasPrefix (tx s) (tx p) w
theorem hasPre1 (s : List UInt8) (c : UInt8) : Lib.hasPrefix s [c] = decide (s.head? = some c) := by
 cases s with
 | nil => rfl
 | cons d s =>
  unfold Lib.hasPrefix
  rw [List.isPrefixOf, List.isPrefixOf, Bool.and_true, List.head?_cons]
  by_cases h : c = d
  ·subst h
   rw [beq_self_eq_true, decide_eq_true rfl]
  ·rw [beq_eq_false_iff_ne.2 h, decide_eq_false (fun e => h (Option.some.inj e).symm)]
set_option maxRecDepth 100000 in
theorem unprotect123 (x : List UInt8) (w : World) (hx : x.length ≤ 2000000) : Calls Tryz.prog 123 #[.string (tx (protL x))] w fun e w' => e = .returned (.tuple #[.string (tx x), .bool true]) ∧ w' = w := by
 by_cases h : x.head? = some 45
 ·obtain ⟨r, rfl⟩ : ∃ r, x = 45 :: r := by
   cases x with
   | nil => cases h
   | cons y r => exact ⟨r, by rw [Option.some.inj h]⟩
  have h1 := hasPre (protL (45 :: r)) [45]
  have h2 := hasPre (protL (45 :: r)) [45, 32, 45]
  rw [show Lib.hasPrefix (protL (45 :: r)) [45] = true from rfl] at h1
  rw [show Lib.hasPrefix (protL (45 :: r)) [45, 32, 45] = true from by
   show Lib.hasPrefix (45 :: 32 :: 45 :: r) [45, 32, 45] = true
   unfold Lib.hasPrefix
   rw [List.isPrefixOf, List.isPrefixOf, List.isPrefixOf, List.isPrefixOf]
   rfl] at h2
  have h3 : (tx (protL (45 :: r))).extract 2 (tx (protL (45 :: r))).size = tx (45 :: r) := by
   apply bl_inj
   unfold bl
   rw [Lib.extract_data, tx_data, tx_data, tx_size]
   show List.take _ (45 :: r) = _
   rw [List.take_of_length_le (by show (45 :: r).length ≤ (45 :: 32 :: 45 :: r).length - 2; simp)]
  have hz : (tx (protL (45 :: r))).size = r.length + 3 := rfl
  have hr2 : (r.length : Int) ≤ 2000000 := by have : r.length + 1 ≤ 2000000 := hx; omega
  obtain ⟨y, hy⟩ : ∃ y, tx (protL (45 :: r)) = y := ⟨_, rfl⟩
  obtain ⟨z, hz2⟩ : ∃ z, tx (45 :: r) = z := ⟨_, rfl⟩
  rw [hy] at h1 h2 h3 hz ⊢
  rw [hz2] at h3 ⊢
  have HH := Lib.hid (And.intro h1 h2)
  have hzi : (y.size : Int) = (r.length : Int) + 3 := by omega
  clear h1 h2 hy hz2 h hx hz
  go_enter Tryz.func123, Tryz.ntmps123
  go_wp2_with (first
   | (go_at_call 39; refine (HH.out.1 _).mono ?_; rintro e w2 ⟨rfl, rfl⟩)
   | (go_at_call 39; refine (HH.out.2 _).mono ?_; rintro e w2 ⟨rfl, rfl⟩))
  go_ret2
  exact ⟨rfl, rfl⟩
 ·have h1 := hasPre (protL x) [45]
  have hp : protL x = x := by unfold protL; rw [if_neg h]
  rw [hasPre1, hp, decide_eq_false h] at h1
  rw [hp]
  obtain ⟨y, hy⟩ : ∃ y, tx x = y := ⟨_, rfl⟩
  rw [hy] at h1 ⊢
  have HH := Lib.hid h1
  clear h1 hy h hp hx
  go_enter Tryz.func123, Tryz.ntmps123
  go_wp2_with (first
   | (go_at_call 39; refine (HH.out _).mono ?_; rintro e w2 ⟨rfl, rfl⟩))
  go_ret2
  exact ⟨rfl, rfl⟩
theorem joinO {w : World} {base : Nat} {e : TypeId} {v : Value} {xs : List (List UInt8)} (h : Own w base e 1 cS v (xs.map tx)) (sep : List UInt8) (hn : xs.length ≤ 100000000) (hl : (Lib.join xs sep).length ≤ 100000000) : Calls Tryz.prog 26 #[v, .string (tx sep)] w fun e w' => e = .returned (.string (tx (Lib.join xs sep))) ∧ Below w.heap.size w w' := by
 rcases own_str h with ⟨rfl, e⟩ | ⟨g, c, rfl, h1, h2, h3⟩
 ·have : xs = [] := List.map_eq_nil_iff.1 e
  subst this
  refine (Tryz.strings_Join_none none 0 (tx sep) w).mono ?_
  rintro e w' ⟨rfl, rfl⟩
  exact ⟨rfl, Below.refl _ _⟩
 ·have hm : (xs.map tx).map (·.data.toList) = xs := by
   rw [List.map_map]
   conv => rhs; rw [← List.map_id xs]
   rfl
  have := Tryz.strings_Join g 0 c (xs.map tx) (tx sep) w h3 h2 (by rw [List.length_map]; omega) h1 (by rw [hm, tx_data]; omega)
  rw [hm, tx_data] at this
  exact this
theorem RdR.atOf {w : World} {b L : Nat} {ls : List (List UInt8)} (h : RdR w b ls L) : atOf w b = L := by
 unfold Go.Proofs.YtibelollgdnidaaGreatDoor.atOf
 rw [show w.cell? ⟨b, 1, none⟩ = some (.int .i64 (L : Int)) from h.cell 1]
 simp [intOf]
theorem has13 (x : List UInt8) (w : World) (h : (13 : UInt8) ∉ x) : Calls Tryz.prog 47 #[.string (tx x), .string ⟨#[13]⟩] w fun e w' => e = .returned (.bool false) ∧ w' = w := by
 have := Tryz.strings_Contains_one (tx x) 13 w
 rw [tx_data, ← Lib.contains_iff_indexByte, show x.contains 13 = false from by rw [Bool.eq_false_iff]; intro e; exact h (List.contains_iff_mem.1 e)] at this
 exact this
theorem sep_nl : nlB sepL := by unfold nlB sepL; decide
theorem prot_cr {x : List UInt8} (h : (13 : UInt8) ∉ x) : (13 : UInt8) ∉ protL x := by
 unfold protL
 split
 ·intro hm
  rcases List.mem_cons.1 hm with e | hm
  ·exact absurd e (by decide)
  ·rcases List.mem_cons.1 hm with e | hm
   ·exact absurd e (by decide)
   ·exact h hm
 ·exact h
set_option maxRecDepth 100000 in
set_option maxHeartbeats 800000 in
theorem body82 (w0 w : World) (b : Nat) (xs : List (List UInt8)) (ls : List (List UInt8)) (L : Nat) (hL : Ldz w0 w) (hR : RdR w b (xs.map protL ++ sepL :: ls) L) (hx : ∀ x ∈ xs, nlB x ∧ (13 : UInt8) ∉ x ∧ x.length ≤ 1000000) (h0 : xs ≠ []) (hs : (lnT (xs.map protL ++ sepL :: ls)).length ≤ 2000000) (hn : L + xs.length ≤ 2000000) (hj : (Lib.join xs [10]).length ≤ 100000000) (hb : w0.heap.size ≤ b) : Calls Tryz.prog 82 #[.pointer (some ⟨b, 0, none⟩)] w fun e w' => e = .returned (.string (tx (Lib.join xs [10]))) ∧ RdR w' b ls (L + xs.length + 1) ∧ One b w w' := by
 have hbw : b < w.heap.size := hR.lt
 have HL := Lib.hid hL
 have HR := Lib.hid hR
 have HX := Lib.hid (And.intro hx (And.intro hs (And.intro hn (And.intro hb (And.intro hj h0)))))
 clear hL hR hx hs hb hj h0
 go_enter Tryz.func82, Tryz.ntmps82
 go_wp2
 go_loopw [3] (fun v wr => ∃ k : Nat, k ≤ xs.length ∧ Own wr w.heap.size 9 1 cS v ((xs.take k).map tx) ∧ RdR wr b ((xs.drop k).map protL ++ sepL :: ls) (L + k) ∧ One b w wr) (fun _ wr => L + xs.length + 2 - atOf wr b)
 case atStart => exact ⟨0, Nat.zero_le _, Own.nil _ _ _ _ _, HR.out, One.refl⟩
 case round =>
  obtain ⟨k, hk, ho, hr, h1⟩ := hrel
  have HS := Lib.hid (And.intro ho (And.intro hr h1))
  have hat := hr.atOf
  have HAT := Lib.hid hat
  clear ho hr h1 hat
  by_cases hlt : k < xs.length
  ·obtain ⟨x, hxe⟩ : ∃ x, xs[k] = x := ⟨_, rfl⟩
   have hd : xs.drop k = x :: xs.drop (k + 1) := by rw [← hxe]; exact List.drop_eq_getElem_cons hlt
   have hxx := HX.out.1 x (by rw [← hxe]; exact List.getElem_mem hlt)
   have hle : (lnT ((protL x) :: ((xs.drop (k + 1)).map protL ++ sepL :: ls))).length ≤ 2000000 := by have := HX.out.2.1; rw [← List.take_append_drop k xs, hd, List.map_append, List.append_assoc, lnT_append, List.length_append] at this; rw [List.map_cons, List.cons_append] at this; omega
   have hr2 : RdR wr b (protL x :: ((xs.drop (k + 1)).map protL ++ sepL :: ls)) (L + k) := by have := HS.out.2.1; rw [hd] at this; exact this
   have htk : xs.take (k + 1) = xs.take k ++ [x] := by rw [← hxe]; exact List.take_succ_eq_append_getElem hlt
   have HK := Lib.hid (And.intro hxx (And.intro hle (And.intro hr2 (And.intro htk hd))))
   have hne : ((tx (protL x)).toList == [45, 45, 45, 45, 45, 45, 45, 45, 45, 45, 45, 45, 45, 45, 45, 45, 45, 45, 45, 45, 45, 45, 45, 45, 45, 45, 45, 45, 45, 45]) = false := by
    have := tx_beql (protL x) sepL
    rw [decide_eq_false (prot_sep x)] at this
    exact this
   clear hxx hle hr2 htk hd hxe
   go_wp2_with (first
    | (go_at_call 35; refine (next35 w0 _ b (protL x) _ (L + k) (HL.out.one HS.out.2.2 HX.out.2.2.2.1) HK.out.2.2.1 (prot_nl HK.out.1.1) HK.out.2.1 (by omega) HX.out.2.2.2.1).mono ?_; rintro e w1 ⟨rfl, hr1, ho1⟩; have R1 := Lib.hid hr1; have O1 := Lib.hid ho1; have c2 : w1.cell? ⟨b, 2, none⟩ = some (.int .i64 0) := hr1.cell 2; clear hr1 ho1)
    | (go_at_call 123; refine (unprotect123 x _ (by have := HK.out.1.2.2; omega)).mono ?_; rintro e w2 ⟨rfl, rfl⟩)
    | (go_at_call 47; refine (has13 (protL x) _ (prot_cr HK.out.1.2.1)).mono ?_; rintro e w3 ⟨rfl, rfl⟩)
    | (at_builtin; go_loud (refine wpList_append_sl _ rfl (.tmp 38) (.tmp 40) 29 rfl w.heap.size 9 1 16 cS underSs rowS (by decide) cS_length cS_one u3 ((xs.take k).map tx) rfl (Own.keep (Own.one HS.out.1 O1.out hbw) (below_alloc _ _)) _ 1 _ [tx x] rfl rfl (sl_newS _ _) (by rw [List.length_map, List.length_take]; omega) (by rw [List.length_map, List.length_take]; omega) (by have := HS.out.2.2.size; have := O1.out.size; rw [World.size_alloc]; omega) ?_)))
   intro v2 w4 ho hg
   have ho3 := Own.keep (Own.one HS.out.1 O1.out hbw) (below_alloc w3 (Obj.cells #[.string (tx x)] 9))
   have hr4 := Row.grew (Row.keep R1.out (below_alloc w3 (Obj.cells #[.string (tx x)] 9))) ho3 hg hbw
   have ho4 := One.grew ((HS.out.2.2.trans O1.out).trans (One.of_below (below_alloc w3 (Obj.cells #[.string (tx x)] 9)))) ho3 hg (Nat.le_refl _)
   have H4 := Lib.hid (And.intro ho (And.intro hr4 ho4))
   clear ho hg ho3 hr4 ho4
   go_wp2
   refine ⟨⟨k + 1, hlt, by rw [HK.out.2.2.2.1, List.map_append]; have := H4.out.1; rw [← List.map_take] at this; exact this, by rw [show L + (k + 1) = L + k + 1 from rfl]; exact H4.out.2.1, H4.out.2.2⟩, ?_⟩
   rw [RdR.atOf (show RdR w4 b _ (L + k + 1) from H4.out.2.1), HAT.out]
   omega
  ·obtain rfl : k = xs.length := by omega
   have hr2 : RdR wr b (sepL :: ls) (L + xs.length) := by have := HS.out.2.1; rw [List.drop_length] at this; exact this
   have ho2 : Own wr w.heap.size 9 1 cS u3 (xs.map tx) := by have := HS.out.1; rw [List.take_length] at this; exact this
   have hle : (lnT (sepL :: ls)).length ≤ 2000000 := by have := HX.out.2.1; rw [lnT_append, List.length_append] at this; omega
   obtain ⟨A, c, hv, hc, -⟩ := ho2.sl
   rw [List.length_map] at hv hc
   have HK := Lib.hid (And.intro hr2 (And.intro ho2 hle))
   have hne : ((tx sepL).toList == [45, 45, 45, 45, 45, 45, 45, 45, 45, 45, 45, 45, 45, 45, 45, 45, 45, 45, 45, 45, 45, 45, 45, 45, 45, 45, 45, 45, 45, 45]) = true := by
    have := tx_beql sepL sepL
    rw [decide_eq_true rfl] at this
    exact this
   have hpos : 0 < xs.length := List.length_pos_iff.2 HX.out.2.2.2.2.2
   have hpi : 0 < (xs.length : Int) := by omega
   clear hr2 ho2 hle
   subst hv
   go_wp2_with (first
    | (go_at_call 35; refine (next35 w0 _ b sepL ls (L + xs.length) (HL.out.one HS.out.2.2 HX.out.2.2.2.1) HK.out.1 sep_nl HK.out.2.2 (by omega) HX.out.2.2.2.1).mono ?_; rintro e w1 ⟨rfl, hr1, ho1⟩; have R1 := Lib.hid hr1; have O1 := Lib.hid ho1; have c2 : w1.cell? ⟨b, 2, none⟩ = some (.int .i64 0) := hr1.cell 2; clear hr1 ho1)
    | (go_at_call 26; refine (joinO (Own.one HK.out.2.1 O1.out hbw) [10] (by omega) HX.out.2.2.2.2.1).mono ?_; rintro e w2 ⟨rfl, hb2⟩; have R2 := Lib.hid (And.intro (Row.keep R1.out hb2) (One.trans (One.trans HS.out.2.2 O1.out) (One.of_below hb2))); clear hb2))
   go_ret
   exact ⟨rfl, R2.out.1, R2.out.2⟩
def ctL (l : List UInt8) : List UInt8 := [32, 32] ++ l
theorem ct_sep (l : List UInt8) : ctL l ≠ sepL := by
 intro e
 have h2 : (some 32 : Option UInt8) = some 45 := congrArg (fun x : List UInt8 => x[0]?) e
 exact absurd h2 (by decide)
theorem ct_nl {l : List UInt8} (h : nlB l) : nlB (ctL l) := by
 unfold ctL nlB at *
 intro hm
 rcases List.mem_append.1 hm with hm | hm
 ·exact absurd hm (by decide)
 ·exact h hm
set_option maxRecDepth 100000 in
set_option maxHeartbeats 800000 in
theorem contents38 (w0 w : World) (b : Nat) (xs : List (List UInt8)) (ls : List (List UInt8)) (L : Nat) (hL : Ldz w0 w) (hR : RdR w b (xs.map ctL ++ sepL :: ls) L) (hx : ∀ x ∈ xs, nlB x) (hs : (lnT (xs.map ctL ++ sepL :: ls)).length ≤ 2000000) (hn : L + xs.length ≤ 2000000) (hb : w0.heap.size ≤ b) : Calls Tryz.prog 38 #[.pointer (some ⟨b, 0, none⟩)] w fun e w' => ∃ v, e = .returned v ∧ Own w' w.heap.size 9 1 cS v (xs.map tx) ∧ RdR w' b ls (L + xs.length + 1) ∧ One b w w' := by
 have hbw : b < w.heap.size := hR.lt
 have HL := Lib.hid hL
 have HR := Lib.hid hR
 have HX := Lib.hid (And.intro hx (And.intro hs (And.intro hn hb)))
 clear hL hR hx hs hb
 go_enter Tryz.func38, Tryz.ntmps38
 go_wp2
 go_loopw [3] (fun v wr => ∃ k : Nat, k ≤ xs.length ∧ Own wr w.heap.size 9 1 cS v ((xs.take k).map tx) ∧ RdR wr b ((xs.drop k).map ctL ++ sepL :: ls) (L + k) ∧ One b w wr) (fun _ wr => L + xs.length + 2 - atOf wr b)
 case atStart => exact ⟨0, Nat.zero_le _, Own.nil _ _ _ _ _, HR.out, One.refl⟩
 case round =>
  obtain ⟨k, hk, ho, hr, h1⟩ := hrel
  have HS := Lib.hid (And.intro ho (And.intro hr h1))
  have hat := hr.atOf
  have HAT := Lib.hid hat
  clear ho hr h1 hat
  by_cases hlt : k < xs.length
  ·obtain ⟨x, hxe⟩ : ∃ x, xs[k] = x := ⟨_, rfl⟩
   have hd : xs.drop k = x :: xs.drop (k + 1) := by rw [← hxe]; exact List.drop_eq_getElem_cons hlt
   have hxx := HX.out.1 x (by rw [← hxe]; exact List.getElem_mem hlt)
   have hle : (lnT ((ctL x) :: ((xs.drop (k + 1)).map ctL ++ sepL :: ls))).length ≤ 2000000 := by have := HX.out.2.1; rw [← List.take_append_drop k xs, hd, List.map_append, List.append_assoc, lnT_append, List.length_append] at this; rw [List.map_cons, List.cons_append] at this; omega
   have hr2 : RdR wr b (ctL x :: ((xs.drop (k + 1)).map ctL ++ sepL :: ls)) (L + k) := by have := HS.out.2.1; rw [hd] at this; exact this
   have htk : xs.take (k + 1) = xs.take k ++ [x] := by rw [← hxe]; exact List.take_succ_eq_append_getElem hlt
   have HK := Lib.hid (And.intro hxx (And.intro hle (And.intro hr2 (And.intro htk hd))))
   have hne : ((tx (ctL x)).toList == [45, 45, 45, 45, 45, 45, 45, 45, 45, 45, 45, 45, 45, 45, 45, 45, 45, 45, 45, 45, 45, 45, 45, 45, 45, 45, 45, 45, 45, 45]) = false := by
    have := tx_beql (ctL x) sepL
    rw [decide_eq_false (ct_sep x)] at this
    exact this
   clear hxx hle hr2 htk hd hxe
   go_wp2_with (first
    | (go_at_call 35; refine (next35 w0 _ b (ctL x) _ (L + k) (HL.out.one HS.out.2.2 HX.out.2.2.2) HK.out.2.2.1 (ct_nl HK.out.1) HK.out.2.1 (by omega) HX.out.2.2.2).mono ?_; rintro e w1 ⟨rfl, hr1, ho1⟩; have R1 := Lib.hid hr1; have O1 := Lib.hid ho1; have c2 : w1.cell? ⟨b, 2, none⟩ = some (.int .i64 0) := hr1.cell 2; clear hr1 ho1)
    | (go_at_call 75; refine (value_any _ b _ (L + k + 1) (ctL x) x _ R1.out rfl).mono ?_; rintro e w3 ⟨rfl, hb3⟩; have R3 := Lib.hid (Row.keep R1.out hb3); have O3 := Lib.hid (O1.out.trans (One.of_below hb3)); clear hb3)
    | (at_builtin; refine wpList_append_sl _ rfl (.tmp 17) (.tmp 21) 29 rfl w.heap.size 9 1 16 cS underSs rowS (by decide) cS_length cS_one u3 ((xs.take k).map tx) rfl (Own.keep (Own.one HS.out.1 O3.out hbw) (below_alloc _ _)) _ 1 _ [tx x] rfl rfl (sl_newS _ _) (by rw [List.length_map, List.length_take]; omega) (by rw [List.length_map, List.length_take]; omega) (by have := HS.out.2.2.size; have := O3.out.size; rw [World.size_alloc]; omega) ?_))
   intro v2 w4 ho hg
   have ho3 := Own.keep (Own.one HS.out.1 O3.out hbw) (below_alloc w3 (Obj.cells #[.string (tx x)] 9))
   have hr4 := Row.grew (Row.keep R3.out (below_alloc w3 (Obj.cells #[.string (tx x)] 9))) ho3 hg hbw
   have ho4 := One.grew ((HS.out.2.2.trans O3.out).trans (One.of_below (below_alloc w3 (Obj.cells #[.string (tx x)] 9)))) ho3 hg (Nat.le_refl _)
   have H4 := Lib.hid (And.intro ho (And.intro hr4 ho4))
   clear ho hg ho3 hr4 ho4
   go_wp2
   refine ⟨⟨k + 1, hlt, by rw [HK.out.2.2.2.1, List.map_append]; have := H4.out.1; rw [← List.map_take] at this; exact this, by rw [show L + (k + 1) = L + k + 1 from rfl]; exact H4.out.2.1, H4.out.2.2⟩, ?_⟩
   rw [RdR.atOf (show RdR w4 b _ (L + k + 1) from H4.out.2.1), HAT.out]
   omega
  ·obtain rfl : k = xs.length := by omega
   have hr2 : RdR wr b (sepL :: ls) (L + xs.length) := by have := HS.out.2.1; rw [List.drop_length] at this; exact this
   have ho2 : Own wr w.heap.size 9 1 cS u3 (xs.map tx) := by have := HS.out.1; rw [List.take_length] at this; exact this
   have hle : (lnT (sepL :: ls)).length ≤ 2000000 := by have := HX.out.2.1; rw [lnT_append, List.length_append] at this; omega
   have HK := Lib.hid (And.intro hr2 (And.intro ho2 hle))
   have hne : ((tx sepL).toList == [45, 45, 45, 45, 45, 45, 45, 45, 45, 45, 45, 45, 45, 45, 45, 45, 45, 45, 45, 45, 45, 45, 45, 45, 45, 45, 45, 45, 45, 45]) = true := by
    have := tx_beql sepL sepL
    rw [decide_eq_true rfl] at this
    exact this
   clear hr2 ho2 hle
   go_wp2_with (first
    | (go_at_call 35; refine (next35 w0 _ b sepL ls (L + xs.length) (HL.out.one HS.out.2.2 HX.out.2.2.2) HK.out.1 sep_nl HK.out.2.2 (by omega) HX.out.2.2.2).mono ?_; rintro e w1 ⟨rfl, hr1, ho1⟩; have R1 := Lib.hid hr1; have O1 := Lib.hid ho1; have c2 : w1.cell? ⟨b, 2, none⟩ = some (.int .i64 0) := hr1.cell 2; clear hr1 ho1))
   go_ret
   exact ⟨_, rfl, Own.one HK.out.2.1 O1.out hbw, R1.out, HS.out.2.2.trans O1.out⟩
end Go.Proofs.YtibelollgdnidaaGreatDoor
