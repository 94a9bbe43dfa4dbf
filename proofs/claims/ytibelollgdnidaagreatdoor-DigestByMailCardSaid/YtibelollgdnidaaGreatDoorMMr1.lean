/- field's parser: body; Parse. -/
import Derived.Test.YtibelollgdnidaaGreatDoorMPs3
namespace Go.Proofs.YtibelollgdnidaaGreatDoor
open Go.RowKit
theorem lnL_split (nm : List UInt8) {ws : List (List UInt8)} {k : Nat} (hk : k < ws.length) : lnL nm ws = lnL nm (ws.take k) ++ 32 :: (ws[k] ++ (ws.drop (k + 1)).flatMap (fun x => 32 :: x)) := by
 have e : ws = ws.take k ++ ws[k] :: ws.drop (k + 1) := by rw [← List.drop_eq_getElem_cons hk, List.take_append_drop]
 conv => lhs; rw [e]
 unfold lnL
 rw [List.flatMap_append, List.flatMap_cons]
 simp
theorem ln_word {nm : List UInt8} {ws : List (List UInt8)} (h : FlOk nm ws) {t r : List UInt8} {f k : Nat} (hk : k < ws.length) (ht : t.drop f = lnL nm ws ++ 10 :: r) : WdOk (tx t) (f + (lnL nm (ws.take k)).length) (f + (lnL nm (ws.take (k + 1))).length) (f + (lnL nm ws).length) ws[k] := by
 have hm : ws[k] ∈ ws := List.getElem_mem _
 have h78 := ws_len h ws[k] hm
 have e0 := lnL_split nm hk
 have e1 := lnL_take (nm := nm) hk
 obtain ⟨l, hl⟩ : ∃ l, (ws.drop (k + 1)).flatMap (fun x => 32 :: x) = l := ⟨_, rfl⟩
 have hl2 : l = [] ∨ l.head? = some 32 := by
  rw [← hl]
  cases ws.drop (k + 1) with
  | nil => exact .inl rfl
  | cons y z => exact .inr rfl
 rw [hl] at e0
 have ht2 : t.drop (f + (lnL nm (ws.take k)).length) = (32 :: (ws[k] ++ l)) ++ 10 :: r := by
  rw [← List.drop_drop, ht, e0, List.append_assoc, List.drop_left]
 have := WdOk.of ht2 (h.wg _ hm).1 (by omega) (h.wp _ hm) hl2
 have q1 : f + (lnL nm (ws.take (k + 1))).length = f + (lnL nm (ws.take k)).length + 1 + ws[k].length := by rw [e1, List.length_append, List.length_cons]; omega
 have q2 : f + (lnL nm ws).length = f + (lnL nm (ws.take k)).length + 1 + ws[k].length + l.length := by rw [e0, List.length_append, List.length_cons, List.length_append]; omega
 rw [q1, q2]
 exact this
set_option maxRecDepth 100000 in
set_option maxHeartbeats 3200000 in
theorem body63 (p f : Nat) (t nm r : List UInt8) (ws : List (List UInt8)) (F : Int) (v : Value) (fs : List Fb) (w : World) (h : PsS p (tx t) F ((f + (lnL nm ws).length : Nat) : Int) ((f + nm.length + 1 : Nat) : Int) v (fs ++ [(nm, [])]) w) (ho : FlOk nm ws) (ht : t.drop f = lnL nm ws ++ 10 :: r) (htl : t.length ≤ 60000) (hfs : fs.length ≤ 60) : Calls Tryz.prog 63 #[.pointer (some ⟨p, 0, none⟩)] w fun e' w' => e' = .returned (.tuple #[]) ∧ PsS p (tx t) F ((f + (lnL nm ws).length : Nat) : Int) ((f + (lnL nm ws).length : Nat) : Int) v (fs ++ [(nm, bdL ws)]) w' ∧ Below p w w' := by
 obtain ⟨n, hn⟩ : ∃ n, ws.length = n := ⟨_, rfl⟩
 obtain ⟨T, hT⟩ : ∃ T, tx t = T := ⟨_, rfl⟩
 obtain ⟨e, he⟩ : ∃ e, f + (lnL nm ws).length = e := ⟨_, rfl⟩
 have hzT : T.size ≤ 60000 := by rw [← hT, tx_size]; exact htl
 have HWD := Lib.hid (fun k (hk : k < ws.length) => ln_word ho hk ht)
 have HBD := Lib.hid (fun k (hk : k < ws.length) => bd_step ho k hk)
 have HBL := Lib.hid (show ∀ k, (bdL (ws.take k)).length ≤ 900 from fun k => by
  have h1 := lnL_le nm ws k
  have h2 := ho.len
  have h3 : (bdL (ws.take k)).length ≤ (lnL nm (ws.take k)).length := by
   unfold lnL
   cases hq : ws.take k with
   | nil => simp [bdL, Lib.join]
   | cons x l =>
    rw [List.length_append, List.length_cons, ← bd_cons x l, List.length_cons]
    omega
  unfold lnL at h1 h3
  omega)
 rw [hT] at HWD h ⊢
 rw [he] at HWD h ⊢
 have h0 : f + nm.length + 1 = f + (lnL nm (ws.take 0)).length := by
  unfold lnL
  rw [List.length_append, List.length_cons]
  simp
  omega
 rw [h0] at h
 have HPW := Lib.hid (Row.lt h.row)
 have H := Lib.hid (show PsS p T F (e : Int) ((f + (lnL nm (ws.take 0)).length : Nat) : Int) v (fs ++ [(nm, bdL (ws.take 0))]) w from h)
 have HE := Lib.hid (And.intro he hn)
 have HFS := Lib.hid hfs
 clear h h0 ho ht htl he hn hT hfs
 go_enter Tryz.func63, Tryz.ntmps63
 go_wp2
 go_loopw [] (fun wr => ∃ k : Nat, k ≤ n ∧ PsS p T F (e : Int) ((f + (lnL nm (ws.take k)).length : Nat) : Int) v (fs ++ [(nm, bdL (ws.take k))]) wr ∧ Below p w wr) (fun wr => e - stM p wr)
 case atStart => exact ⟨0, Nat.zero_le _, H.out, Below.refl _ _⟩
 case round =>
  obtain ⟨k, hk, hps, hbw⟩ := hrel
  have HB := Lib.hid (And.intro hps hbw)
  clear hps hbw
  by_cases hlt : k < n
  ·have hkh : k < ws.length := by rw [HE.out.2]; exact hlt
   go_wp2_with (go_at_call 105; refine (word105 p _ _ e T F v fs nm (bdL (ws.take k)) ws[k] _ HB.out.1 (HWD.out k hkh) hzT (HBL.out k) HFS.out).mono ?_; rintro e2 w2 ⟨rfl, h2, b2⟩; rw [HBD.out k hkh] at h2; have S2 := Lib.hid (And.intro h2 b2); clear h2 b2)
   go_roundw
   case rel => exact ⟨k + 1, hlt, S2.out.1, HB.out.2.trans S2.out.2⟩
   case measure =>
    rw [stM_at (Row.cell HB.out.1.row 3), stM_at (Row.cell S2.out.1.row 3)]
    have h1 := (HWD.out k hkh).le
    have h2 := (HWD.out k hkh).lt
    omega
  ·obtain rfl : k = n := by omega
   have hT2 : ws.take k = ws := List.take_of_length_le (by rw [HE.out.2]; exact Nat.le_refl _)
   have h1 := HB.out.1
   have hbl := HBL.out k
   rw [hT2, HE.out.1] at h1
   rw [hT2] at hbl
   have S1 := Lib.hid (And.intro h1 HB.out.2)
   clear h1 HB
   go_wp2_with (go_at_call 105; refine (word105_end p e T F v _ _ S1.out.1).mono ?_; rintro e2 w2 ⟨rfl, h2, b2⟩; have S2 := Lib.hid (And.intro h2 (Below.on S1.out.2 (Nat.le_of_lt HPW.out) b2)); clear h2 b2)
   obtain ⟨g, c, rfl, -⟩ := own_last S2.out.1.own
   obtain ⟨m, hm⟩ : ∃ m, fs.length = m := ⟨_, rfl⟩
   rw [hm] at S2
   have hm6 : (m : Int) ≤ 60 := by have := HFS.out; omega
   have HM := Lib.hid hm
   have q4 : ∀ j, (w2.drewN j).cell? ⟨p, 4, none⟩ = some (.slice (some ⟨g, 0, none⟩) (m + 1) c) := fun j => (Row.keep S2.out.1.row (below_drewN w2 j)).cell 4
   have q5 : ∀ j, (w2.drewN j).cell? ⟨p, 5, none⟩ = some (.int .i64 0) := fun j => (Row.keep S2.out.1.row (below_drewN w2 j)).cell 5
   have qb : ∀ j, (w2.drewN j).cell? ⟨g, m * 2 + 1, none⟩ = some (.string (tx (bdL ws))) := fun j => ((S2.out.1.keep (below_drewN w2 j)).last HM.out).1
   obtain ⟨B, hB⟩ : ∃ B, tx (bdL ws) = B := ⟨_, rfl⟩
   have hzB : B.size ≤ 900 := by rw [← hB, tx_size]; exact hbl
   have hzB2 : ¬ 8192 < (B.size : Int) := by omega
   rw [hB] at qb
   clear hB hbl hm
   go_quiet (fail)
   go_wp2
   go_end0
   exact ⟨rfl, by rw [HM.out]; exact S2.out.1.keep (below_drewN w2 _), Below.on S2.out.2 (Nat.le_of_lt HPW.out) (below_drewN w2 _)⟩
theorem hdT_drop {fs : List Fld} {k : Nat} (hk : k < fs.length) : (hdT fs).drop (hdT (fs.take k)).length = lnL fs[k].1 fs[k].2 ++ 10 :: hdT (fs.drop (k + 1)) := by
 have e : fs = fs.take k ++ fs[k] :: fs.drop (k + 1) := by rw [← List.drop_eq_getElem_cons hk, List.take_append_drop]
 have e2 : hdT fs = hdT (fs.take k) ++ (lnL fs[k].1 fs[k].2 ++ 10 :: hdT (fs.drop (k + 1))) := by
  conv => lhs; rw [e]
  unfold hdT
  rw [List.flatMap_append, List.flatMap_cons]
  simp
 rw [e2, List.drop_left]
def fbs (fs : List Fld) : List Fb := fs.map fun f => (f.1, bdL f.2)
theorem fbs_take {fs : List Fld} {k : Nat} (hk : k < fs.length) : fbs (fs.take (k + 1)) = fbs (fs.take k) ++ [(fs[k].1, bdL fs[k].2)] := by
 unfold fbs
 rw [List.take_succ_eq_append_getElem hk, List.map_append]
 rfl
set_option maxRecDepth 100000 in
set_option maxHeartbeats 3200000 in
theorem parse28 (fs : List Fld) (w : World) (hf : ∀ f ∈ fs, FlOk f.1 f.2) (hl : fs.length ≤ 6) : Calls Tryz.prog 28 #[.string (tx (hdT fs))] w fun e w' => ∃ v, e = .returned (.tuple #[v, .int .i64 0, .int .i64 0]) ∧ Own w' w.heap.size 67 2 cF2 v (fbs fs) ∧ Below w.heap.size w w' := by
 obtain ⟨n, hn⟩ : ∃ n, fs.length = n := ⟨_, rfl⟩
 obtain ⟨t, ht⟩ : ∃ t, hdT fs = t := ⟨_, rfl⟩
 obtain ⟨T, hT⟩ : ∃ T, tx t = T := ⟨_, rfl⟩
 obtain ⟨p, hp⟩ : ∃ p, w.heap.size = p := ⟨_, rfl⟩
 have htl : t.length ≤ 600 := by have := hdT_len fs hf; rw [ht] at this; omega
 have hzT : T.size = t.length := by rw [← hT, tx_size]
 have hz6 : ¬ 65536 < (T.size : Int) := by omega
 have HF := Lib.hid (And.intro hf (And.intro hl (And.intro hn (And.intro ht (And.intro hT (And.intro htl hzT))))))
 have hrow := Row.new w [.string T, .int .i64 0, .int .i64 0, .int .i64 0, .slice none 0 0, .int .i64 0] 106
 have H := Lib.hid (show PsS p T 0 0 0 (.slice none 0 0) [] (w.alloc (.cells #[.string T, .int .i64 0, .int .i64 0, .int .i64 0, .slice none 0 0, .int .i64 0] 106)) ∧ Below p w (w.alloc (.cells #[.string T, .int .i64 0, .int .i64 0, .int .i64 0, .slice none 0 0, .int .i64 0] 106)) from hp ▸ ⟨⟨hrow, Own.nil _ _ _ _ _⟩, below_alloc _ _⟩)
 rw [ht, hT]
 clear hrow hf hl hn ht hT htl hzT
 go_enter Tryz.func28, Tryz.ntmps28
 go_wp2
 go_loopw [6] (fun i wr => ∃ k : Nat, k ≤ n ∧ i = .int .i64 ((hdT (fs.take k)).length : Int) ∧ ∃ a b c v, PsS p T a b c v (fbs (fs.take k)) wr ∧ Below p w wr) (fun i _ => T.size + 1 - (intOf i).toNat)
 case atStart => exact ⟨0, Nat.zero_le _, rfl, 0, 0, 0, _, H.out.1, H.out.2⟩
 case round =>
  obtain ⟨k, hk, rfl, a, b, c, v, hps, hbw⟩ := hrel
  have q5 := Row.cell hps.row 5
  have HB := Lib.hid (And.intro hps hbw)
  clear hps hbw
  by_cases hlt : k < n
  ·have hkh : k < fs.length := by rw [HF.out.2.2.1]; exact hlt
   have hdr := hdT_drop hkh
   have htk := hdT_take hkh
   have hft := fbs_take hkh
   have hfo := HF.out.1 fs[k] (List.getElem_mem _)
   rw [HF.out.2.2.2.1] at hdr
   obtain ⟨o, ho⟩ : ∃ o, (hdT (fs.take k)).length = o := ⟨_, rfl⟩
   obtain ⟨⟨nm, ws⟩, hfk⟩ : ∃ f, fs[k] = f := ⟨_, rfl⟩
   have ho2 : (hdT (fs.take (k + 1))).length = o + (lnL nm ws).length + 1 := by rw [htk, List.length_append, ho, hfk, List.length_append]; simp; omega
   rw [hfk] at hdr hft hfo
   rw [ho] at hdr ⊢
   have hln : o + (lnL nm ws).length + 1 ≤ T.size := by
    have := congrArg List.length hdr
    simp only [List.length_drop, List.length_append, List.length_cons] at this
    have := HF.out.2.2.2.2.2.2
    omega
   have hoT : (o : Int) < (T.size : Int) := by omega
   have HO := Lib.hid (And.intro hdr (And.intro ho2 (And.intro hft (And.intro hfo (And.intro ho hln)))))
   have hl78 := hfo.len
   clear hdr ho2 hft hfo ho htk hln hfk
   have HL := Lib.hid hl78
   clear hl78
   have HPW := Lib.hid (Row.lt HB.out.1.row)
   obtain ⟨en, hen⟩ : ∃ en, o + (lnL nm ws).length = en := ⟨_, rfl⟩
   have HEN := Lib.hid hen
   have hen6 : (en : Int) ≤ 60000 := by have := HO.out.2.2.2.2.2; have := HF.out.2.2.2.2.2.1; have := HF.out.2.2.2.2.2.2; omega
   clear hen
   go_wp2_with (first
    | (go_at_call 61; refine (line61 p o t (lnL nm ws) (hdT (fs.drop (k + 1))) b c a v _ (by rw [HF.out.2.2.2.2.1]; exact HB.out.1.row) HO.out.1 (by have := HF.out.2.2.2.2.2.1; omega) (Nat.le_trans HL.out (by decide)) (ln_ok HO.out.2.2.2.1)).mono ?_; rintro e1 w1 ⟨rfl, h1, o1⟩; have S1 := Lib.hid (show PsS p (tx t) (o : Int) ((o : Int) + ((lnL nm ws).length : Int)) (o : Int) v (fbs (fs.take k)) w1 ∧ Below p w w1 from ⟨⟨h1, HB.out.1.own.one o1 (Nat.lt_succ_self _)⟩, HB.out.2.trans (o1.below (Nat.le_refl _) (Nat.le_of_lt HPW.out))⟩); clear h1 o1)
    | (go_at_call 62; refine (name62 p o t nm (ws.flatMap (fun x => 32 :: x)) (10 :: hdT (fs.drop (k + 1))) v _ _ S1.out.1 HO.out.1 (by have := HF.out.2.2.2.2.2.1; omega) (Nat.le_trans HL.out (by decide)) HO.out.2.2.2.1.n0 HO.out.2.2.2.1.n40 HO.out.2.2.2.1.nl (by have := HF.out.2.1; unfold fbs; rw [List.length_map, List.length_take]; omega)).mono ?_; rintro e2 w2 ⟨rfl, v2, h2, b2⟩; have S2 := Lib.hid (And.intro h2 (S1.out.2.trans b2)); clear h2 b2 S1)
    | (go_at_call 63; refine (body63 p o t nm (hdT (fs.drop (k + 1))) ws (o : Int) v2 (fbs (fs.take k)) _ S2.out.1 HO.out.2.2.2.1 HO.out.1 (by have := HF.out.2.2.2.2.2.1; omega) (by have := HF.out.2.1; unfold fbs; rw [List.length_map, List.length_take]; omega)).mono ?_; rintro e3 w3 ⟨rfl, h3, b3⟩; rw [HEN.out] at h3; have r2 := Row.cell h3.row 2; have S3 := Lib.hid (And.intro h3 (S2.out.2.trans b3)); clear h3 b3 S2))
   go_roundw
   case rel =>
    refine ⟨k + 1, hlt, ?_, (o : Int), (en : Int), (en : Int), v2, ?_, S3.out.2⟩
    ·rw [HO.out.2.1, HEN.out]
     go_num
    ·have := S3.out.1
     rw [HF.out.2.2.2.2.1] at this
     rw [HO.out.2.2.1]
     exact this
   case measure =>
    have := HEN.out
    have := HO.out.2.2.2.2.2
    simp [intOf]
    omega
  ·obtain rfl : k = n := by omega
   have hT2 : fs.take k = fs := List.take_of_length_le (by rw [HF.out.2.2.1]; exact Nat.le_refl _)
   have ho : (hdT (fs.take k)).length = T.size := by rw [hT2, HF.out.2.2.2.1, HF.out.2.2.2.2.2.2]
   have hB1 := HB.out.1
   have hoT : ¬ (T.size : Int) < (T.size : Int) := by omega
   rw [hT2] at hB1
   rw [ho]
   have q4 := Row.cell hB1.row 4
   have S1 := Lib.hid hB1
   clear hB1 hT2 ho
   go_wp2
   go_ret3
   exact ⟨_, rfl, S1.out.own.mono (by omega), HB.out.2⟩
open Go.RowKit
theorem ldAd {W : World} {b : Nat} {v0 v1 : Value} (h : Row W b [v0, v1] 45) : (loadVar 45 ⟨b, 0, none⟩).run Tryz.prog W = .ok (.agg #[v0, v1]) W := by
 have := h.at_ (k := 0) (n := 2) (ds := [v0, v1]) rfl
 exact run_loadVar_at W _ 45 [v0, v1] _ this Tryz.underlying45 rfl (by kernel_rfl)
theorem countB_one {c : UInt8} {x y : List UInt8} (hx : c ∉ x) (hy : c ∉ y) : Lib.countByte (x ++ c :: y) c = 1 := by
 unfold Lib.countByte
 rw [List.count_append, List.count_cons_self, List.count_eq_zero.2 hx, List.count_eq_zero.2 hy]
set_option maxRecDepth 100000 in
set_option maxHeartbeats 1600000 in
theorem parseAddr64 (x y : List UInt8) (w0 w : World) (hL : Ldz w0 w) (hx : x.all loB = true) (hxl : x.length ≤ 40) (h64x : (64 : UInt8) ∉ x) (h64y : (64 : UInt8) ∉ y) (hs : siteB y = true) (hy : y.length ≤ 30) :
  Calls Tryz.prog 64 #[.string (tx (x ++ 64 :: y))] w fun e w' => e = .returned (.tuple #[.agg #[.string (tx x), .string (tx y)], .int .i64 0]) ∧ Below w.heap.size w w' := by
 obtain ⟨S, hS⟩ : ∃ S, tx (x ++ 64 :: y) = S := ⟨_, rfl⟩
 obtain ⟨X, hX⟩ : ∃ S, tx x = S := ⟨_, rfl⟩
 obtain ⟨Y, hY⟩ : ∃ S, tx y = S := ⟨_, rfl⟩
 have hCn := fun u : World => Tryz.strings_Count_one S 64 u
 have hCt := fun (u : World) (hu : Ldz w0 u) => (by
  obtain ⟨m, hm⟩ := hu.len
  exact Tryz.strings_Cut S ⟨#[64]⟩ m u (by rw [← hS, tx_size, List.length_append, List.length_cons]; omega) hm : Calls Tryz.prog 73 #[.string S, .string ⟨#[64]⟩] u fun e w' => e = .returned (.tuple #[.string ⟨(Lib.cut S.data.toList [64]).1.toArray⟩, .string ⟨(Lib.cut S.data.toList [64]).2.1.toArray⟩, .bool (Lib.cut S.data.toList [64]).2.2]) ∧ ∃ n, w' = u.drewN n)
 have hd : S.data.toList = x ++ 64 :: y := by rw [← hS, tx_data]
 rw [hd, countB_one h64x h64y] at hCn
 rw [hd, cut_at h64x] at hCt
 simp only [show (⟨x.toArray⟩ : ByteArray) = X from hX, show (⟨y.toArray⟩ : ByteArray) = Y from hY] at hCt
 have hU := fun u : World => isUser90 (tx x) (uOk x hx) hxl u
 have hT := fun u : World => site_yes (tx y) (by rw [bl_tx]; exact hs) u (by rw [tx_size]; omega)
 rw [hX] at hU
 rw [hY] at hT
 rw [hS, hX, hY]
 have HC := Lib.hid (And.intro hCn (And.intro hCt (And.intro hU hT)))
 obtain ⟨W1, hW1⟩ : ∃ W, w.alloc (.cells #[.string ⟨#[]⟩, .string ⟨#[]⟩] 45) = W := ⟨_, rfl⟩
 have r1 := Row.new w [.string ⟨#[]⟩, .string ⟨#[]⟩] 45
 have b1 := below_alloc w (.cells #[.string ⟨#[]⟩, .string ⟨#[]⟩] 45)
 rw [hW1] at b1
 rw [show w.alloc (.cells [.string ⟨#[]⟩, .string ⟨#[]⟩].toArray 45) = W1 from hW1] at r1
 have S1 := Lib.hid (And.intro (hL.keep b1) (And.intro b1 r1))
 clear hCn hCt hU hT hd hS hX hY hL hx hxl h64x h64y hs hy b1 r1
 go_enter Tryz.func64, Tryz.ntmps64
 go_wp2_with (first
  | (go_at_call 106; refine (HC.out.1 _).mono ?_; rintro e w2 ⟨rfl, rfl⟩)
  | (go_at_call 73; refine (HC.out.2.1 _ S1.out.1).mono ?_; rintro e w3 ⟨rfl, n3, hw3⟩; have r3 := S1.out.2.2.keep (w' := w3) (by rw [hw3]; exact below_drewN _ _); have b3 := Below.step S1.out.2.1 (w2 := w3) (by rw [hw3]; exact below_drewN _ _); have k0 := r3.cell 0; have k1 := r3.cell 1; have f0 := r3.fz 0; have f1 := r3.fz 1; have S3 := Lib.hid (And.intro b3 r3); clear b3 r3 hw3)
  | (go_at_call 90; refine (HC.out.2.2.1 _).mono ?_; rintro e w4 ⟨rfl, rfl⟩)
  | (go_at_call 31; refine (HC.out.2.2.2 _).mono ?_; rintro e w5 ⟨⟨a5, rfl⟩, rfl⟩))
 have r6 := (Row.set S3.out.2 0 (.string X)).set 1 (.string Y)
 refine bodyPost_ret (results_c2 (ad := ⟨w.heap.size, 0, none⟩) rfl rfl (ldAd r6) rfl) rfl ⟨rfl, ?_⟩
 exact (S3.out.1.setCell (Nat.le_refl _) _).setCell (Nat.le_refl _) _
end Go.Proofs.YtibelollgdnidaaGreatDoor
