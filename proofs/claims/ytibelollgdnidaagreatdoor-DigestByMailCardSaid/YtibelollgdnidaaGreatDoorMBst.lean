/- digest: Burst. -/
import Derived.Test.YtibelollgdnidaaGreatDoorMBsp
namespace Go.Proofs.YtibelollgdnidaaGreatDoor
open Go.RowKit
structure DgOk (t : List UInt8) (n dt : Nat) (xs : List It) : Prop where
 hd : HdOk t n
 dt : dt ≤ 1439
 ne : xs ≠ []
 n8 : xs.length ≤ 8
 it : ∀ x ∈ xs, ItOk x
 nd : (xs.map (·.id)).Nodup
theorem nl_itF {x : It} (h : ItOk x) : nlB (itF x) := by
 unfold nlB itF
 intro hm
 rcases List.mem_append.1 hm with hm | hm
 ·exact absurd hm (by decide)
 ·exact h.nf hm
theorem nl_endL {t : List UInt8} {n : Nat} (h : HdOk t n) : nlB (endL t n) := by
 unfold nlB endL
 intro hm
 rcases List.mem_append.1 hm with hm | hm
 ·exact absurd hm (by decide)
 ·exact h.nl hm
theorem ld_dg {w : World} {b : Nat} {a c d e f : Value} (h : Row w b [a, c, d, e, f] 39) : (loadVar 39 ⟨b, 0, none⟩).run Tryz.prog w = .ok (.agg #[a, c, d, e, f]) w := by
 have := h.at_ (k := 0) (n := 5) (ds := [a, c, d, e, f]) rfl
 exact run_loadVar_at w _ 39 [a, c, d, e, f] _ this Tryz.underlying39 rfl (by kernel_rfl)
set_option maxRecDepth 100000 in
set_option maxHeartbeats 3200000 in
theorem burst13 (w0 w : World) (t : List UInt8) (n dt : Nat) (xs : List It) (hL : Ldz w0 w) (hd : DgOk t n dt xs) (hs : (lnT (dgL t n dt xs)).length ≤ 1000000) : Calls Tryz.prog 13 #[.string (tx (lnT (dgL t n dt xs)))] w fun e w' => ∃ v, e = .returned (.tuple #[vDg t n dt v, .int .i64 0, .int .i64 0]) ∧ Own w' w.heap.size 36 36 cIt v xs ∧ Below w.heap.size w w' := by
 have hnum := lnT_num (dgL t n dt xs)
 have hsz : ((tx (lnT (dgL t n dt xs))).size : Int) ≤ 1000000 := by rw [tx_size]; omega
 have B2 := Below.step (below_alloc w (.cells #[.string ⟨#[]⟩, .int .i64 0, .int .i64 0, .int .i64 0, .slice none 0 0] 39)) (below_alloc _ (.cells #[.string (tx (lnT (dgL t n dt xs))), .int .i64 0, .int .i64 0] 83))
 have R1 := (Row.new w [.string ⟨#[]⟩, .int .i64 0, .int .i64 0, .int .i64 0, .slice none 0 0] 39).keep (below_alloc _ (.cells #[.string (tx (lnT (dgL t n dt xs))), .int .i64 0, .int .i64 0] 83))
 have R2 := Row.new (w.alloc (.cells #[.string ⟨#[]⟩, .int .i64 0, .int .i64 0, .int .i64 0, .slice none 0 0] 39)) [.string (tx (lnT (dgL t n dt xs))), .int .i64 0, .int .i64 0] 83
 rw [World.size_alloc] at R2
 have S0 : Hid (HeS w0 w w.heap.size (w.heap.size + 1) [.string ⟨#[]⟩, .int .i64 0, .int .i64 0, .int .i64 0, .slice none 0 0] (dgL t n dt xs) 0 ((w.alloc (.cells #[.string ⟨#[]⟩, .int .i64 0, .int .i64 0, .int .i64 0, .slice none 0 0] 39)).alloc (.cells #[.string (tx (lnT (dgL t n dt xs))), .int .i64 0, .int .i64 0] 83))) :=
  Lib.hid ⟨R1, R2, B2, hL.keep B2, Nat.le_refl _, Nat.lt_succ_self _, hL.bel.size⟩
 clear B2 R1 R2
 have hss : (xs.map (·.subj)).length ≤ 8 := by rw [List.length_map]; exact hd.n8
 have hnl : ∀ l ∈ ctS (xs.map (·.subj)), nlB l := ctS_nl hss (fun s hs => by obtain ⟨x, hx, rfl⟩ := List.mem_map.1 hs; exact (hd.it x hx).ns)
 have hcl := ctS_len (xs.map (·.subj))
 have HX := Lib.hid (And.intro hd (And.intro hs (And.intro hnl (And.intro (show (ctS (xs.map (·.subj))).length ≤ 8 by omega) hL))))
 have hfull : (dgL t n dt xs).length = 3 + ((ctS (xs.map (·.subj))).length + (1 + (itsL xs [endL t n]).length)) := by unfold dgL; simp; omega
 obtain ⟨s, hse⟩ : ∃ s, tx (lnT (dgL t n dt xs)) = s := ⟨_, rfl⟩
 rw [hse] at S0 hsz ⊢
 clear hse hs hnl hL hcl hss
 obtain ⟨hd0, tl0, he0⟩ : ∃ hd0 tl0, itsL xs [endL t n] = hd0 :: tl0 := List.exists_cons_of_ne_nil (itsL_ne xs _)
 have hnl0 : nlB hd0 := by
  obtain ⟨x, r, rfl⟩ := List.exists_cons_of_ne_nil hd.ne
  injection he0 with e1 e2
  rw [← e1]
  exact nl_itF (hd.it x List.mem_cons_self)
 have hls : (lnT (hd0 :: tl0)).length ≤ 1000000 := by
  have := HX.out.2.1
  unfold dgL at this
  rw [he0] at this
  have h1 := lnT_tl this
  have h2 := lnT_tl h1
  have h3 := lnT_tl h2
  have h4 := lnT_suf h3
  exact lnT_tl h4
 have H0 := Lib.hid (And.intro he0 (And.intro hnl0 hls))
 have hmk := @run_makeMap Tryz.prog
 clear hnl0 hls hd
 go_enter Tryz.func13, Tryz.ntmps13
 go_wp2_with (first
  | (go_at_call 35; go_loud (refine (usee S0 (next35 w0 _ (w.heap.size + 1) (hdL t n) _ 0 S0.out.ldz S0.out.rd HX.out.1.hd.nl (Nat.le_trans HX.out.2.1 (by decide)) (by omega) (by have := S0.out.hw; omega))).mono ?_; rintro e w3 ⟨rfl, hr3, ho3⟩; have S1 := Lib.hid (S0.out.one hr3 ho3); clear hr3 ho3; clear S0))
  | (go_at_call 34; go_loud (refine (usee S1 (head34 w0 _ (w.heap.size + 1) _ _ t n S1.out.ldz S1.out.rd HX.out.1.hd)).mono ?_; rintro e w4 ⟨rfl, hb4⟩; have S2 := Lib.hid (S1.out.below hb4); have S3 := Lib.hid (((S2.out.set 0 (.string (tx t))).set 1 (.int .i64 1)).set 2 (.int .i64 (n : Int))); have f0 := S2.out.dg.fz 0; have f1 := S2.out.dg.fz 1; have f2 := S2.out.dg.fz 2; have c0 : w4.cell? ⟨w.heap.size, 0, none⟩ = some (.string ⟨#[]⟩) := S2.out.dg.cell 0; have c1 : ∀ v, (w4.setCell ⟨w.heap.size, 0, none⟩ v).cell? ⟨w.heap.size, 1, none⟩ = some (.int .i64 0) := fun v => (S2.out.set 0 v).dg.cell 1; have c2 : ∀ v u, ((w4.setCell ⟨w.heap.size, 0, none⟩ v).setCell ⟨w.heap.size, 1, none⟩ u).cell? ⟨w.heap.size, 2, none⟩ = some (.int .i64 0) := fun v u => ((S2.out.set 0 v).set 1 u).dg.cell 2; clear hb4 S2; clear S1))
  | (go_at_call 36; go_loud (refine (usee S3 (date36 w0 _ (w.heap.size + 1) dt _ 1 S3.out.ldz S3.out.rd (Nat.le_trans (lnT_tl HX.out.2.1) (by decide)) (by omega) (by have := S3.out.hw; omega) HX.out.1.dt)).mono ?_; rintro e w5 ⟨rfl, hr5, ho5⟩; have S4 := Lib.hid (S3.out.one hr5 ho5); have S5 := Lib.hid (show HeS w0 w w.heap.size (w.heap.size + 1) [.string (tx t), .int .i64 1, .int .i64 (n : Int), .int .i64 (dt : Int), .slice none 0 0] _ _ _ from S4.out.set 3 (.int .i64 (dt : Int))); have f3 := S4.out.dg.fz 3; have c3 : w5.cell? ⟨w.heap.size, 3, none⟩ = some (.int .i64 0) := S4.out.dg.cell 3; clear hr5 ho5 S4; clear S3))
  | (go_at_call 37; go_loud (refine (usee S5 (exactly37 w0 _ (w.heap.size + 1) topL _ (1 + 1) S5.out.ldz S5.out.rd (by unfold nlB topL; decide) (Nat.le_trans (lnT_tl (lnT_tl HX.out.2.1)) (by decide)) (by omega) (by have := S5.out.hw; omega) _ rfl)).mono ?_; rintro e w6 ⟨rfl, hr6, ho6⟩; have S6 := Lib.hid (S5.out.one hr6 ho6); clear hr6 ho6; clear S5))
  | (go_at_call 38; go_loud (refine (usee S6 (contents38 w0 _ (w.heap.size + 1) (ctS (xs.map (·.subj))) _ (1 + 1 + 1) S6.out.ldz S6.out.rd HX.out.2.2.1 (Nat.le_trans (lnT_tl (lnT_tl (lnT_tl HX.out.2.1))) (by decide)) (by have := HX.out.2.2.2.1; omega) (by have := S6.out.hw; omega))).mono ?_; rintro e w7 ⟨vc, rfl, hov, hr7, ho7⟩; have hs7 := S6.out.one hr7 ho7; rw [H0.out.1] at hs7; have S7 := Lib.hid (And.intro hs7 (hov.mono (base' := w.heap.size + 1 + 1) (by have := S6.out.rd.lt; omega))); clear hr7 ho7 hov hs7; clear S6))
  | (go_at_call 35; go_loud (refine (usee S7 (next35 w0 _ (w.heap.size + 1) hd0 tl0 _ (S7.out.1.ldz.keep (below_alloc _ (.map #[] 0))) (Row.keep S7.out.1.rd (below_alloc _ (.map #[] 0))) H0.out.2.1 (Nat.le_trans H0.out.2.2 (by decide)) (by have := HX.out.2.2.2.1; omega) (by have := S7.out.1.hw; omega))).mono ?_; rintro e w8 ⟨rfl, hr8, ho8⟩; have hsr := (below_alloc w7 (.map #[] 0)).size; have hbu : BuS w0 w w.heap.size (w.heap.size + 1) w7.heap.size t n dt vc ((ctS (xs.map (·.subj))).map tx) (.slice none 0 0) [] [] (hd0 :: tl0) (1 + 1 + 1 + (ctS (xs.map (·.subj))).length + 1) (w7.alloc (.map #[] 0)) := ⟨S7.out.1.below (below_alloc _ _), IdS.made _, Own.nil _ _ _ _ _, S7.out.2.keep (below_alloc _ _), fun k hk => (S7.out.2.lt k hk).2, S7.out.1.rd.lt⟩; have S8 := Lib.hid (hbu.one hr8 ho8); clear hbu hr8 ho8 hsr; clear S7))
  | (fail))
 obtain ⟨r, hr⟩ : ∃ r, w7.heap.size = r := ⟨_, rfl⟩
 rw [hr] at S8 ⊢
 clear hr c0 c1 c2 c3 f0 f1 f2 f3
 obtain ⟨L8, hL8⟩ : ∃ L8, 1 + 1 + 1 + (ctS (xs.map (·.subj))).length + 1 + 1 = L8 := ⟨_, rfl⟩
 rw [hL8] at S8
 have hLB : L8 + tl0.length ≤ 1000000 := by rw [← hL8]; have := HX.out.2.1; rw [he0, List.length_cons] at hfull; omega
 obtain ⟨LB, hLBe⟩ : ∃ LB, L8 + tl0.length = LB := ⟨_, rfl⟩
 rw [hLBe] at hLB
 have H9 := Lib.hid (And.intro S8.out (And.intro hLBe hLB))
 clear S8 hL8 hfull hnum he0 hLBe
 go_loopw [8] (fun v W => ∃ (k : Nat) (hd : List UInt8) (tl : List (List UInt8)) (v4 : Value) (L : Nat), k ≤ xs.length ∧ v = .string (tx hd) ∧ itsL (xs.drop k) [endL t n] = hd :: tl ∧ nlB hd ∧ (lnT (hd :: tl)).length ≤ 1000000 ∧ L + tl.length = LB ∧ BuS w0 w w.heap.size (w.heap.size + 1) r t n dt vc ((ctS (xs.map (·.subj))).map tx) v4 (xs.take k) ((xs.take k).map (·.id)) tl L W) (fun _ W => LB + 1 - atOf W (w.heap.size + 1))
 case atStart => exact ⟨0, hd0, tl0, .slice none 0 0, L8, Nat.zero_le _, rfl, H0.out.1, H0.out.2.1, H0.out.2.2, H9.out.2.1, H9.out.1⟩
 case round =>
  clear H0 H9
  obtain ⟨k, hd, tl, v4, L, hk, rfl, hits, hnl, hls, hLt, hb⟩ := hrel
  have hat := hb.he.rd.atOf
  obtain ⟨A4, c4, rfl, hc4, hs4⟩ := hb.own.sl
  have hkl : (xs.take k).length = k := by rw [List.length_take]; omega
  rw [hkl] at hb hc4
  have e2 : wr.cell? ⟨w.heap.size + 1, 2, none⟩ = some (.int .i64 0) := hb.he.rd.cell 2
  have e4 : wr.cell? ⟨w.heap.size, 4, none⟩ = some (.slice A4 k c4) := hb.he.dg.cell 4
  by_cases hlt : k < xs.length
  ·obtain ⟨x, hxe⟩ : ∃ x, xs[k] = x := ⟨_, rfl⟩
   have hdr : xs.drop k = x :: xs.drop (k + 1) := by rw [← hxe]; exact List.drop_eq_getElem_cons hlt
   rw [hdr] at hits
   injection hits with h1 h2
   subst h1 h2
   have htk : xs.take (k + 1) = xs.take k ++ [x] := by rw [← hxe]; exact List.take_succ_eq_append_getElem hlt
   have hmem : x ∈ xs := by rw [← hxe]; exact List.getElem_mem hlt
   have hnew : x.id ∉ (xs.take k).map (·.id) := by
    have hnd := HX.out.1.nd
    have e : xs.map (·.id) = (xs.take k).map (·.id) ++ (x.id :: (xs.drop (k + 1)).map (·.id)) := by
     rw [← List.map_cons (f := fun y : It => y.id), ← hdr, ← List.map_append, List.take_append_drop]
    rw [e] at hnd
    intro hm
    exact (List.nodup_append.1 hnd).2.2 _ hm _ List.mem_cons_self rfl
   obtain ⟨hd', tl', he'⟩ : ∃ hd' tl', itsL (xs.drop (k + 1)) [endL t n] = hd' :: tl' := List.exists_cons_of_ne_nil (itsL_ne _ _)
   have hnl' : nlB hd' := by
    cases hdd : xs.drop (k + 1) with
    | nil => rw [hdd] at he'; injection he' with e1 e2; rw [← e1]; exact nl_endL HX.out.1.hd
    | cons y ys =>
     rw [hdd] at he'
     injection he' with e1 e2
     rw [← e1]
     exact nl_itF (HX.out.1.it y (List.drop_subset _ _ (by rw [hdd]; exact List.mem_cons_self)))
   have hls2 := lnT_tl hls
   have hls3 : (lnT (hd' :: tl')).length ≤ 1000000 := by rw [itR_app, he'] at hls2; exact lnT_suf hls2
   have hlen : (itR x (hd' :: tl')).length = 5 + (piecesL x.body).length + (tl'.length + 1) := by unfold itR; simp; omega
   rw [he'] at hLt hls2 hb
   have hk8 : k ≤ 8 := Nat.le_trans hk HX.out.1.n8
   have hids8 : ((xs.take k).map (·.id)).length ≤ 100 := by rw [List.length_map, hkl]; omega
   have S1 := Lib.hid hb
   have HK := Lib.hid (And.intro (HX.out.1.it x hmem) (And.intro hnew (And.intro hls2 (And.intro hnl' (And.intro hls3 (And.intro htk he'))))))
   have hp : Lib.hasPrefix (itF x) [69, 110, 100, 32, 111, 102, 32] = false := rfl
   have HPF := fun u => Lib.hid (by have := hasPre (itF x) [69, 110, 100, 32, 111, 102, 32] u; rw [hp] at this; exact this)
   have hL9 : L ≤ 1000000 := by omega
   have hL10 : L + 5 + (piecesL x.body).length ≤ 1000000 := by omega
   clear hb hnl hls hls2 hls3 hnl' hnew hmem hxe hs4 he' htk hdr hids8 hp
   have HID := Lib.hid (show ((xs.take k).map (·.id)).length ≤ 100 by rw [List.length_map]; omega)
   rcases Nat.eq_zero_or_pos k with hk0 | hk0
   ·have hki : (k : Int) = 0 := by omega
    clear hk0
    go_wp2_with (first
     | (go_at_call 39; refine (HPF _).out.mono ?_; rintro e w2 ⟨rfl, rfl⟩)
     | (go_at_call 40; go_loud (refine (usee S1 (item40 w0 _ (w.heap.size + 1) r x _ _ L S1.out.he.ldz S1.out.he.rd S1.out.ids HK.out.1 HK.out.2.1 HID.out HK.out.2.2.1 hL9 (by have := S1.out.he.hw; omega) (by have := S1.out.o3; omega))).mono ?_; rintro e w9 ⟨rfl, hr9, ho9⟩; have S2 := Lib.hid ((S1.out.one hr9 ho9).below (below_alloc w9 (.cells (aIt x) 36))); have hrow := Row.new w9 (cIt x) 36; have hib := row_itId hrow; have hib1 : okA (w9.alloc (.cells (aIt x) 36)) ⟨w9.heap.size, 3, none⟩ 32 = true := hib.1; have hib2 : rdA (w9.alloc (.cells (aIt x) 36)) ⟨w9.heap.size, 3, none⟩ 32 = vI x.id := hib.2; obtain ⟨w10, hrun, hids, hone⟩ := S2.out.ids.put x.id HK.out.2.1; have hne : w9.heap.size ≠ r := (by have := (S1.out.one hr9 ho9).ids.lt; omega); have hit := row_it (hone.row hrow hne); have hit1 := hit.1; have hit2 := hit.2; have S3 := Lib.hid (S2.out.mapped hids hone); have cc4 : w10.cell? ⟨w.heap.size, 4, none⟩ = some (.slice A4 k c4) := S3.out.he.dg.cell 4; clear hr9 ho9 hib hit hids hone S2; clear S1))
     | (at_builtin; go_loud (refine wpList_append_sl _ rfl (.tmp 62) (.tmp 64) 30 rfl (r + 1) 36 36 88 cIt underIts rowIt (by decide) cIt_length cIt_one (.slice A4 k c4) (xs.take k) rfl (Own.keep S3.out.own (below_alloc _ _)) _ 1 _ [_] rfl rfl (sl_newIt _ _) (by rw [List.length_take]; omega) (by rw [List.length_take]; omega) (by have := S3.out.ids.lt; rw [World.size_alloc]; omega) ?_)))
    intro v2 w11 ho hg
    obtain ⟨A5, c5, rfl, hc5, -⟩ := ho.sl
    rw [show (xs.take k ++ [x]).length = k + 1 by rw [List.length_append, hkl]; rfl] at ho ⊢
    have hb3 := S3.out.below (below_alloc w10 (.cells (aIts [x]) 36))
    have S4 := Lib.hid (hb3.app ho hg)
    have g4 := (hb3.dgg hg).fz 4
    have h4 : w11.cell? ⟨w.heap.size, 4, none⟩ = some (.slice A4 k c4) := (hb3.dgg hg).cell 4
    clear hb3 ho hg S3 hrun hit1 hit2 cc4 hrow hib1 hib2
    go_wp2_with (go_at_call 35; refine (next35 w0 _ (w.heap.size + 1) hd' tl' _ S4.out.he.ldz S4.out.he.rd HK.out.2.2.2.1 (Nat.le_trans HK.out.2.2.2.2.1 (by decide)) (by omega) (by have := S4.out.he.hw; omega)).mono ?_; rintro e w12 ⟨rfl, hr12, ho12⟩; have S5 := Lib.hid (S4.out.one hr12 ho12); clear hr12 ho12 S4)
    have S6 := S5.out
    rw [← HK.out.2.2.2.2.2.1, show (xs.take k).map (·.id) ++ [x.id] = (xs.take (k + 1)).map (·.id) by rw [HK.out.2.2.2.2.2.1, List.map_append]; rfl] at S6
    refine ⟨⟨k + 1, hd', tl', _, _, hlt, rfl, HK.out.2.2.2.2.2.2, HK.out.2.2.2.1, HK.out.2.2.2.2.1, ?_, S6⟩, ?_⟩
    ·omega
    ·rw [S6.he.rd.atOf, hat]
     omega
   ·have hki : ¬ (k : Int) = 0 := by omega
    clear hk0
    go_wp2_with (first
     | (go_at_call 39; refine (HPF _).out.mono ?_; rintro e w2 ⟨rfl, rfl⟩)
     | (go_at_call 40; go_loud (refine (usee S1 (item40 w0 _ (w.heap.size + 1) r x _ _ L S1.out.he.ldz S1.out.he.rd S1.out.ids HK.out.1 HK.out.2.1 HID.out HK.out.2.2.1 hL9 (by have := S1.out.he.hw; omega) (by have := S1.out.o3; omega))).mono ?_; rintro e w9 ⟨rfl, hr9, ho9⟩; have S2 := Lib.hid ((S1.out.one hr9 ho9).below (below_alloc w9 (.cells (aIt x) 36))); have hrow := Row.new w9 (cIt x) 36; have hib := row_itId hrow; have hib1 : okA (w9.alloc (.cells (aIt x) 36)) ⟨w9.heap.size, 3, none⟩ 32 = true := hib.1; have hib2 : rdA (w9.alloc (.cells (aIt x) 36)) ⟨w9.heap.size, 3, none⟩ 32 = vI x.id := hib.2; obtain ⟨w10, hrun, hids, hone⟩ := S2.out.ids.put x.id HK.out.2.1; have hne : w9.heap.size ≠ r := (by have := (S1.out.one hr9 ho9).ids.lt; omega); have hit := row_it (hone.row hrow hne); have hit1 := hit.1; have hit2 := hit.2; have S3 := Lib.hid (S2.out.mapped hids hone); have cc4 : w10.cell? ⟨w.heap.size, 4, none⟩ = some (.slice A4 k c4) := S3.out.he.dg.cell 4; clear hr9 ho9 hib hit hids hone S2; clear S1))
     | (at_builtin; go_loud (refine wpList_append_sl _ rfl (.tmp 62) (.tmp 64) 30 rfl (r + 1) 36 36 88 cIt underIts rowIt (by decide) cIt_length cIt_one (.slice A4 k c4) (xs.take k) rfl (Own.keep S3.out.own (below_alloc _ _)) _ 1 _ [_] rfl rfl (sl_newIt _ _) (by rw [List.length_take]; omega) (by rw [List.length_take]; omega) (by have := S3.out.ids.lt; rw [World.size_alloc]; omega) ?_)))
    intro v2 w11 ho hg
    obtain ⟨A5, c5, rfl, hc5, -⟩ := ho.sl
    rw [show (xs.take k ++ [x]).length = k + 1 by rw [List.length_append, hkl]; rfl] at ho ⊢
    have hb3 := S3.out.below (below_alloc w10 (.cells (aIts [x]) 36))
    have S4 := Lib.hid (hb3.app ho hg)
    have g4 := (hb3.dgg hg).fz 4
    have h4 : w11.cell? ⟨w.heap.size, 4, none⟩ = some (.slice A4 k c4) := (hb3.dgg hg).cell 4
    clear hb3 ho hg S3 hrun hit1 hit2 cc4 hrow hib1 hib2
    go_wp2_with (go_at_call 35; refine (next35 w0 _ (w.heap.size + 1) hd' tl' _ S4.out.he.ldz S4.out.he.rd HK.out.2.2.2.1 (Nat.le_trans HK.out.2.2.2.2.1 (by decide)) (by omega) (by have := S4.out.he.hw; omega)).mono ?_; rintro e w12 ⟨rfl, hr12, ho12⟩; have S5 := Lib.hid (S4.out.one hr12 ho12); clear hr12 ho12 S4)
    have S6 := S5.out
    rw [← HK.out.2.2.2.2.2.1, show (xs.take k).map (·.id) ++ [x.id] = (xs.take (k + 1)).map (·.id) by rw [HK.out.2.2.2.2.2.1, List.map_append]; rfl] at S6
    refine ⟨⟨k + 1, hd', tl', _, _, hlt, rfl, HK.out.2.2.2.2.2.2, HK.out.2.2.2.1, HK.out.2.2.2.2.1, ?_, S6⟩, ?_⟩
    ·omega
    ·rw [S6.he.rd.atOf, hat]
     omega
  ·obtain rfl : k = xs.length := by omega
   rw [List.drop_length] at hits
   injection hits with h1 h2
   subst h1 h2
   rw [List.take_length] at hb hs4
   have hpos : 0 < xs.length := List.length_pos_iff.2 HX.out.1.ne
   have hki : ¬ (xs.length : Int) = 0 := by omega
   have hkb : ((xs.length : Int) == 0) = false := by rw [beq_eq_false_iff_ne]; exact hki
   have hp : Lib.hasPrefix (endL t n) [69, 110, 100, 32, 111, 102, 32] = true := rfl
   have HPF := fun u => Lib.hid (by have := hasPre (endL t n) [69, 110, 100, 32, 111, 102, 32] u; rw [hp] at this; exact this)
   have S1 := Lib.hid hb
   have e0 : wr.cell? ⟨w.heap.size + 1, 0, none⟩ = some (.string (tx [])) := hb.he.rd.cell 0
   have d0 : wr.cell? ⟨w.heap.size, 0, none⟩ = some (.string (tx t)) := hb.he.dg.cell 0
   have d1 : wr.cell? ⟨w.heap.size, 1, none⟩ = some (.int .i64 1) := hb.he.dg.cell 1
   have d2 : wr.cell? ⟨w.heap.size, 2, none⟩ = some (.int .i64 (n : Int)) := hb.he.dg.cell 2
   have d3 : wr.cell? ⟨w.heap.size, 3, none⟩ = some (.int .i64 (dt : Int)) := hb.he.dg.cell 3
   have hbe0 := tx_beql [] []
   rw [decide_eq_true rfl] at hbe0
   have hz0 : (tx (hdL t n)).size = t.length + 26 := by rw [tx_size]; unfold hdL wA wB; simp
   obtain ⟨q, hq⟩ : ∃ q, t.length = q := ⟨_, rfl⟩
   rw [hq] at hz0
   have hq2 : q ≤ 100 := by rw [← hq]; exact HX.out.1.hd.h2
   have g7 : ¬ 9223372036854775807 < 7 + (q + 26) := by omega
   have hE : ((tx (endL t n)).toList == ((⟨#[69, 110, 100, 32, 111, 102, 32]⟩ : ByteArray) ++ tx (hdL t n)).toList) = true := by
    rw [show (⟨#[69, 110, 100, 32, 111, 102, 32]⟩ : ByteArray) = tx [69, 110, 100, 32, 111, 102, 32] from rfl, tx_app]
    exact beq_self_eq_true _
   have HCN := Lib.hid (show (ctS (xs.map (·.subj))).map tx ≠ [] ∧ ((ctS (xs.map (·.subj))).map tx).length ≤ 1000000 from ⟨fun e => ctS_ne (fun e => HX.out.1.ne (List.map_eq_nil_iff.1 e)) (List.map_eq_nil_iff.1 e), by rw [List.length_map]; have := HX.out.2.2.2.1; omega⟩)
   have HH := Lib.hid (And.intro hs4 (And.intro (show n ≤ 9 from HX.out.1.hd.n9) (And.intro (show t.length ≤ 1000 by omega) hc4)))
   clear hb hp hs4 hq hnl hls hkl hLt hat hpos
   go_wp2_with (first
    | (go_at_call 39; refine (HPF _).out.mono ?_; rintro e w2 ⟨rfl, rfl⟩)
    | (go_at_call 41; go_loud (refine (head41 t n dt _ _ HH.out.2.1 HH.out.2.2.1).mono ?_; rintro e w12 ⟨rfl, hb12⟩; have S2 := Lib.hid (S1.out.below hb12); have d0' := S2.out.he.dg.cell 0; have d1' := S2.out.he.dg.cell 1; have d2' := S2.out.he.dg.cell 2; have d3' := S2.out.he.dg.cell 3; have d4' := S2.out.he.dg.cell 4; dsimp only [List.getElem?_cons_zero, List.getElem?_cons_succ] at d0' d1' d2' d3' d4'; have HS2 := Lib.hid (HH.out.1.keep hb12); clear hb12))
    | (go_at_call 42; go_loud (refine (contents42 t n dt A4 c4 xs _ HS2.out HH.out.2.2.2 HX.out.1.n8 (fun x hx => Nat.le_trans (HX.out.1.it x hx).ps.len (by decide))).mono ?_; rintro e w13 ⟨v5, rfl, ho5, hb13⟩; have S3 := Lib.hid (And.intro (S2.out.below hb13) ho5); have d0'' := S3.out.1.he.dg.cell 0; have d1'' := S3.out.1.he.dg.cell 1; clear hb13))
    | (go_at_call 30; go_loud (refine (eqStr S3.out.1.con S3.out.2 HCN.out.1 HCN.out.2).mono ?_; rintro e w14 ⟨rfl, hb14⟩; have S4 := Lib.hid (S3.out.1.below hb14); have F0 := S4.out.he.dg.fz 0; have F1 := S4.out.he.dg.fz 1; have F2 := S4.out.he.dg.fz 2; have F3 := S4.out.he.dg.fz 3; have F4 := S4.out.he.dg.fz 4; have C0 : w14.cell? ⟨w.heap.size, 0, none⟩ = some (.string (tx t)) := S4.out.he.dg.cell 0; have C1 : w14.cell? ⟨w.heap.size, 1, none⟩ = some (.int .i64 1) := S4.out.he.dg.cell 1; have C2 : w14.cell? ⟨w.heap.size, 2, none⟩ = some (.int .i64 (n : Int)) := S4.out.he.dg.cell 2; have C3 : w14.cell? ⟨w.heap.size, 3, none⟩ = some (.int .i64 (dt : Int)) := S4.out.he.dg.cell 3; have C4 : w14.cell? ⟨w.heap.size, 4, none⟩ = some (.slice A4 xs.length c4) := S4.out.he.dg.cell 4; have N1 : ∀ v0, (w14.setCell ⟨w.heap.size, 0, none⟩ v0).cell? ⟨w.heap.size, 1, none⟩ = some (.int .i64 1) := fun v0 => ((S4.out.he.dg.set 0 v0)).cell 1; have N2 : ∀ v0 v1, ((w14.setCell ⟨w.heap.size, 0, none⟩ v0).setCell ⟨w.heap.size, 1, none⟩ v1).cell? ⟨w.heap.size, 2, none⟩ = some (.int .i64 (n : Int)) := fun v0 v1 => (((S4.out.he.dg.set 0 v0).set 1 v1)).cell 2; have N3 : ∀ v0 v1 v2, (((w14.setCell ⟨w.heap.size, 0, none⟩ v0).setCell ⟨w.heap.size, 1, none⟩ v1).setCell ⟨w.heap.size, 2, none⟩ v2).cell? ⟨w.heap.size, 3, none⟩ = some (.int .i64 (dt : Int)) := fun v0 v1 v2 => ((((S4.out.he.dg.set 0 v0).set 1 v1).set 2 v2)).cell 3; have N4 : ∀ v0 v1 v2 v3, ((((w14.setCell ⟨w.heap.size, 0, none⟩ v0).setCell ⟨w.heap.size, 1, none⟩ v1).setCell ⟨w.heap.size, 2, none⟩ v2).setCell ⟨w.heap.size, 3, none⟩ v3).cell? ⟨w.heap.size, 4, none⟩ = some (.slice A4 xs.length c4) := fun v0 v1 v2 v3 => (((((S4.out.he.dg.set 0 v0).set 1 v1).set 2 v2).set 3 v3)).cell 4; clear hb14)))
   have hset : HeS w0 w w.heap.size (w.heap.size + 1) [.string (tx t), .int .i64 1, .int .i64 (n : Int), .int .i64 (dt : Int), .slice A4 xs.length c4] [] L (((((w14.setCell ⟨w.heap.size, 0, none⟩ (.string (tx t))).setCell ⟨w.heap.size, 1, none⟩ (.int .i64 1)).setCell ⟨w.heap.size, 2, none⟩ (.int .i64 (n : Int))).setCell ⟨w.heap.size, 3, none⟩ (.int .i64 (dt : Int))).setCell ⟨w.heap.size, 4, none⟩ (.slice A4 xs.length c4)) :=
    ((((S4.out.he.set 0 _).set 1 _).set 2 _).set 3 _).set 4 _
   have hown := S4.out.own
   have hlo : ∀ g, (Value.slice A4 xs.length c4).ownBlock = some g → r + 1 ≤ g := fun g hg => (hown.lt g hg).1
   have hbr : w.heap.size < r := by have := S4.out.o3; omega
   have hown2 : Own (((((w14.setCell ⟨w.heap.size, 0, none⟩ (.string (tx t))).setCell ⟨w.heap.size, 1, none⟩ (.int .i64 1)).setCell ⟨w.heap.size, 2, none⟩ (.int .i64 (n : Int))).setCell ⟨w.heap.size, 3, none⟩ (.int .i64 (dt : Int))).setCell ⟨w.heap.size, 4, none⟩ (.slice A4 xs.length c4)) (r + 1) 36 36 cIt (.slice A4 xs.length c4) xs :=
    ((((hown.one (One.set 0 _) (by omega)).one (One.set 1 _) (by omega)).one (One.set 2 _) (by omega)).one (One.set 3 _) (by omega)).one (One.set 4 _) (by omega)
   exact bodyPost_ret (results_c3 (ad := ⟨w.heap.size, 0, none⟩) rfl rfl (ld_dg hset.dg) rfl rfl) rfl ⟨_, rfl, hown2.mono (by omega), hset.bel⟩
end Go.Proofs.YtibelollgdnidaaGreatDoor
