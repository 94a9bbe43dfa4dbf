/- digest: check, size, text, Check, Bundle. -/
import Derived.Test.YtibelollgdnidaaGreatDoorMWri
namespace Go.Proofs.YtibelollgdnidaaGreatDoor
open Go.RowKit
structure ItPl (x : It) : Prop where
 pf : PlOk (tx x.frm)
 f1 : 1 ≤ x.frm.length
 d : x.date ≤ 1439
 ps : PlOk (tx x.subj)
 id : x.id ≠ zI
theorem ItOk.pl {x : It} (h : ItOk x) : ItPl x := ⟨h.pf, h.f1, h.d, h.ps, h.id⟩
theorem has13y (x : List UInt8) (w : World) (h : (13 : UInt8) ∈ x) : Calls Tryz.prog 47 #[.string (tx x), .string ⟨#[13]⟩] w fun e w' => e = .returned (.bool true) ∧ w' = w := by
 have := Tryz.strings_Contains_one (tx x) 13 w
 rw [tx_data, ← Lib.contains_iff_indexByte, show x.contains 13 = true from List.contains_iff_mem.2 h] at this
 exact this
section
set_option maxRecDepth 100000
theorem check18 (x : It) (h : ItPl x) (h13 : (13 : UInt8) ∉ x.body) (w : World) : Calls Tryz.prog 18 #[vIt x] w fun e w' => e = .returned (.int .i64 0) ∧ Below w.heap.size w w' := by
 have hrow := Row.new w (cIt x) 36
 have c0 : (w.alloc (.cells (aIt x) 36)).cell? ⟨w.heap.size, 0, none⟩ = some (.string (tx x.frm)) := hrow.cell 0
 have c1 : (w.alloc (.cells (aIt x) 36)).cell? ⟨w.heap.size, 1, none⟩ = some (.int .i64 (x.date : Int)) := hrow.cell 1
 have c2 : (w.alloc (.cells (aIt x) 36)).cell? ⟨w.heap.size, 2, none⟩ = some (.string (tx x.subj)) := hrow.cell 2
 have c35 : (w.alloc (.cells (aIt x) 36)).cell? ⟨w.heap.size, 35, none⟩ = some (.string (tx x.body)) := row_itBody hrow
 have hi := row_itId hrow
 have o1 : okA (w.alloc (.cells (aIt x) 36)) ⟨w.heap.size, 3, none⟩ 32 = true := hi.1
 have o2 : rdA (w.alloc (.cells (aIt x) 36)) ⟨w.heap.size, 3, none⟩ 32 = vI x.id := hi.2
 have hd : decide (x.id = zI) = false := decide_eq_false h.id
 have HX := Lib.hid (And.intro h (And.intro h13 (below_alloc w (.cells (aIt x) 36))))
 clear hi hrow h h13
 go_enter Tryz.func18, Tryz.ntmps18
 go_wp2_with (first
  | (go_at_call 45; refine (isFrom45 (tx x.frm) HX.out.1.pf HX.out.1.f1 _).mono ?_; rintro e w2 ⟨rfl, rfl⟩)
  | (go_at_call 17; refine (isMinute17 x.date HX.out.1.d _).mono ?_; rintro e w2 ⟨rfl, rfl⟩)
  | (go_at_call 46; refine (isSubject46 (tx x.subj) HX.out.1.ps _).mono ?_; rintro e w2 ⟨rfl, rfl⟩)
  | (go_at_call 47; refine (has13 x.body _ HX.out.2.1).mono ?_; rintro e w2 ⟨rfl, rfl⟩))
 go_ret
 exact ⟨rfl, HX.out.2.2⟩
theorem check18n (x : It) (h : ItPl x) (h13 : (13 : UInt8) ∈ x.body) (w : World) : Calls Tryz.prog 18 #[vIt x] w fun e w' => e = .returned (.int .i64 6) ∧ Below w.heap.size w w' := by
 have hrow := Row.new w (cIt x) 36
 have c0 : (w.alloc (.cells (aIt x) 36)).cell? ⟨w.heap.size, 0, none⟩ = some (.string (tx x.frm)) := hrow.cell 0
 have c1 : (w.alloc (.cells (aIt x) 36)).cell? ⟨w.heap.size, 1, none⟩ = some (.int .i64 (x.date : Int)) := hrow.cell 1
 have c2 : (w.alloc (.cells (aIt x) 36)).cell? ⟨w.heap.size, 2, none⟩ = some (.string (tx x.subj)) := hrow.cell 2
 have c35 : (w.alloc (.cells (aIt x) 36)).cell? ⟨w.heap.size, 35, none⟩ = some (.string (tx x.body)) := row_itBody hrow
 have hi := row_itId hrow
 have o1 : okA (w.alloc (.cells (aIt x) 36)) ⟨w.heap.size, 3, none⟩ 32 = true := hi.1
 have o2 : rdA (w.alloc (.cells (aIt x) 36)) ⟨w.heap.size, 3, none⟩ 32 = vI x.id := hi.2
 have hd : decide (x.id = zI) = false := decide_eq_false h.id
 have HX := Lib.hid (And.intro h (And.intro h13 (below_alloc w (.cells (aIt x) 36))))
 clear hi hrow h h13
 go_enter Tryz.func18, Tryz.ntmps18
 go_wp2_with (first
  | (go_at_call 45; refine (isFrom45 (tx x.frm) HX.out.1.pf HX.out.1.f1 _).mono ?_; rintro e w2 ⟨rfl, rfl⟩)
  | (go_at_call 17; refine (isMinute17 x.date HX.out.1.d _).mono ?_; rintro e w2 ⟨rfl, rfl⟩)
  | (go_at_call 46; refine (isSubject46 (tx x.subj) HX.out.1.ps _).mono ?_; rintro e w2 ⟨rfl, rfl⟩)
  | (go_at_call 47; refine (has13y x.body _ HX.out.2.1).mono ?_; rintro e w2 ⟨rfl, rfl⟩))
 go_ret
 exact ⟨rfl, HX.out.2.2⟩
end
structure DgM (t : List UInt8) (n dt : Nat) (A4 : Addr) (c4 : Nat) (xs : List It) (w0 w : World) : Prop where
 hd : HdOk t n
 dtl : dt ≤ 1439
 ne : xs ≠ []
 n8 : xs.length ≤ 8
 it : ∀ x ∈ xs, ItOk x
 nd : (xs.map (·.id)).Nodup
 tot : (lnT (dgL t n dt xs)).length ≤ 1000000
 sl : Sl w cIt (some A4) xs
 c : xs.length ≤ c4
 ldz : Ldz w0 w
section
variable {t : List UInt8} {n dt : Nat} {A4 : Addr} {c4 : Nat} {xs : List It} {w0 w W : World}
theorem DgM.lt (h : DgM t n dt A4 c4 xs w0 w) : A4.block < w.heap.size := by
 obtain ⟨ad, e, h1, -⟩ := h.sl h.ne
 injection e with e
 rw [e]
 exact h1
theorem DgM.keep (h : DgM t n dt A4 c4 xs w0 w) (hb : Below w.heap.size w W) : DgM t n dt A4 c4 xs w0 W :=
 ⟨h.hd, h.dtl, h.ne, h.n8, h.it, h.nd, h.tot, h.sl.keep hb, h.c, h.ldz.keep hb⟩
theorem DgM.items (h : DgM t n dt A4 c4 xs w0 w) : ∀ x ∈ xs, x.date ≤ 1439 ∧ x.subj.length ≤ 1000 ∧ x.body.length ≤ 1000 := fun x hx => ⟨(h.it x hx).d, Nat.le_trans (h.it x hx).ps.len (by decide), Nat.le_trans (h.it x hx).sz (by decide)⟩
end
section
set_option maxRecDepth 100000
theorem text21 (t : List UInt8) (n dt : Nat) (A4 : Addr) (c4 : Nat) (xs : List It) (w0 w : World) (h : DgM t n dt A4 c4 xs w0 w) : Calls Tryz.prog 21 #[vDg t n dt (.slice (some A4) xs.length c4)] w fun e w' => e = .returned (.string (tx (lnT (dgL t n dt xs)))) ∧ Below w.heap.size w w' := by
 have b1 := below_alloc w (.cells #[.string (tx t), .int .i64 1, .int .i64 (n : Int), .int .i64 (dt : Int), .slice (some A4) xs.length c4] 39)
 have h1 := h.keep b1
 obtain ⟨w1, hw1⟩ : ∃ w1, w.alloc (.cells #[.string (tx t), .int .i64 1, .int .i64 (n : Int), .int .i64 (dt : Int), .slice (some A4) xs.length c4] 39) = w1 := ⟨_, rfl⟩
 have hz1 : w1.heap.size = w.heap.size + 1 := by rw [← hw1, World.size_alloc]
 have hc1 := Row.new w [.string (tx t), .int .i64 1, .int .i64 (n : Int), .int .i64 (dt : Int), .slice (some A4) xs.length c4] 39
 rw [show w.alloc (.cells [Value.string (tx t), .int .i64 1, .int .i64 (n : Int), .int .i64 (dt : Int), .slice (some A4) xs.length c4].toArray 39) = w1 from hw1] at hc1
 have b2 := below_alloc w1 (.cells #[.pointer none, .slice none 0 0] 93)
 have h2 := h1
 rw [hw1] at h2 b1
 have hW := write49 50 w1.heap.size w1.heap.size (fun l F W => Bd w1.heap.size w1.heap.size l F W) (accT w1) w0 (w1.alloc (.cells #[.pointer none, .slice none 0 0] 93)) t n dt A4 c4 xs []
  (Nat.le_trans h.hd.h2 (by decide)) h.hd.n9 h.dtl h.items h.ne h.c h.n8 h.tot (h2.keep b2).ldz h2.ldz.bel.size (fun W hb => h2.sl.keep (b2.trans (hb.mono (Nat.le_refl _)))) (Bd.new w1) (fun k hk => by cases hk)
 rw [hz1] at hW
 have HX := Lib.hid (And.intro hW (And.intro b1 (And.intro b2 hc1)))
 have hc2 := hc1.keep b2
 have d0 : (w1.alloc (.cells #[.pointer none, .slice none 0 0] 93)).cell? ⟨w.heap.size, 0, none⟩ = some (.string (tx t)) := hc2.cell 0
 have d1 : (w1.alloc (.cells #[.pointer none, .slice none 0 0] 93)).cell? ⟨w.heap.size, 1, none⟩ = some (.int .i64 1) := hc2.cell 1
 have d2 : (w1.alloc (.cells #[.pointer none, .slice none 0 0] 93)).cell? ⟨w.heap.size, 2, none⟩ = some (.int .i64 (n : Int)) := hc2.cell 2
 have d3 : (w1.alloc (.cells #[.pointer none, .slice none 0 0] 93)).cell? ⟨w.heap.size, 3, none⟩ = some (.int .i64 (dt : Int)) := hc2.cell 3
 have d4 : (w1.alloc (.cells #[.pointer none, .slice none 0 0] 93)).cell? ⟨w.heap.size, 4, none⟩ = some (.slice (some A4) xs.length c4) := hc2.cell 4
 clear hW b1 b2 hc1 hc2 h1 h2 h
 unfold vDg
 go_enter Tryz.func21, Tryz.ntmps21
 go_wp2_with (first
  | (go_at_call 49; (refine HX.out.1.mono ?_; rintro e w3 ⟨rfl, ⟨F, ha⟩, hb3⟩; have H3 := Lib.hid (And.intro ha hb3); clear ha hb3))
  | (go_at_call 52; (refine H3.out.1.string.mono ?_; rintro e w4 ⟨rfl, hb4⟩; have H4 := Lib.hid (And.intro hb4 H3.out.2); clear hb4)))
 go_ret
 exact ⟨rfl, HX.out.2.1.trans (((HX.out.2.2.1.mono (show w.heap.size + 1 ≤ w1.heap.size by omega)).trans (H4.out.2.trans H4.out.1)).mono (by omega))⟩
theorem size48 (t : List UInt8) (n dt : Nat) (A4 : Addr) (c4 : Nat) (xs : List It) (w0 w : World) (h : DgM t n dt A4 c4 xs w0 w) : Calls Tryz.prog 48 #[vDg t n dt (.slice (some A4) xs.length c4)] w fun e w' => e = .returned (.int .i64 ((lnT (dgL t n dt xs)).length : Int)) ∧ Below w.heap.size w w' := by
 have b1 := below_alloc w (.cells #[.string (tx t), .int .i64 1, .int .i64 (n : Int), .int .i64 (dt : Int), .slice (some A4) xs.length c4] 39)
 have h1 := h.keep b1
 obtain ⟨w1, hw1⟩ : ∃ w1, w.alloc (.cells #[.string (tx t), .int .i64 1, .int .i64 (n : Int), .int .i64 (dt : Int), .slice (some A4) xs.length c4] 39) = w1 := ⟨_, rfl⟩
 have hz1 : w1.heap.size = w.heap.size + 1 := by rw [← hw1, World.size_alloc]
 have hc1 := Row.new w [.string (tx t), .int .i64 1, .int .i64 (n : Int), .int .i64 (dt : Int), .slice (some A4) xs.length c4] 39
 rw [show w.alloc (.cells [Value.string (tx t), .int .i64 1, .int .i64 (n : Int), .int .i64 (dt : Int), .slice (some A4) xs.length c4].toArray 39) = w1 from hw1] at hc1
 have b2 := below_alloc w1 (.cells #[.int .i64 0] 3)
 have h2 := h1
 rw [hw1] at h2 b1
 have hW := write49 86 w1.heap.size w1.heap.size (fun l F W => Cnt w1.heap.size w1.heap.size l F W) (accC w1) w0 (w1.alloc (.cells #[.int .i64 0] 3)) t n dt A4 c4 xs []
  (Nat.le_trans h.hd.h2 (by decide)) h.hd.n9 h.dtl h.items h.ne h.c h.n8 h.tot (h2.keep b2).ldz h2.ldz.bel.size (fun W hb => h2.sl.keep (b2.trans (hb.mono (Nat.le_refl _)))) ⟨Row.new w1 [.int .i64 0] 3, (fun k hk => by cases hk), Nat.le_refl _, b2.size⟩ (fun k hk => by cases hk)
 rw [hz1] at hW
 have HX := Lib.hid (And.intro hW (And.intro b1 (And.intro b2 hc1)))
 have hc2 := hc1.keep b2
 have d0 : (w1.alloc (.cells #[.int .i64 0] 3)).cell? ⟨w.heap.size, 0, none⟩ = some (.string (tx t)) := hc2.cell 0
 have d1 : (w1.alloc (.cells #[.int .i64 0] 3)).cell? ⟨w.heap.size, 1, none⟩ = some (.int .i64 1) := hc2.cell 1
 have d2 : (w1.alloc (.cells #[.int .i64 0] 3)).cell? ⟨w.heap.size, 2, none⟩ = some (.int .i64 (n : Int)) := hc2.cell 2
 have d3 : (w1.alloc (.cells #[.int .i64 0] 3)).cell? ⟨w.heap.size, 3, none⟩ = some (.int .i64 (dt : Int)) := hc2.cell 3
 have d4 : (w1.alloc (.cells #[.int .i64 0] 3)).cell? ⟨w.heap.size, 4, none⟩ = some (.slice (some A4) xs.length c4) := hc2.cell 4
 clear hW b1 b2 hc1 hc2 h1 h2 h
 unfold vDg
 go_enter Tryz.func48, Tryz.ntmps48
 go_wp2_with (first
  | (go_at_call 49; (refine HX.out.1.mono ?_; rintro e w3 ⟨rfl, ⟨F, ha⟩, hb3⟩; have cz : w3.cell? ⟨w.heap.size + 1, 0, none⟩ = some (.int .i64 ((lnT (dgL t n dt xs)).length : Int)) := ha.1.cell 0; have H3 := Lib.hid hb3; clear ha hb3)))
 go_ret
 exact ⟨rfl, HX.out.2.1.trans (((HX.out.2.2.1.mono (show w.heap.size + 1 ≤ w1.heap.size by omega)).trans H3.out).mono (by omega))⟩
end
set_option maxRecDepth 100000 in
set_option maxHeartbeats 1600000 in
theorem check20 (t : List UInt8) (n dt : Nat) (A4 : Addr) (c4 : Nat) (xs : List It) (w0 w : World) (h : DgM t n dt A4 c4 xs w0 w) : Calls Tryz.prog 20 #[vDg t n dt (.slice (some A4) xs.length c4)] w fun e w' => e = .returned (.int .i64 0) ∧ Below w.heap.size w w' := by
 have b1 := below_alloc w (.cells #[.string (tx t), .int .i64 1, .int .i64 (n : Int), .int .i64 (dt : Int), .slice (some A4) xs.length c4] 39)
 have R1 := Row.new w [.string (tx t), .int .i64 1, .int .i64 (n : Int), .int .i64 (dt : Int), .slice (some A4) xs.length c4] 39
 have hm := @run_makeMap Tryz.prog
 have b2 := below_alloc (w.alloc (.cells #[.string (tx t), .int .i64 1, .int .i64 (n : Int), .int .i64 (dt : Int), .slice (some A4) xs.length c4] 39)) (.map #[] 0)
 have I2 := IdS.made (w.alloc (.cells #[.string (tx t), .int .i64 1, .int .i64 (n : Int), .int .i64 (dt : Int), .slice (some A4) xs.length c4] 39))
 rw [World.size_alloc] at I2
 have hn0 : ¬ (xs.length : Int) = 0 := by have := List.length_pos_iff.2 h.ne; omega
 have hnb : ((xs.length : Int) == 0) = false := by rw [beq_eq_false_iff_ne]; exact hn0
 have hn8 : (xs.length : Int) ≤ 8 := by have := h.n8; omega
 have htl : ((lnT (dgL t n dt xs)).length : Int) ≤ 1000000 := by have := h.tot; omega
 have HX := Lib.hid (And.intro h (And.intro (R1.keep b2) (And.intro I2 (Below.step b1 b2))))
 clear b1 b2 R1 I2 h
 unfold vDg
 go_enter Tryz.func20, Tryz.ntmps20
 go_wp2_with (first
  | (go_at_call 15; refine (isTitle15 (tx t) HX.out.1.hd.pl HX.out.1.hd.h1 HX.out.1.hd.h2 _).mono ?_; rintro e w2 ⟨rfl, rfl⟩)
  | (go_at_call 16; refine (isOrdinal16 n HX.out.1.hd.n1 (Nat.le_trans HX.out.1.hd.n9 (by decide)) _).mono ?_; rintro e w2 ⟨rfl, rfl⟩)
  | (go_at_call 16; refine (isOrdinal16 1 (by decide) (by decide) _).mono ?_; rintro e w2 ⟨rfl, rfl⟩)
  | (go_at_call 17; refine (isMinute17 dt HX.out.1.dtl _).mono ?_; rintro e w2 ⟨rfl, rfl⟩))
 go_loopw [42] (fun i W => ∃ k : Nat, k ≤ xs.length ∧ i = .int .i64 (k : Int) ∧ IdS W (w.heap.size + 1) ((xs.take k).map (·.id)) ∧ Row W w.heap.size [.string (tx t), .int .i64 1, .int .i64 (n : Int), .int .i64 (dt : Int), .slice (some A4) xs.length c4] 39 ∧ Below w.heap.size w W) (fun i _ => xs.length - (intOf i).toNat)
 case atStart => exact ⟨0, Nat.zero_le _, rfl, HX.out.2.2.1, HX.out.2.1, HX.out.2.2.2⟩
 case round =>
  obtain ⟨k, hk, rfl, hid, hrw, hb⟩ := hrel
  by_cases hlt : k < xs.length
  ·obtain ⟨x, hxe⟩ : ∃ x, xs[k] = x := ⟨_, rfl⟩
   have hdr : xs.drop k = x :: xs.drop (k + 1) := by rw [← hxe]; exact List.drop_eq_getElem_cons hlt
   have htk : xs.take (k + 1) = xs.take k ++ [x] := by rw [← hxe]; exact List.take_succ_eq_append_getElem hlt
   have hmem : x ∈ xs := by rw [← hxe]; exact List.getElem_mem hlt
   have hnew : x.id ∉ (xs.take k).map (·.id) := by
    have hnd := HX.out.1.nd
    have e : xs.map (·.id) = (xs.take k).map (·.id) ++ (x.id :: (xs.drop (k + 1)).map (·.id)) := by
     rw [← List.map_cons (f := fun y : It => y.id), ← hdr, ← List.map_append, List.take_append_drop]
    rw [e] at hnd
    intro hm
    exact (List.nodup_append.1 hnd).2.2 _ hm _ List.mem_cons_self rfl
   obtain ⟨ad, hae, ho1, ho2⟩ := Sl.it (HX.out.1.sl.keep hb) hlt
   injection hae with hae
   subst hae
   rw [hxe] at ho2
   have hb1 := below_alloc wr (.cells (aIt x) 36)
   have H1 := Lib.hid (And.intro (hid.keep hb1) (And.intro (hrw.keep hb1) (And.intro (Below.step hb hb1) (And.intro (Row.new wr (cIt x) 36) (And.intro hnew (And.intro htk (And.intro (HX.out.1.it x hmem) hid.lt)))))))
   clear hid hrw hb hb1 hnew htk hdr hmem hxe
   go_wp2_with (go_at_call 18; go_loud (refine (usee H1 (check18 x H1.out.2.2.2.2.2.2.1.pl H1.out.2.2.2.2.2.2.1.cr _)).mono ?_; rintro e w3 ⟨rfl, hb3⟩; have hi := row_itId (H1.out.2.2.2.1.keep hb3); have o1 := hi.1; have o2 := hi.2; have hids := H1.out.1.keep hb3; have hlk := hids.no x.id H1.out.2.2.2.2.1; obtain ⟨w4, hrun, hid4, ho4⟩ := hids.put x.id H1.out.2.2.2.2.1; have H4 := Lib.hid (And.intro hid4 (And.intro (ho4.row (H1.out.2.1.keep hb3) (by omega)) ((Below.step H1.out.2.2.1 hb3).trans (ho4.below (by omega) (Below.step H1.out.2.2.1 hb3).size)))); clear hi hids hid4 ho4 hb3))
   refine ⟨⟨k + 1, hlt, by rw [Int.natCast_add]; rfl, by rw [H1.out.2.2.2.2.2.1, List.map_append]; exact H4.out.1, H4.out.2.1, H4.out.2.2⟩, by simp [intOf]; omega⟩
  ·obtain rfl : k = xs.length := by omega
   have HS := Lib.hid (size48 t n dt A4 c4 xs w0 wr (HX.out.1.keep hb))
   have d0 : wr.cell? ⟨w.heap.size, 0, none⟩ = some (.string (tx t)) := hrw.cell 0
   have d1 : wr.cell? ⟨w.heap.size, 1, none⟩ = some (.int .i64 1) := hrw.cell 1
   have d2 : wr.cell? ⟨w.heap.size, 2, none⟩ = some (.int .i64 (n : Int)) := hrw.cell 2
   have d3 : wr.cell? ⟨w.heap.size, 3, none⟩ = some (.int .i64 (dt : Int)) := hrw.cell 3
   have d4 : wr.cell? ⟨w.heap.size, 4, none⟩ = some (.slice (some A4) xs.length c4) := hrw.cell 4
   have H1 := Lib.hid hb
   clear hid hrw hb
   go_wp2_with (go_at_call 48; refine HS.out.mono ?_; rintro e w5 ⟨rfl, hb5⟩; have H5 := Lib.hid (Below.step H1.out hb5); clear hb5)
   go_ret
   exact ⟨rfl, H5.out⟩
set_option maxRecDepth 100000 in
theorem bundle8 (t : List UInt8) (n dt : Nat) (A4 : Addr) (c4 : Nat) (xs : List It) (w0 w : World) (h : DgM t n dt A4 c4 xs w0 w) : Calls Tryz.prog 8 #[vDg t n dt (.slice (some A4) xs.length c4)] w fun e w' => e = .returned (.tuple #[.string (tx (lnT (dgL t n dt xs))), .int .i64 0]) ∧ Below w.heap.size w w' := by
 have b1 := below_alloc w (.cells #[.string (tx t), .int .i64 1, .int .i64 (n : Int), .int .i64 (dt : Int), .slice (some A4) xs.length c4] 39)
 have R1 := Row.new w [.string (tx t), .int .i64 1, .int .i64 (n : Int), .int .i64 (dt : Int), .slice (some A4) xs.length c4] 39
 have HC := Lib.hid (check20 t n dt A4 c4 xs w0 _ (h.keep b1))
 have HX := Lib.hid (And.intro h (And.intro R1 b1))
 clear b1 R1 h
 unfold vDg
 go_enter Tryz.func8, Tryz.ntmps8
 go_wp2_with (first
  | (go_at_call 20; go_loud (refine HC.out.mono ?_; rintro e w3 ⟨rfl, hb3⟩; have hr := HX.out.2.1.keep hb3; have d0 := hr.cell 0; have d1 := hr.cell 1; have d2 := hr.cell 2; have d3 := hr.cell 3; have d4 := hr.cell 4; dsimp only [List.getElem?_cons_zero, List.getElem?_cons_succ] at d0 d1 d2 d3 d4; have H3 := Lib.hid (Below.step HX.out.2.2 hb3); clear hb3 hr))
  | (go_at_call 21; go_loud (refine (text21 t n dt A4 c4 xs w0 _ (HX.out.1.keep H3.out)).mono ?_; rintro e w4 ⟨rfl, hb4⟩; have H4 := Lib.hid (Below.step H3.out hb4); clear hb4)))
 go_ret2
 exact ⟨rfl, H4.out⟩
end Go.Proofs.YtibelollgdnidaaGreatDoor
