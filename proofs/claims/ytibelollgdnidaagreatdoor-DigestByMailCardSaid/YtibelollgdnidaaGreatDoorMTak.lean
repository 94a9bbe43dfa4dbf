/- digest: the builder. -/
import Derived.Test.YtibelollgdnidaaGreatDoorMChk
namespace Go.Proofs.YtibelollgdnidaaGreatDoor
open Go.RowKit
structure BlS (b r : Nat) (t : List UInt8) (tk : Nat) (fs : Int) (v : Value) (ys : List It) (is : List Id) (W : World) : Prop where
 row : Row W b [.string (tx t), .int .i64 1, .int .i64 8, .int .i64 60, .int .i64 (tk : Int), v, .int .i64 fs, .map (some r)] 61
 ids : IdS W r is
 own : Own W (b + 1) 36 36 cIt v ys
 rb : r < b
section
variable {b r : Nat} {t : List UInt8} {tk : Nat} {fs : Int} {v v' : Value} {ys ys' : List It} {is is' : List Id} {W W' : World}
theorem BlS.keep (h : BlS b r t tk fs v ys is W) (hb : Below W.heap.size W W') : BlS b r t tk fs v ys is W' := ⟨h.row.keep hb, h.ids.keep hb, h.own.keep hb, h.rb⟩
end
set_option maxRecDepth 100000 in
theorem newBuilder5 (t : List UInt8) (w : World) (hp : PlOk (tx t)) (h1 : 1 ≤ t.length) (h2 : t.length ≤ 100) : Calls Tryz.prog 5 #[.string (tx t), .int .i64 1, .int .i64 8, .int .i64 60] w fun e w' => e = .returned (.tuple #[.pointer (some ⟨w.heap.size + 1, 0, none⟩), .int .i64 0]) ∧ BlS (w.heap.size + 1) w.heap.size t 0 0 (.slice none 0 0) [] [] w' ∧ Below w.heap.size w w' := by
 have hm := @run_makeMap Tryz.prog
 have b1 := below_alloc w (.map #[] 0)
 have b2 := below_alloc (w.alloc (.map #[] 0)) (.cells #[.string (tx t), .int .i64 1, .int .i64 8, .int .i64 60, .int .i64 0, .slice none 0 0, .int .i64 0, .map (some w.heap.size)] 61)
 have R2 := Row.new (w.alloc (.map #[] 0)) [.string (tx t), .int .i64 1, .int .i64 8, .int .i64 60, .int .i64 0, .slice none 0 0, .int .i64 0, .map (some w.heap.size)] 61
 rw [World.size_alloc] at R2
 have HX := Lib.hid (show BlS (w.heap.size + 1) w.heap.size t 0 0 (.slice none 0 0) [] [] ((w.alloc (.map #[] 0)).alloc (.cells #[.string (tx t), .int .i64 1, .int .i64 8, .int .i64 60, .int .i64 0, .slice none 0 0, .int .i64 0, .map (some w.heap.size)] 61)) from ⟨R2, (IdS.made w).keep b2, Own.nil _ _ _ _ _, Nat.lt_succ_self _⟩)
 have HB := Lib.hid (And.intro hp (And.intro h1 (And.intro h2 (Below.step b1 b2))))
 clear b1 b2 R2 hp h1 h2
 go_enter Tryz.func5, Tryz.ntmps5
 go_wp2_with (first
  | (go_at_call 15; refine (isTitle15 (tx t) HB.out.1 HB.out.2.1 HB.out.2.2.1 _).mono ?_; rintro e w2 ⟨rfl, rfl⟩)
  | (go_at_call 16; refine (isOrdinal16 1 (by decide) (by decide) _).mono ?_; rintro e w2 ⟨rfl, rfl⟩))
 go_ret2
 exact ⟨rfl, HX.out, HB.out.2.2.2⟩
structure BFr (b r : Nat) (v v' : Value) (W W' : World) : Prop where
 os : W'.os = W.os
 tape : W'.tape = W.tape
 output : W'.output = W.output
 size : W.heap.size ≤ W'.heap.size
 out : ∀ k, k < W.heap.size → k ≠ b → k ≠ r → some k ≠ v.ownBlock → W'.heap[k]? = W.heap[k]?
 at_ : v'.ownBlock = v.ownBlock ∨ ∃ k, v'.ownBlock = some k ∧ W.heap.size ≤ k
section
variable {b r : Nat} {v v' v2 : Value} {W W' W2 : World}
theorem BFr.of_below (h : Below W.heap.size W W') : BFr b r v v W W' := ⟨h.os, h.tape, h.output, h.size, fun k hk _ _ _ => h.block k hk, Or.inl rfl⟩
theorem BFr.one {g : Nat} (h : One g W W') (hg : g = b ∨ g = r) : BFr b r v v W W' := ⟨h.os, h.tape, h.output, h.size, fun k hk h1 h2 _ => h.out k hk (by rcases hg with rfl | rfl; exact h1; exact h2), Or.inl rfl⟩
theorem BFr.trans (h : BFr b r v v' W W') (k : BFr b r v' v2 W' W2) : BFr b r v v2 W W2 :=
 ⟨k.os.trans h.os, k.tape.trans h.tape, k.output.trans h.output, Nat.le_trans h.size k.size, fun j hj h1 h2 h3 => (k.out j (Nat.lt_of_lt_of_le hj h.size) h1 h2 (fun e => by
  rcases h.at_ with e2 | ⟨m, e2, e3⟩
  ·exact h3 (e.trans e2)
  ·rw [e2] at e
   have := Option.some.inj e
   omega)).trans (h.out j hj h1 h2 h3), by
  rcases k.at_ with e | ⟨m, e, e3⟩
  ·rcases h.at_ with e2 | ⟨m, e2, e3⟩
   ·exact Or.inl (e.trans e2)
   ·exact Or.inr ⟨m, e.trans e2, e3⟩
  ·exact Or.inr ⟨m, e, Nat.le_trans h.size e3⟩⟩
end
def MB (r : Nat) (is : List Id) (W : World) (u : World) : Bool → Prop
 | false => Below W.heap.size W u
 | true => IdS u r is ∧ One r W u
def AB (b r : Nat) (t : List UInt8) (tk : Nat) (fs : Int) (v : Value) (ys : List It) (is : List Id) (x : It) (W : World) (σ : Value) (u : World) : Bool → Bool → Bool → Prop
 | false, _, _ => Below W.heap.size W u ∧ u.heap.size = W.heap.size
 | true, false, _ => Below W.heap.size W u ∧ Sl u cIt (some ⟨W.heap.size, 0, none⟩) [x]
 | true, true, false => W.grownBy u v.ownBlock ∧ Own u (b + 1) 36 36 cIt σ (ys ++ [x]) ∧ (σ.ownBlock = v.ownBlock ∨ ∃ k, σ.ownBlock = some k ∧ W.heap.size ≤ k)
 | true, true, true => BlS b r t tk fs σ (ys ++ [x]) is u ∧ BFr b r v σ W u
section
variable {b r : Nat} {t : List UInt8} {tk : Nat} {fs : Int} {v : Value} {ys : List It} {is : List Id} {x : It} {W : World} {σ : Value} {u u' : World} {d1 d2 d3 : Bool}
theorem AB.row (hC : BlS b r t tk fs v ys is W) (h : AB b r t tk fs v ys is x W σ u d1 d2 false) : Row u b [.string (tx t), .int .i64 1, .int .i64 8, .int .i64 60, .int .i64 (tk : Int), v, .int .i64 fs, .map (some r)] 61 := by
 cases d1 with
 | false => exact hC.row.keep h.1
 | true =>
  cases d2 with
  | false => exact hC.row.keep h.1
  | true => exact hC.row.same (h.1.block b hC.row.lt (fun e => by have := (hC.own.lt b e.symm).1; omega))
theorem AB.below (h : AB b r t tk fs v ys is x W σ u d1 false d3) : Below W.heap.size W u := by
 cases d1 with
 | false => exact h.1
 | true => exact h.1
theorem AB.made (h : AB b r t tk fs v ys is x W σ u false d2 d3) : AB b r t tk fs v ys is x W σ (u.alloc (.cells (aIts [x]) 36)) true false d3 :=
 ⟨h.1.trans ((below_alloc u _).mono (by rw [h.2]; exact Nat.le_refl _)), by have := sl_newIt u x; rwa [h.2] at this⟩
theorem AB.grew {v' : Value} (hC : BlS b r t tk fs v ys is W) (h : AB b r t tk fs v ys is x W σ u true false d3) (ho : Own u' (b + 1) 36 36 cIt v' (ys ++ [x])) (hg : u.grownBy u' v.ownBlock) (ha : v'.ownBlock = v.ownBlock ∨ v'.ownBlock = some u.heap.size) : AB b r t tk fs v ys is x W v' u' true true false :=
 ⟨⟨hg.os.trans h.1.os, hg.tape.trans h.1.tape, hg.output.trans h.1.output, Nat.le_trans h.1.size hg.size, fun k hk hne => (hg.block k (Nat.lt_of_lt_of_le hk h.1.size) hne).trans (h.1.block k hk)⟩, ho, ha.imp id fun e => ⟨_, e, h.1.size⟩⟩
theorem AB.stored (hC : BlS b r t tk fs v ys is W) (h : AB b r t tk fs v ys is x W σ u true true false) : AB b r t tk fs v ys is x W σ (u.setCell ⟨b, 5, none⟩ σ) true true true := by
 have hrow := AB.row hC h
 have hlo : ∀ k, k ≤ b → some k ≠ v.ownBlock := fun k hk e => by have := (hC.own.lt k e.symm).1; omega
 refine ⟨⟨hrow.set 5 σ, hC.ids.same ((heap_set_other u b 5 σ r (by have := hC.rb; omega)).trans (h.1.block r hC.ids.lt (hlo r (by have := hC.rb; omega)))), h.2.1.same (fun k hk => heap_set_other u b 5 σ k (by have := (h.2.1.lt k hk).1; omega)), hC.rb⟩, ⟨h.1.os, h.1.tape, h.1.output, Nat.le_trans h.1.size (by simp [World.setCell]), fun k hk h1 h2 h3 => (heap_set_other u b 5 σ k h1).trans (h.1.block k hk h3), h.2.2⟩⟩
end
@[go_sem] theorem eqlMap (r : Nat) (w : World) : (binOp .eql 59 (.map (some r)) (.map none)).run Tryz.prog w = .ok (.bool false) w := by kernel_rfl
set_option maxRecDepth 100000 in
set_option maxHeartbeats 3200000 in
theorem add6 (b r : Nat) (t : List UInt8) (tk : Nat) (fs : Int) (v : Value) (ys : List It) (is : List Id) (x : It) (w : World) (hS : BlS b r t tk fs v ys is w) (hx : ItPl x) (h13 : (13 : UInt8) ∉ x.body) (hy : x.id ∉ is) (h8 : ys.length ≤ 100) : Calls Tryz.prog 6 #[.pointer (some ⟨b, 0, none⟩), vIt x, .int .i64 100] w fun e w' => e = .returned (.int .i64 0) ∧ ∃ fs' v', BlS b r t tk fs' v' (ys ++ [x]) (is ++ [x.id]) w' ∧ BFr b r v v' w w' := by
 have b1 := below_alloc w (.cells (aIt x) 36)
 have R1 := Row.new w (cIt x) 36
 have hbw := hS.row.lt
 have S1 := Lib.hid (And.intro (hS.keep b1) (And.intro R1 b1))
 have HX := Lib.hid (And.intro hx (And.intro hy (And.intro h8 h13)))
 obtain ⟨A, c, rfl, hc, -⟩ := hS.own.sl
 obtain ⟨k, hk⟩ : ∃ k, ys.length = k := ⟨_, rfl⟩
 rw [hk] at hS S1 hc h8 ⊢
 have hk8 : (k : Int) ≤ 100 := by omega
 clear hS b1 R1 hx hy h13
 go_enter Tryz.func6, Tryz.ntmps6
 go_wp2_with (first
  | (go_at_call 17; refine (isMinute17 100 (by decide) _).mono ?_; rintro e w2 ⟨rfl, rfl⟩)
  | (go_at_call 18; go_loud (refine (usee S1 (check18 x HX.out.1 HX.out.2.2.2 _)).mono ?_; rintro e w3 ⟨rfl, hb3⟩; have S2 := Lib.hid (And.intro (S1.out.1.keep hb3) (And.intro (S1.out.2.1.keep hb3) (Below.step S1.out.2.2 hb3))); have q7 : w3.cell? ⟨b, 7, none⟩ = some (.map (some r)) := S2.out.1.row.cell 7; have q5 : w3.cell? ⟨b, 5, none⟩ = some (.slice A k c) := S2.out.1.row.cell 5; have qi := row_itId S2.out.2.1; have q1 := qi.1; have q2 := qi.2; have hlk := fun q => (S2.out.1.ids.keep (below_drewN w3 q)).no x.id HX.out.2.1; clear hb3 qi S1)))
 go_quiet (fail)
 have S3 := Lib.hid (And.intro (S2.out.1.keep (below_drewN w3 nq)) (And.intro (S2.out.2.1.keep (below_drewN w3 nq)) (Below.step S2.out.2.2 (below_drewN w3 nq))))
 clear q7 q5 q1 q2 hlk S2
 revert S3
 generalize w3.drewN nq = w4
 intro S3
 have q7 : w4.cell? ⟨b, 7, none⟩ = some (.map (some r)) := S3.out.1.row.cell 7
 have q5 : w4.cell? ⟨b, 5, none⟩ = some (.slice A k c) := S3.out.1.row.cell 5
 go_wp2
 refine AnyO.wp_anyI (by kernel_rfl) (by kernel_rfl) (AnyO.InvG (σ := Unit) (fun σ => AnyO.pvL [some (.pointer (some ⟨b, 0, none⟩)), some (.pointer (some ⟨b, 0, none⟩)), some (.pointer (some ⟨b, 7, none⟩)), some (.map (some r)), some (.pointer (some ⟨w.heap.size, 3, none⟩)), some (vI x.id), none]) (fun σ D u => MB r (is ++ [x.id]) w4 u (D 6))) (AnyO.InvG.start (g := ()) (below_drew _)) ?_ ?_
 ·intro i hi
  have hi2 : i = 3 ∨ i = 5 ∨ i = 6 ∨ i = 0 ∨ i = 1 ∨ i = 2 ∨ i = 4 := by simp only [List.size_toArray, List.length_cons, List.length_nil] at hi; omega
  clear hi
  rcases hi2 with rfl | rfl | rfl | rfl | rfl | rfl | rfl
  ·refine AnyO.I rfl [2] ?_; rintro D vs u σ Q h0 hC hp ac hb K hK
   have s44 : _ = _ := AnyO.sv 44 2 hb hp Q
   have hf6 := AnyO.fls (hC.out 6) h0 (by kernel_rfl)
   have hst := Q.out.2
   rw [hf6] at hst
   have rr : u.cell? ⟨b, 7, none⟩ = some (.map (some r)) := (S3.out.1.row.keep hst).cell 7
   clear hst hf6
   go_simp; exact hK _ _ (AnyO.InvG.step (g := σ) Q.out.1 rfl Q.out.2)
  ·refine AnyO.I rfl [4] ?_; rintro D vs u σ Q h0 hC hp ac hb K hK
   have s46 : _ = _ := AnyO.sv 46 4 hb hp Q
   have hf6 := AnyO.fls (hC.out 6) h0 (by kernel_rfl)
   have hst := Q.out.2
   rw [hf6] at hst
   have rq := row_itId (S3.out.2.1.keep hst)
   have rr1 := rq.1
   have rr2 := rq.2
   clear hst hf6 rq
   go_simp; exact hK _ _ (AnyO.InvG.step (g := σ) Q.out.1 rfl Q.out.2)
  ·refine AnyO.I rfl [3, 5, 0, 1, 2, 3, 4, 5] ?_; rintro D vs u σ Q h0 hC hp ac hb K hK
   have s45 : _ = _ := AnyO.sv 45 3 hb hp Q
   have s47 : _ = _ := AnyO.sv 47 5 hb hp Q
   have hst := Q.out.2
   rw [h0] at hst
   obtain ⟨w9, hrun, hi9, ho9⟩ := (S3.out.1.ids.keep hst).put x.id HX.out.2.1
   have HST := Lib.hid (And.intro hi9 ((One.of_below hst).trans ho9))
   clear hst hi9 ho9
   go_simp
   exact hK undef _ (AnyO.InvG.step (g := σ) Q.out.1 trivial (by rw [show AnyO.addD D 6 6 = true from rfl]; exact HST.out))
  all_goals
   refine AnyO.J rfl ?_; rintro D vs u σ Q h0 hC hp ac hb K hK
   try have s0 : ac.tmps[0]?.getD undef = .pointer (some ⟨b, 0, none⟩) := by rw [hb.out]; kernel_rfl
   try have s42 : _ = _ := AnyO.sv 42 0 hb hp Q
   try have s43 : _ = _ := AnyO.sv 43 1 hb hp Q
   try have s4 : ac.tmps[4]?.getD undef = .pointer (some ⟨w.heap.size, 0, none⟩) := by rw [hb.out]; kernel_rfl
   go_simp
   exact hK _ _ (AnyO.InvG.step (g := σ) Q.out.1 rfl Q.out.2)
 ·intro D vs u hI hD
  obtain ⟨σ, hP, hW⟩ := hI
  have e0 : _ = _ := hP 0 (hD 0 (by decide))
  have e1 : _ = _ := hP 1 (hD 1 (by decide))
  have e2 : _ = _ := hP 2 (hD 2 (by decide))
  have e3 : _ = _ := hP 3 (hD 3 (by decide))
  have e4 : _ = _ := hP 4 (hD 4 (by decide))
  have e5 : _ = _ := hP 5 (hD 5 (by decide))
  rw [show D 6 = true from hD 6 (by decide)] at hW
  have HW := Lib.hid hW
  clear hW hP hD
  rw [puts_range [some 42, some 43, some 44, some 45, some 46, some 47, none] (by kernel_rfl)]
  simp only [putL, Nat.reduceAdd, e0, e1, e2, e3, e4, e5]
  clear e0 e1 e2 e3 e4 e5
  go_simp
  have hib : w.heap.size ≠ r := by have := S3.out.1.rb; omega
  have S4 := Lib.hid (And.intro (show BlS b r t tk fs (.slice A k c) ys (is ++ [x.id]) u from ⟨HW.out.2.row S3.out.1.row (by have := S3.out.1.rb; omega), HW.out.1, S3.out.1.own.one HW.out.2 (by have := S3.out.1.rb; omega), S3.out.1.rb⟩) (And.intro (HW.out.2.row S3.out.2.1 hib) (BFr.trans (BFr.of_below (b := b) (r := r) (v := .slice A k c) S3.out.2.2) (BFr.one HW.out.2 (Or.inr rfl)))))
  clear q7 q5 HW S3
  have q5 : u.cell? ⟨b, 5, none⟩ = some (.slice A k c) := S4.out.1.row.cell 5
  have q6 : u.cell? ⟨b, 6, none⟩ = some (.int .i64 fs) := S4.out.1.row.cell 6
  have f6 := S4.out.1.row.fz 6
  rcases Nat.eq_zero_or_pos k with hk0 | hk0
  ·have hki : ((k : Int) == 0) = true := by rw [beq_iff_eq]; omega
   have S5 := Lib.hid (And.intro (show BlS b r t tk 100 (.slice A k c) ys (is ++ [x.id]) (u.setCell ⟨b, 6, none⟩ (.int .i64 100)) from ⟨S4.out.1.row.set 6 (.int .i64 100), S4.out.1.ids.same (heap_set_other u b 6 _ r (by have := S4.out.1.rb; omega)), S4.out.1.own.one (One.set 6 _) (by omega), S4.out.1.rb⟩) (And.intro (S4.out.2.1.same (heap_set_other u b 6 (.int .i64 100) w.heap.size (by omega))) (S4.out.2.2.trans (BFr.one (One.set 6 (.int .i64 100)) (Or.inl rfl)))))
   clear hk0
   go_wp2
   clear q5 q6 f6 S4
   revert S5
   generalize u.setCell ⟨b, 6, none⟩ (.int .i64 100) = w6
   intro S5
   refine AnyO.wp_anyI (by kernel_rfl) (by kernel_rfl) (AnyO.InvG (σ := Value) (fun σ => AnyO.pvL [some (.pointer (some ⟨b, 0, none⟩)), some (.pointer (some ⟨b, 0, none⟩)), some (.pointer (some ⟨b, 0, none⟩)), some (.pointer (some ⟨b, 5, none⟩)), some (.slice A k c), some (vIt x), some (.slice (some ⟨w6.heap.size, 0, none⟩) 1 1), some (σ), some (.pointer (some ⟨b, 0, none⟩)), some (.pointer (some ⟨b, 5, none⟩)), none]) (fun σ D u => AB b r t tk 100 (.slice A k c) ys (is ++ [x.id]) x w6 σ u (D 6) (D 7) (D 10))) (AnyO.InvG.start (g := .slice none 0 0) (⟨below_drew _, rfl⟩)) ?_ ?_
   ·intro i hi
    have hi2 : i = 4 ∨ i = 5 ∨ i = 6 ∨ i = 7 ∨ i = 10 ∨ i = 0 ∨ i = 1 ∨ i = 2 ∨ i = 3 ∨ i = 8 ∨ i = 9 := by simp only [List.size_toArray, List.length_cons, List.length_nil] at hi; omega
    clear hi
    rcases hi2 with rfl | rfl | rfl | rfl | rfl | rfl | rfl | rfl | rfl | rfl | rfl
    ·refine AnyO.I rfl [3] ?_; rintro D vs u σ Q h0 hC hp ac hb K hK
     have s61 : _ = _ := AnyO.sv 61 3 hb hp Q
     have hf7 := AnyO.fls (hC.out 7) h0 (by kernel_rfl)
     have hf10 := AnyO.fls (hC.out 10) hf7 (by kernel_rfl)
     have hst := Q.out.2
     rw [hf10] at hst
     have rr : u.cell? ⟨b, 5, none⟩ = some (.slice A k c) := (AB.row S5.out.1 hst).cell 5
     clear hst hf10 hf7
     go_simp; exact hK _ _ (AnyO.InvG.step (g := σ) Q.out.1 rfl Q.out.2)
    ·refine AnyO.I rfl [] ?_; rintro D vs u σ Q h0 hC hp ac hb K hK
     have s4 := AnyO.sz (v := .pointer (some ⟨w.heap.size, 0, none⟩)) 4 hb
     have hf6 := AnyO.fls (hC.out 6) h0 (by kernel_rfl)
     have hf7 := AnyO.fls (hC.out 7) hf6 (by kernel_rfl)
     have hst := Q.out.2
     rw [hf7] at hst
     have rq := row_it (S5.out.2.1.keep hst.below)
     have rr1 := rq.1
     have rr2 := rq.2
     clear hst hf6 hf7 rq
     go_simp; exact hK _ _ (AnyO.InvG.step (g := σ) Q.out.1 rfl Q.out.2)
    ·refine AnyO.I rfl [5] ?_; rintro D vs u σ Q h0 hC hp ac hb K hK
     have s63 : _ = _ := AnyO.sv 63 5 hb hp Q
     have hf7 := AnyO.fls (hC.out 7) h0 (by kernel_rfl)
     have hst := Q.out.2
     rw [h0] at hst
     have HST := Lib.hid hst
     clear hst
     go_simp
     rw [HST.out.2]
     exact hK _ _ (AnyO.InvG.step (g := σ) Q.out.1 rfl (by rw [show AnyO.addD D 6 6 = true from rfl, show AnyO.addD D 6 7 = D 7 from rfl, hf7]; exact HST.out.made))
    ·refine AnyO.I rfl [4, 6] ?_; rintro D vs u σ Q h0 hC hp ac hb K hK
     have s62 : _ = _ := AnyO.sv 62 4 hb hp Q
     have s64 : _ = _ := AnyO.sv 64 6 hb hp Q
     have hp6 : D 6 = true := hp.out 6 (by decide)
     have hf10 := AnyO.fls (hC.out 10) h0 (by kernel_rfl)
     have hst := Q.out.2
     rw [hp6, h0] at hst
     refine wp_append_sl_at u (.tmp 62) (.tmp 64) 30 rfl (b + 1) 36 36 88 cIt underIts rowIt (by decide) cIt_length cIt_one (.slice A k c) ys (ev_tmp s62) (S5.out.1.own.keep hst.1) _ 1 1 [x] rfl (by simp) (ev_tmp s64) hst.2 (by have := HX.out.2.2.1; omega) (by have := HX.out.2.2.1; omega) (Nat.le_trans S5.out.1.row.lt hst.1.size) ?_
     intro v9 w9 ho9 hg9 ha9
     refine hK _ _ (AnyO.InvG.ghost (g := σ) v9 Q.out.1 ?_ rfl ?_)
     ·intro j hj hq
      rcases j with _ | _ | _ | _ | _ | _ | _ | _ | _ | _ | _ | j
      all_goals first | exact hq | exact absurd (show D 7 = true from hj) (by rw [h0]; decide) | exact absurd (show D 10 = true from hj) (by rw [hf10]; decide)
     rw [show AnyO.addD D 7 6 = D 6 from rfl, hp6, show AnyO.addD D 7 7 = true from rfl, show AnyO.addD D 7 10 = D 10 from rfl, hf10]
     exact AB.grew S5.out.1 hst ho9 hg9 ha9
    ·refine AnyO.I rfl [9, 7, 7, 0, 1, 2, 3, 4, 5, 6, 7] ?_; rintro D vs u σ Q h0 hC hp ac hb K hK
     have s67 : _ = _ := AnyO.sv 67 9 hb hp Q
     have s65 : _ = _ := AnyO.sv 65 7 hb hp Q
     have hp7 : D 7 = true := hp.out 7 (by decide)
     have hp6 : D 6 = true := hC.out 7 hp7 6 (by rw [show AnyO.pre _ 7 = [4, 6] from by kernel_rfl]; decide)
     have hst := Q.out.2
     rw [hp6, hp7, h0] at hst
     have hrw := AB.row S5.out.1 hst
     have rr1 := hrw.fz 5
     have rr2 : u.cell? ⟨b, 5, none⟩ = some (.slice A k c) := hrw.cell 5
     obtain ⟨A9, c9, hv9, -, -⟩ := hst.2.1.sl
     rw [List.length_append, hk] at hv9
     replace hv9 : σ = .slice A9 (k + 1) c9 := hv9
     have HST := Lib.hid hst
     clear hst hrw
     go_simp
     rw [← hv9]
     exact hK undef _ (AnyO.InvG.step (g := σ) Q.out.1 trivial (by rw [show AnyO.addD D 10 6 = D 6 from rfl, hp6, show AnyO.addD D 10 7 = D 7 from rfl, hp7, show AnyO.addD D 10 10 = true from rfl]; exact AB.stored S5.out.1 HST.out))
    all_goals
     refine AnyO.J rfl ?_; rintro D vs u σ Q h0 hC hp ac hb K hK
     try have s0 : ac.tmps[0]?.getD undef = .pointer (some ⟨b, 0, none⟩) := by rw [hb.out]; kernel_rfl
     try have s59 : _ = _ := AnyO.sv 59 1 hb hp Q
     try have s60 : _ = _ := AnyO.sv 60 2 hb hp Q
     try have s58 : _ = _ := AnyO.sv 58 0 hb hp Q
     try have s66 : _ = _ := AnyO.sv 66 8 hb hp Q
     go_simp
     exact hK _ _ (AnyO.InvG.step (g := σ) Q.out.1 rfl Q.out.2)
   ·intro D vs u hI hD
    obtain ⟨σ, hP, hW⟩ := hI
    have e0 : _ = _ := hP 0 (hD 0 (by decide))
    have e1 : _ = _ := hP 1 (hD 1 (by decide))
    have e2 : _ = _ := hP 2 (hD 2 (by decide))
    have e3 : _ = _ := hP 3 (hD 3 (by decide))
    have e4 : _ = _ := hP 4 (hD 4 (by decide))
    have e5 : _ = _ := hP 5 (hD 5 (by decide))
    have e6 : _ = _ := hP 6 (hD 6 (by decide))
    have e7 : _ = _ := hP 7 (hD 7 (by decide))
    have e8 : _ = _ := hP 8 (hD 8 (by decide))
    have e9 : _ = _ := hP 9 (hD 9 (by decide))
    rw [show D 6 = true from hD 6 (by decide), show D 7 = true from hD 7 (by decide), show D 10 = true from hD 10 (by decide)] at hW
    have HW := Lib.hid hW
    clear hW hP hD
    rw [puts_range [some 58, some 59, some 60, some 61, some 62, some 63, some 64, some 65, some 66, some 67, none] (by kernel_rfl)]
    simp only [putL, Nat.reduceAdd, e0, e1, e2, e3, e4, e5, e6, e7, e8, e9]
    clear e0 e1 e2 e3 e4 e5 e6 e7 e8 e9
    go_simp
    go_wp2
    go_ret
    exact ⟨rfl, _, _, HW.out.1, S5.out.2.2.trans HW.out.2⟩
  ·have hki : ((k : Int) == 0) = false := by rw [beq_eq_false_iff_ne]; omega
   clear hk0
   have S5 := Lib.hid S4.out
   go_wp2
   clear q5 q6 f6 S4
   obtain ⟨w6, rfl⟩ : ∃ w6, w6 = u := ⟨_, rfl⟩
   refine AnyO.wp_anyI (by kernel_rfl) (by kernel_rfl) (AnyO.InvG (σ := Value) (fun σ => AnyO.pvL [some (.pointer (some ⟨b, 0, none⟩)), some (.pointer (some ⟨b, 0, none⟩)), some (.pointer (some ⟨b, 0, none⟩)), some (.pointer (some ⟨b, 5, none⟩)), some (.slice A k c), some (vIt x), some (.slice (some ⟨w6.heap.size, 0, none⟩) 1 1), some (σ), some (.pointer (some ⟨b, 0, none⟩)), some (.pointer (some ⟨b, 5, none⟩)), none]) (fun σ D u => AB b r t tk fs (.slice A k c) ys (is ++ [x.id]) x w6 σ u (D 6) (D 7) (D 10))) (AnyO.InvG.start (g := .slice none 0 0) (⟨below_drew _, rfl⟩)) ?_ ?_
   ·intro i hi
    have hi2 : i = 4 ∨ i = 5 ∨ i = 6 ∨ i = 7 ∨ i = 10 ∨ i = 0 ∨ i = 1 ∨ i = 2 ∨ i = 3 ∨ i = 8 ∨ i = 9 := by simp only [List.size_toArray, List.length_cons, List.length_nil] at hi; omega
    clear hi
    rcases hi2 with rfl | rfl | rfl | rfl | rfl | rfl | rfl | rfl | rfl | rfl | rfl
    ·refine AnyO.I rfl [3] ?_; rintro D vs u σ Q h0 hC hp ac hb K hK
     have s61 : _ = _ := AnyO.sv 61 3 hb hp Q
     have hf7 := AnyO.fls (hC.out 7) h0 (by kernel_rfl)
     have hf10 := AnyO.fls (hC.out 10) hf7 (by kernel_rfl)
     have hst := Q.out.2
     rw [hf10] at hst
     have rr : u.cell? ⟨b, 5, none⟩ = some (.slice A k c) := (AB.row S5.out.1 hst).cell 5
     clear hst hf10 hf7
     go_simp; exact hK _ _ (AnyO.InvG.step (g := σ) Q.out.1 rfl Q.out.2)
    ·refine AnyO.I rfl [] ?_; rintro D vs u σ Q h0 hC hp ac hb K hK
     have s4 := AnyO.sz (v := .pointer (some ⟨w.heap.size, 0, none⟩)) 4 hb
     have hf6 := AnyO.fls (hC.out 6) h0 (by kernel_rfl)
     have hf7 := AnyO.fls (hC.out 7) hf6 (by kernel_rfl)
     have hst := Q.out.2
     rw [hf7] at hst
     have rq := row_it (S5.out.2.1.keep hst.below)
     have rr1 := rq.1
     have rr2 := rq.2
     clear hst hf6 hf7 rq
     go_simp; exact hK _ _ (AnyO.InvG.step (g := σ) Q.out.1 rfl Q.out.2)
    ·refine AnyO.I rfl [5] ?_; rintro D vs u σ Q h0 hC hp ac hb K hK
     have s63 : _ = _ := AnyO.sv 63 5 hb hp Q
     have hf7 := AnyO.fls (hC.out 7) h0 (by kernel_rfl)
     have hst := Q.out.2
     rw [h0] at hst
     have HST := Lib.hid hst
     clear hst
     go_simp
     rw [HST.out.2]
     exact hK _ _ (AnyO.InvG.step (g := σ) Q.out.1 rfl (by rw [show AnyO.addD D 6 6 = true from rfl, show AnyO.addD D 6 7 = D 7 from rfl, hf7]; exact HST.out.made))
    ·refine AnyO.I rfl [4, 6] ?_; rintro D vs u σ Q h0 hC hp ac hb K hK
     have s62 : _ = _ := AnyO.sv 62 4 hb hp Q
     have s64 : _ = _ := AnyO.sv 64 6 hb hp Q
     have hp6 : D 6 = true := hp.out 6 (by decide)
     have hf10 := AnyO.fls (hC.out 10) h0 (by kernel_rfl)
     have hst := Q.out.2
     rw [hp6, h0] at hst
     refine wp_append_sl_at u (.tmp 62) (.tmp 64) 30 rfl (b + 1) 36 36 88 cIt underIts rowIt (by decide) cIt_length cIt_one (.slice A k c) ys (ev_tmp s62) (S5.out.1.own.keep hst.1) _ 1 1 [x] rfl (by simp) (ev_tmp s64) hst.2 (by have := HX.out.2.2.1; omega) (by have := HX.out.2.2.1; omega) (Nat.le_trans S5.out.1.row.lt hst.1.size) ?_
     intro v9 w9 ho9 hg9 ha9
     refine hK _ _ (AnyO.InvG.ghost (g := σ) v9 Q.out.1 ?_ rfl ?_)
     ·intro j hj hq
      rcases j with _ | _ | _ | _ | _ | _ | _ | _ | _ | _ | _ | j
      all_goals first | exact hq | exact absurd (show D 7 = true from hj) (by rw [h0]; decide) | exact absurd (show D 10 = true from hj) (by rw [hf10]; decide)
     rw [show AnyO.addD D 7 6 = D 6 from rfl, hp6, show AnyO.addD D 7 7 = true from rfl, show AnyO.addD D 7 10 = D 10 from rfl, hf10]
     exact AB.grew S5.out.1 hst ho9 hg9 ha9
    ·refine AnyO.I rfl [9, 7, 7, 0, 1, 2, 3, 4, 5, 6, 7] ?_; rintro D vs u σ Q h0 hC hp ac hb K hK
     have s67 : _ = _ := AnyO.sv 67 9 hb hp Q
     have s65 : _ = _ := AnyO.sv 65 7 hb hp Q
     have hp7 : D 7 = true := hp.out 7 (by decide)
     have hp6 : D 6 = true := hC.out 7 hp7 6 (by rw [show AnyO.pre _ 7 = [4, 6] from by kernel_rfl]; decide)
     have hst := Q.out.2
     rw [hp6, hp7, h0] at hst
     have hrw := AB.row S5.out.1 hst
     have rr1 := hrw.fz 5
     have rr2 : u.cell? ⟨b, 5, none⟩ = some (.slice A k c) := hrw.cell 5
     obtain ⟨A9, c9, hv9, -, -⟩ := hst.2.1.sl
     rw [List.length_append, hk] at hv9
     replace hv9 : σ = .slice A9 (k + 1) c9 := hv9
     have HST := Lib.hid hst
     clear hst hrw
     go_simp
     rw [← hv9]
     exact hK undef _ (AnyO.InvG.step (g := σ) Q.out.1 trivial (by rw [show AnyO.addD D 10 6 = D 6 from rfl, hp6, show AnyO.addD D 10 7 = D 7 from rfl, hp7, show AnyO.addD D 10 10 = true from rfl]; exact AB.stored S5.out.1 HST.out))
    all_goals
     refine AnyO.J rfl ?_; rintro D vs u σ Q h0 hC hp ac hb K hK
     try have s0 : ac.tmps[0]?.getD undef = .pointer (some ⟨b, 0, none⟩) := by rw [hb.out]; kernel_rfl
     try have s59 : _ = _ := AnyO.sv 59 1 hb hp Q
     try have s60 : _ = _ := AnyO.sv 60 2 hb hp Q
     try have s58 : _ = _ := AnyO.sv 58 0 hb hp Q
     try have s66 : _ = _ := AnyO.sv 66 8 hb hp Q
     go_simp
     exact hK _ _ (AnyO.InvG.step (g := σ) Q.out.1 rfl Q.out.2)
   ·intro D vs u hI hD
    obtain ⟨σ, hP, hW⟩ := hI
    have e0 : _ = _ := hP 0 (hD 0 (by decide))
    have e1 : _ = _ := hP 1 (hD 1 (by decide))
    have e2 : _ = _ := hP 2 (hD 2 (by decide))
    have e3 : _ = _ := hP 3 (hD 3 (by decide))
    have e4 : _ = _ := hP 4 (hD 4 (by decide))
    have e5 : _ = _ := hP 5 (hD 5 (by decide))
    have e6 : _ = _ := hP 6 (hD 6 (by decide))
    have e7 : _ = _ := hP 7 (hD 7 (by decide))
    have e8 : _ = _ := hP 8 (hD 8 (by decide))
    have e9 : _ = _ := hP 9 (hD 9 (by decide))
    rw [show D 6 = true from hD 6 (by decide), show D 7 = true from hD 7 (by decide), show D 10 = true from hD 10 (by decide)] at hW
    have HW := Lib.hid hW
    clear hW hP hD
    rw [puts_range [some 58, some 59, some 60, some 61, some 62, some 63, some 64, some 65, some 66, some 67, none] (by kernel_rfl)]
    simp only [putL, Nat.reduceAdd, e0, e1, e2, e3, e4, e5, e6, e7, e8, e9]
    clear e0 e1 e2 e3 e4 e5 e6 e7 e8 e9
    go_simp
    go_wp2
    go_ret
    exact ⟨rfl, _, _, HW.out.1, S5.out.2.2.trans HW.out.2⟩

open Go.RowKit
set_option maxRecDepth 100000 in
theorem add6n (b : Nat) (x : It) (w : World) (hx : ItPl x) (h13 : (13 : UInt8) ∈ x.body) : Calls Tryz.prog 6 #[.pointer (some ⟨b, 0, none⟩), vIt x, .int .i64 100] w fun e w' => e = .returned (.int .i64 6) ∧ Below w.heap.size w w' := by
 have HX := Lib.hid (And.intro hx (And.intro h13 (below_alloc w (.cells (aIt x) 36))))
 clear hx h13
 go_enter Tryz.func6, Tryz.ntmps6
 go_wp2_with (first
  | (go_at_call 17; refine (isMinute17 100 (by decide) _).mono ?_; rintro e w2 ⟨rfl, rfl⟩)
  | (go_at_call 18; refine (check18n x HX.out.1 HX.out.2.1 _).mono ?_; rintro e w3 ⟨rfl, hb3⟩; have H3 := Lib.hid (Below.step HX.out.2.2 hb3); clear hb3))
 go_ret
 exact ⟨rfl, H3.out⟩
section
variable {b r : Nat} {t : List UInt8} {tk : Nat} {fs : Int} {v : Value} {ys : List It} {is : List Id}
set_option maxRecDepth 100000 in
theorem issue19 (w : World) (h : BlS b r t tk fs v ys is w) (ht : tk ≤ 1000) : Calls Tryz.prog 19 #[.pointer (some ⟨b, 0, none⟩)] w fun e w' => e = .returned (.int .i64 ((tk : Int) + 1)) ∧ w' = w := by
 have c4 : w.cell? ⟨b, 4, none⟩ = some (.int .i64 (tk : Int)) := h.row.cell 4
 have hti : (tk : Int) ≤ 1000 := by omega
 clear h
 go_enter Tryz.func19, Tryz.ntmps19
 go_wp2
 go_ret
 exact ⟨rfl, rfl⟩
end
def TB (cs : List Value) (W : World) (u : World) : Bool → Bool → Prop
 | false, _ => Below W.heap.size W u ∧ u.heap.size = W.heap.size
 | true, false => Below W.heap.size W u ∧ Row u W.heap.size [.string ⟨#[]⟩, .int .i64 0, .int .i64 0, .int .i64 0, .slice none 0 0] 39
 | true, true => Below W.heap.size W u ∧ Row u W.heap.size cs 39
theorem setCell_sz (W : World) (a : Addr) (v : Value) : (W.setCell a v).heap.size = W.heap.size := by simp [World.setCell]
theorem one_low_set {g : Nat} (W : World) (k : Nat) (v : Value) (h : g ≤ W.heap.size) : Below g W (W.setCell ⟨g, k, none⟩ v) := (One.set k v).below (Nat.le_refl _) h
theorem TB.below {cs : List Value} {W u : World} {d1 d2 : Bool} (h : TB cs W u d1 d2) : Below W.heap.size W u := by
 cases d1 with
 | false => exact h.1
 | true => cases d2 with
  | false => exact h.1
  | true => exact h.1
section
set_option maxRecDepth 100000
set_option maxHeartbeats 1600000
theorem take7z (b r : Nat) (t : List UInt8) (fs : Int) (is : List Id) (w : World) (h : BlS b r t 0 fs (.slice none 0 0) [] is w) : Calls Tryz.prog 7 #[.pointer (some ⟨b, 0, none⟩), .int .i64 100] w fun e w' => e = .returned (.tuple #[.agg #[.string ⟨#[]⟩, .int .i64 0, .int .i64 0, .int .i64 0, .slice none 0 0], .int .i64 10]) ∧ Below w.heap.size w w' := by
 have b1 := below_alloc w (.cells #[.string ⟨#[]⟩, .int .i64 0, .int .i64 0, .int .i64 0, .slice none 0 0] 39)
 have R1 := Row.new w [.string ⟨#[]⟩, .int .i64 0, .int .i64 0, .int .i64 0, .slice none 0 0] 39
 have c5 : (w.alloc (.cells #[.string ⟨#[]⟩, .int .i64 0, .int .i64 0, .int .i64 0, .slice none 0 0] 39)).cell? ⟨b, 5, none⟩ = some (.slice none 0 0) := (h.row.keep b1).cell 5
 have HX := Lib.hid (And.intro b1 R1)
 clear b1 R1 h
 go_enter Tryz.func7, Tryz.ntmps7
 go_wp2_with (go_at_call 17; refine (isMinute17 100 (by decide) _).mono ?_; rintro e w2 ⟨rfl, rfl⟩)
 exact bodyPost_ret (results_c2 (ad := ⟨w.heap.size, 0, none⟩) rfl rfl (ld_dg HX.out.2) rfl) rfl ⟨rfl, HX.out.1⟩
theorem take7 (b r : Nat) (t : List UInt8) (fs : Int) (A4 : Addr) (c : Nat) (ys : List It) (is : List Id) (w0 w : World) (h : BlS b r t 0 fs (.slice (some A4) ys.length c) ys is w) (hM : DgM t 1 100 A4 c ys w0 w) : Calls Tryz.prog 7 #[.pointer (some ⟨b, 0, none⟩), .int .i64 100] w fun e w' => e = .returned (.tuple #[vDg t 1 100 (.slice (some A4) ys.length c), .int .i64 0]) ∧ One b w w' := by
 have b1 := below_alloc w (.cells #[.string ⟨#[]⟩, .int .i64 0, .int .i64 0, .int .i64 0, .slice none 0 0] 39)
 have R1 := Row.new w [.string ⟨#[]⟩, .int .i64 0, .int .i64 0, .int .i64 0, .slice none 0 0] 39
 obtain ⟨k, hk⟩ : ∃ k, ys.length = k := ⟨_, rfl⟩
 have hpos : 0 < k := by rw [← hk]; exact List.length_pos_iff.2 hM.ne
 have hki : ((k : Int) == 0) = false := by rw [beq_eq_false_iff_ne]; omega
 rw [hk] at h ⊢
 have hbw := h.row.lt
 have c5 : (w.alloc (.cells #[.string ⟨#[]⟩, .int .i64 0, .int .i64 0, .int .i64 0, .slice none 0 0] 39)).cell? ⟨b, 5, none⟩ = some (.slice (some A4) k c) := (h.row.keep b1).cell 5
 have S1 := Lib.hid (And.intro (h.keep b1) (And.intro R1 (And.intro b1 (And.intro (hM.keep b1) hk))))
 clear b1 R1 h hM hk hpos
 go_enter Tryz.func7, Tryz.ntmps7
 go_wp2_with (go_at_call 17; refine (isMinute17 100 (by decide) _).mono ?_; rintro e w2 ⟨rfl, rfl⟩)
 clear c5
 have hz1 : (w.alloc (.cells #[.string ⟨#[]⟩, .int .i64 0, .int .i64 0, .int .i64 0, .slice none 0 0] 39)).heap.size = w.heap.size + 1 := World.size_alloc _ _
 revert S1 hz1
 generalize w.alloc (.cells #[.string ⟨#[]⟩, .int .i64 0, .int .i64 0, .int .i64 0, .slice none 0 0] 39) = w1
 intro S1 hz1
 have HZ := Lib.hid hz1
 clear hz1
 refine AnyO.wp_anyI (by kernel_rfl) (by kernel_rfl) (AnyO.InvG (σ := Unit) (fun σ => AnyO.pvL [some (.pointer (some ⟨b, 0, none⟩)), some (.pointer (some ⟨b, 0, none⟩)), some (.pointer (some ⟨b, 0, none⟩)), some (.string (tx t)), some (.pointer (some ⟨b, 0, none⟩)), some (.pointer (some ⟨b, 0, none⟩)), some (.pointer (some ⟨b, 1, none⟩)), some (.int .i64 1), some (.pointer (some ⟨b, 0, none⟩)), some (.int .i64 1), some (.int .i64 100), some (.pointer (some ⟨b, 0, none⟩)), some (.pointer (some ⟨b, 0, none⟩)), some (.pointer (some ⟨b, 5, none⟩)), some (.slice (some A4) k c), some (.agg #[.string (tx t), .int .i64 1, .int .i64 1, .int .i64 100, .slice (some A4) k c]), some (.pointer (some ⟨w1.heap.size, 0, none⟩)), none]) (fun σ D u => TB [.string (tx t), .int .i64 1, .int .i64 1, .int .i64 100, .slice (some A4) k c] w1 u (D 16) (D 17))) (AnyO.InvG.start (g := ()) (⟨below_drew _, rfl⟩)) ?_ ?_
 ·intro i hi
  have hi2 : i = 3 ∨ i = 7 ∨ i = 9 ∨ i = 14 ∨ i = 16 ∨ i = 17 ∨ i = 0 ∨ i = 1 ∨ i = 2 ∨ i = 4 ∨ i = 5 ∨ i = 6 ∨ i = 8 ∨ i = 10 ∨ i = 11 ∨ i = 12 ∨ i = 13 ∨ i = 15 := by simp only [List.size_toArray, List.length_cons, List.length_nil] at hi; omega
  clear hi
  rcases hi2 with rfl | rfl | rfl | rfl | rfl | rfl | rfl | rfl | rfl | rfl | rfl | rfl | rfl | rfl | rfl | rfl | rfl | rfl
  ·refine AnyO.I rfl [2] ?_; rintro D vs u σ Q h0 hC hp ac hb K hK
   have s27 : _ = _ := AnyO.sv 27 2 hb hp Q
   have hst := Q.out.2
   have rr : u.cell? ⟨b, 0, none⟩ = some (.string (tx t)) := (S1.out.1.row.keep hst.below).cell 0
   clear hst
   go_simp; exact hK _ _ (AnyO.InvG.step (g := σ) Q.out.1 rfl Q.out.2)
  ·refine AnyO.I rfl [6] ?_; rintro D vs u σ Q h0 hC hp ac hb K hK
   have s31 : _ = _ := AnyO.sv 31 6 hb hp Q
   have hst := Q.out.2
   have rr : u.cell? ⟨b, 1, none⟩ = some (.int .i64 1) := (S1.out.1.row.keep hst.below).cell 1
   clear hst
   go_simp; exact hK _ _ (AnyO.InvG.step (g := σ) Q.out.1 rfl Q.out.2)
  ·refine AnyO.I rfl [8] ?_; rintro D vs u σ Q h0 hC hp ac hb K hK
   have s33 : _ = _ := AnyO.sv 33 8 hb hp Q
   go_simp
   go_at_call 19
   refine (issue19 u (S1.out.1.keep Q.out.2.below) (by decide)).mono ?_
   rintro e w9 ⟨rfl, rfl⟩
   exact hK _ _ (AnyO.InvG.step (g := σ) Q.out.1 rfl Q.out.2)
  ·refine AnyO.I rfl [13] ?_; rintro D vs u σ Q h0 hC hp ac hb K hK
   have s38 : _ = _ := AnyO.sv 38 13 hb hp Q
   have hst := Q.out.2
   have rr : u.cell? ⟨b, 5, none⟩ = some (.slice (some A4) k c) := (S1.out.1.row.keep hst.below).cell 5
   clear hst
   go_simp; exact hK _ _ (AnyO.InvG.step (g := σ) Q.out.1 rfl Q.out.2)
  ·refine AnyO.I rfl [] ?_; rintro D vs u σ Q h0 hC hp ac hb K hK
   have hf17 := AnyO.fls (hC.out 17) h0 (by kernel_rfl)
   have hst := Q.out.2
   rw [h0] at hst
   have HST := Lib.hid hst
   clear hst
   go_simp
   rw [HST.out.2]
   exact hK _ _ (AnyO.InvG.step (g := σ) Q.out.1 rfl (by rw [show AnyO.addD D 16 16 = true from rfl, show AnyO.addD D 16 17 = D 17 from rfl, hf17]; exact ⟨Below.step HST.out.1 (below_alloc _ _), by rw [← HST.out.2]; exact Row.new u [.string ⟨#[]⟩, .int .i64 0, .int .i64 0, .int .i64 0, .slice none 0 0] 39⟩))
  ·refine AnyO.I rfl [16, 15, 9, 0, 1, 2, 3, 4, 5, 6, 7, 8, 9, 10, 11, 12, 13, 14, 15, 16] ?_; rintro D vs u σ Q h0 hC hp ac hb K hK
   have s6 : _ = _ := AnyO.sv 6 16 hb hp Q
   have s40 : _ = _ := AnyO.sv 40 15 hb hp Q
   have hp16 : D 16 = true := hp.out 16 (by decide)
   have hst := Q.out.2
   rw [hp16, h0] at hst
   have F0 := hst.2.fz 0
   have F1 := hst.2.fz 1
   have F2 := hst.2.fz 2
   have F3 := hst.2.fz 3
   have F4 := hst.2.fz 4
   have N0 : u.cell? ⟨w1.heap.size, 0, none⟩ = some (.string ⟨#[]⟩) := hst.2.cell 0
   have N1 : ∀ v0, (u.setCell ⟨w1.heap.size, 0, none⟩ v0).cell? ⟨w1.heap.size, 1, none⟩ = some (.int .i64 0) := fun v0 => (hst.2.set 0 v0).cell 1
   have N2 : ∀ v0 v1, ((u.setCell ⟨w1.heap.size, 0, none⟩ v0).setCell ⟨w1.heap.size, 1, none⟩ v1).cell? ⟨w1.heap.size, 2, none⟩ = some (.int .i64 0) := fun v0 v1 => ((hst.2.set 0 v0).set 1 v1).cell 2
   have N3 : ∀ v0 v1 v2, (((u.setCell ⟨w1.heap.size, 0, none⟩ v0).setCell ⟨w1.heap.size, 1, none⟩ v1).setCell ⟨w1.heap.size, 2, none⟩ v2).cell? ⟨w1.heap.size, 3, none⟩ = some (.int .i64 0) := fun v0 v1 v2 => (((hst.2.set 0 v0).set 1 v1).set 2 v2).cell 3
   have N4 : ∀ v0 v1 v2 v3, ((((u.setCell ⟨w1.heap.size, 0, none⟩ v0).setCell ⟨w1.heap.size, 1, none⟩ v1).setCell ⟨w1.heap.size, 2, none⟩ v2).setCell ⟨w1.heap.size, 3, none⟩ v3).cell? ⟨w1.heap.size, 4, none⟩ = some (.slice none 0 0) := fun v0 v1 v2 v3 => ((((hst.2.set 0 v0).set 1 v1).set 2 v2).set 3 v3).cell 4
   have HST := Lib.hid hst
   clear hst
   go_simp
   refine hK undef _ (AnyO.InvG.step (g := σ) Q.out.1 trivial ?_)
   rw [show AnyO.addD D 17 16 = D 16 from rfl, hp16, show AnyO.addD D 17 17 = true from rfl]
   exact ⟨(((((HST.out.1.trans ((One.set 0 _).below (Nat.le_refl _) HST.out.1.size)).trans ((One.set 1 _).below (Nat.le_refl _) (by have := HST.out.1.size; simpa [World.setCell] using this))).trans ((One.set 2 _).below (Nat.le_refl _) (by have := HST.out.1.size; simpa [World.setCell] using this))).trans ((One.set 3 _).below (Nat.le_refl _) (by have := HST.out.1.size; simpa [World.setCell] using this))).trans ((One.set 4 _).below (Nat.le_refl _) (by have := HST.out.1.size; simpa [World.setCell] using this))), ((((HST.out.2.set 0 _).set 1 _).set 2 _).set 3 _).set 4 _⟩
  all_goals
   refine AnyO.J rfl ?_; rintro D vs u σ Q h0 hC hp ac hb K hK
   try have s0 : ac.tmps[0]?.getD undef = .pointer (some ⟨b, 0, none⟩) := by rw [hb.out]; kernel_rfl
   try have s25 : _ = _ := AnyO.sv 25 0 hb hp Q
   try have s26 : _ = _ := AnyO.sv 26 1 hb hp Q
   try have s29 : _ = _ := AnyO.sv 29 4 hb hp Q
   try have s30 : _ = _ := AnyO.sv 30 5 hb hp Q
   try have s1 : ac.tmps[1]?.getD undef = .int .i64 100 := by rw [hb.out]; kernel_rfl
   try have s36 : _ = _ := AnyO.sv 36 11 hb hp Q
   try have s37 : _ = _ := AnyO.sv 37 12 hb hp Q
   try have s28 : _ = _ := AnyO.sv 28 3 hb hp Q
   try have s32 : _ = _ := AnyO.sv 32 7 hb hp Q
   try have s34 : _ = _ := AnyO.sv 34 9 hb hp Q
   try have s35 : _ = _ := AnyO.sv 35 10 hb hp Q
   try have s39 : _ = _ := AnyO.sv 39 14 hb hp Q
   go_simp
   exact hK _ _ (AnyO.InvG.step (g := σ) Q.out.1 rfl Q.out.2)
 ·intro D vs u hI hD
  obtain ⟨σ, hP, hW⟩ := hI
  have e0 : _ = _ := hP 0 (hD 0 (by decide))
  have e1 : _ = _ := hP 1 (hD 1 (by decide))
  have e2 : _ = _ := hP 2 (hD 2 (by decide))
  have e3 : _ = _ := hP 3 (hD 3 (by decide))
  have e4 : _ = _ := hP 4 (hD 4 (by decide))
  have e5 : _ = _ := hP 5 (hD 5 (by decide))
  have e6 : _ = _ := hP 6 (hD 6 (by decide))
  have e7 : _ = _ := hP 7 (hD 7 (by decide))
  have e8 : _ = _ := hP 8 (hD 8 (by decide))
  have e9 : _ = _ := hP 9 (hD 9 (by decide))
  have e10 : _ = _ := hP 10 (hD 10 (by decide))
  have e11 : _ = _ := hP 11 (hD 11 (by decide))
  have e12 : _ = _ := hP 12 (hD 12 (by decide))
  have e13 : _ = _ := hP 13 (hD 13 (by decide))
  have e14 : _ = _ := hP 14 (hD 14 (by decide))
  have e15 : _ = _ := hP 15 (hD 15 (by decide))
  have e16 : _ = _ := hP 16 (hD 16 (by decide))
  rw [show D 16 = true from hD 16 (by decide), show D 17 = true from hD 17 (by decide)] at hW
  have HW := Lib.hid hW
  clear hW hP hD
  rw [puts_range [some 25, some 26, some 27, some 28, some 29, some 30, some 31, some 32, some 33, some 34, some 35, some 36, some 37, some 38, some 39, some 40, some 6, none] (by kernel_rfl)]
  simp only [putL, Nat.reduceAdd, e0, e1, e2, e3, e4, e5, e6, e7, e8, e9, e10, e11, e12, e13, e14, e15, e16]
  clear e0 e1 e2 e3 e4 e5 e6 e7 e8 e9 e10 e11 e12 e13 e14 e15 e16
  go_simp
  have hrow : Row u (w.heap.size + 1) [.string (tx t), .int .i64 1, .int .i64 1, .int .i64 100, .slice (some A4) k c] 39 := by have := HW.out.2; rw [HZ.out] at this; exact this
  have e0 : u.cell? ⟨w.heap.size + 1, 0, none⟩ = some (.string (tx t)) := hrow.cell 0
  have e1 : u.cell? ⟨w.heap.size + 1, 1, none⟩ = some (.int .i64 1) := hrow.cell 1
  have e2 : u.cell? ⟨w.heap.size + 1, 2, none⟩ = some (.int .i64 1) := hrow.cell 2
  have e3 : u.cell? ⟨w.heap.size + 1, 3, none⟩ = some (.int .i64 100) := hrow.cell 3
  have e4 : u.cell? ⟨w.heap.size + 1, 4, none⟩ = some (.slice (some A4) k c) := hrow.cell 4
  have S2 := Lib.hid (And.intro (S1.out.1.keep HW.out.1) (And.intro (S1.out.2.1.keep HW.out.1) (And.intro (Below.step S1.out.2.2.1 HW.out.1) (And.intro (S1.out.2.2.2.1.keep HW.out.1) hrow))))
  clear HW hrow
  rw [HZ.out]
  go_wp2_with (go_at_call 20; go_loud (have hc := check20 t 1 100 A4 c ys w0 u S2.out.2.2.2.1; rw [S1.out.2.2.2.2] at hc; refine hc.mono ?_; rintro e w3 ⟨rfl, hb3⟩; have S3 := Lib.hid (And.intro (S2.out.1.keep hb3) (And.intro (S2.out.2.1.keep hb3) (And.intro (Below.step S2.out.2.2.1 hb3) (S2.out.2.2.2.2.keep hb3)))); have q5 : w3.cell? ⟨b, 5, none⟩ = some (.slice (some A4) k c) := S3.out.1.row.cell 5; have f5 := S3.out.1.row.fz 5; have f4 := S3.out.1.row.fz 4; have q4 : (w3.setCell ⟨b, 5, none⟩ (.slice none 0 0)).cell? ⟨b, 4, none⟩ = some (.int .i64 0) := (S3.out.1.row.set 5 (.slice none 0 0)).cell 4; have hR4 : Row ((w3.setCell ⟨b, 5, none⟩ (.slice none 0 0)).setCell ⟨b, 4, none⟩ (.int .i64 1)) (w.heap.size + 1) [.string (tx t), .int .i64 1, .int .i64 1, .int .i64 100, .slice (some A4) k c] 39 := (S3.out.2.2.2.same (heap_set_other _ b 5 _ _ (by omega))).same (heap_set_other _ b 4 _ _ (by omega)); have hZ4 : Row ((w3.setCell ⟨b, 5, none⟩ (.slice none 0 0)).setCell ⟨b, 4, none⟩ (.int .i64 1)) w.heap.size [.string ⟨#[]⟩, .int .i64 0, .int .i64 0, .int .i64 0, .slice none 0 0] 39 := (S3.out.2.1.same (heap_set_other _ b 5 _ _ (by omega))).same (heap_set_other _ b 4 _ _ (by omega)); have g0 : ((w3.setCell ⟨b, 5, none⟩ (.slice none 0 0)).setCell ⟨b, 4, none⟩ (.int .i64 1)).cell? ⟨w.heap.size + 1, 0, none⟩ = some (.string (tx t)) := hR4.cell 0; have z0 := hZ4.fz 0; have g1 : ((w3.setCell ⟨b, 5, none⟩ (.slice none 0 0)).setCell ⟨b, 4, none⟩ (.int .i64 1)).cell? ⟨w.heap.size + 1, 1, none⟩ = some (.int .i64 1) := hR4.cell 1; have z1 := hZ4.fz 1; have g2 : ((w3.setCell ⟨b, 5, none⟩ (.slice none 0 0)).setCell ⟨b, 4, none⟩ (.int .i64 1)).cell? ⟨w.heap.size + 1, 2, none⟩ = some (.int .i64 1) := hR4.cell 2; have z2 := hZ4.fz 2; have g3 : ((w3.setCell ⟨b, 5, none⟩ (.slice none 0 0)).setCell ⟨b, 4, none⟩ (.int .i64 1)).cell? ⟨w.heap.size + 1, 3, none⟩ = some (.int .i64 100) := hR4.cell 3; have z3 := hZ4.fz 3; have g4 : ((w3.setCell ⟨b, 5, none⟩ (.slice none 0 0)).setCell ⟨b, 4, none⟩ (.int .i64 1)).cell? ⟨w.heap.size + 1, 4, none⟩ = some (.slice (some A4) k c) := hR4.cell 4; have z4 := hZ4.fz 4; have N0 : ((w3.setCell ⟨b, 5, none⟩ (.slice none 0 0)).setCell ⟨b, 4, none⟩ (.int .i64 1)).cell? ⟨w.heap.size, 0, none⟩ = some (.string ⟨#[]⟩) := hZ4.cell 0; have N1 : ∀ v0, (((w3.setCell ⟨b, 5, none⟩ (.slice none 0 0)).setCell ⟨b, 4, none⟩ (.int .i64 1)).setCell ⟨w.heap.size, 0, none⟩ v0).cell? ⟨w.heap.size, 1, none⟩ = some (.int .i64 0) := fun v0 => (hZ4.set 0 v0).cell 1; have N2 : ∀ v0 v1, ((((w3.setCell ⟨b, 5, none⟩ (.slice none 0 0)).setCell ⟨b, 4, none⟩ (.int .i64 1)).setCell ⟨w.heap.size, 0, none⟩ v0).setCell ⟨w.heap.size, 1, none⟩ v1).cell? ⟨w.heap.size, 2, none⟩ = some (.int .i64 0) := fun v0 v1 => ((hZ4.set 0 v0).set 1 v1).cell 2; have N3 : ∀ v0 v1 v2, (((((w3.setCell ⟨b, 5, none⟩ (.slice none 0 0)).setCell ⟨b, 4, none⟩ (.int .i64 1)).setCell ⟨w.heap.size, 0, none⟩ v0).setCell ⟨w.heap.size, 1, none⟩ v1).setCell ⟨w.heap.size, 2, none⟩ v2).cell? ⟨w.heap.size, 3, none⟩ = some (.int .i64 0) := fun v0 v1 v2 => (((hZ4.set 0 v0).set 1 v1).set 2 v2).cell 3; have N4 : ∀ v0 v1 v2 v3, ((((((w3.setCell ⟨b, 5, none⟩ (.slice none 0 0)).setCell ⟨b, 4, none⟩ (.int .i64 1)).setCell ⟨w.heap.size, 0, none⟩ v0).setCell ⟨w.heap.size, 1, none⟩ v1).setCell ⟨w.heap.size, 2, none⟩ v2).setCell ⟨w.heap.size, 3, none⟩ v3).cell? ⟨w.heap.size, 4, none⟩ = some (.slice none 0 0) := fun v0 v1 v2 v3 => ((((hZ4.set 0 v0).set 1 v1).set 2 v2).set 3 v3).cell 4; have HZ4 := Lib.hid hZ4; clear hR4 hZ4; clear hb3 hc))
  have hZF : Row _ w.heap.size [.string (tx t), .int .i64 1, .int .i64 1, .int .i64 100, .slice (some A4) k c] 39 := ((((HZ4.out.set 0 (.string (tx t))).set 1 (.int .i64 1)).set 2 (.int .i64 1)).set 3 (.int .i64 100)).set 4 (.slice (some A4) k c)
  have hB3 := S3.out.2.2.1
  have hO : One b w (((w3.setCell ⟨b, 5, none⟩ (.slice none 0 0)).setCell ⟨b, 4, none⟩ (.int .i64 1))) := ((One.of_below hB3).trans (One.set 5 _)).trans (One.set 4 _)
  have hld := ld_dg hZF
  rw [show vDg t 1 100 (.slice (some A4) k c) = .agg #[.string (tx t), .int .i64 1, .int .i64 1, .int .i64 100, .slice (some A4) k c] from rfl]
  clear hZF HZ4 S3 N0 N1 N2 N3 N4
  refine bodyPost_ret (v := .tuple #[.agg #[.string (tx t), .int .i64 1, .int .i64 1, .int .i64 100, .slice (some A4) k c], .int .i64 0]) (results_c2 (ad := ⟨w.heap.size, 0, none⟩) rfl rfl hld rfl) rfl ⟨rfl, ?_⟩
  clear hld
  have hz4 := hO.size
  refine One.low (((((hO).low (B := w.heap.size) (one_low_set _ 0 _ hz4) (Nat.le_refl _)).low (B := w.heap.size) (one_low_set _ 1 _ (by rw [setCell_sz]; exact hz4)) (Nat.le_refl _)).low (B := w.heap.size) (one_low_set _ 2 _ (by rw [setCell_sz, setCell_sz]; exact hz4)) (Nat.le_refl _)).low (B := w.heap.size) (one_low_set _ 3 _ (by rw [setCell_sz, setCell_sz, setCell_sz]; exact hz4)) (Nat.le_refl _)) (one_low_set _ 4 _ (by rw [setCell_sz, setCell_sz, setCell_sz, setCell_sz]; exact hz4)) (Nat.le_refl _)
end
end Go.Proofs.YtibelollgdnidaaGreatDoor
