/- mail: read. -/
import Derived.Test.YtibelollgdnidaaGreatDoorMMr1
namespace Go.Proofs.YtibelollgdnidaaGreatDoor
open Go.RowKit
structure FdC (g : Nat) (v1 v3 v5 v7 v9 v11 : ByteArray) (w : World) : Prop where
 lt : g < w.heap.size
 c1 : w.cell? ⟨g, 1, none⟩ = some (.string v1)
 c3 : w.cell? ⟨g, 3, none⟩ = some (.string v3)
 c5 : w.cell? ⟨g, 5, none⟩ = some (.string v5)
 c7 : w.cell? ⟨g, 7, none⟩ = some (.string v7)
 c9 : w.cell? ⟨g, 9, none⟩ = some (.string v9)
 c11 : w.cell? ⟨g, 11, none⟩ = some (.string v11)
theorem FdC.keep {g : Nat} {v1 v3 v5 v7 v9 v11 : ByteArray} {w w' : World} (h : FdC g v1 v3 v5 v7 v9 v11 w) (hb : Below w.heap.size w w') : FdC g v1 v3 v5 v7 v9 v11 w' :=
 ⟨Nat.lt_of_lt_of_le h.lt hb.size, (hb.cell h.lt).trans h.c1, (hb.cell h.lt).trans h.c3, (hb.cell h.lt).trans h.c5, (hb.cell h.lt).trans h.c7, (hb.cell h.lt).trans h.c9, (hb.cell h.lt).trans h.c11⟩
theorem fd_of {w : World} {base : Nat} {v : Value} {hs : List (List UInt8)} (h : Own w base 67 2 cF2 v (fbs (flds hs))) : ∃ g c, v = .slice (some ⟨g, 0, none⟩) 6 c ∧ FdC g (tx (wDg ++ 64 :: [97])) (tx (wRe ++ 64 :: [98])) (tx [48]) (tx [49, 48, 48]) (tx (bdL hs)) ⟨#[66, 111, 97, 116, 115]⟩ w := by
 rcases h.rowOf with ⟨_, e⟩ | ⟨g, c, cs, rfl, hb, hr, hc, hm, hl, ht⟩
 ·cases e
 ·have hcell : ∀ k v, k < 12 → ((fbs (flds hs)).flatMap cF2)[k]? = some v → w.cell? ⟨g, k, none⟩ = some v := by
   intro k v hk hv
   rw [hr.cell, ← hv, ← ht, List.getElem?_take, if_pos (by show k < 6 * 2; omega)]
  exact ⟨g, c, rfl, hr.lt, hcell 1 _ (by decide) rfl, hcell 3 _ (by decide) rfl, hcell 5 _ (by decide) rfl, hcell 7 _ (by decide) rfl, hcell 9 _ (by decide) rfl, hcell 11 _ (by decide) rfl⟩
theorem HpS.st9 {u : World} {v : Value} {hs : List (List UInt8)} {b : Nat} {v0 v1 v2 v3 v4 v5 v6 v7 v8 : Value} {cs : List Value} {t : TypeId} (h : HpS u v hs) (hr : Row u b (.string ⟨#[]⟩ :: cs) t) (hne : ∀ x ∈ hs, x ≠ []) : HpS (st9 u b v0 v1 v2 v3 v4 v5 v6 v7 v8) v hs := by
 rcases h with h | ⟨h0, g, c, rfl, h1, h2, h3⟩
 ·exact .inl h
 ·have hgb : g ≠ b := by
   intro e
   subst e
   obtain ⟨x, hs, rfl⟩ := List.exists_cons_of_ne_nil h0
   have e1 := h3 0 x rfl
   rw [Nat.zero_add, hr.cell 0] at e1
   have e2 : (⟨#[]⟩ : ByteArray) = tx x := Value.string.inj (Option.some.inj e1)
   have e3 := congrArg bl e2
   rw [bl_tx] at e3
   exact hne x List.mem_cons_self e3.symm
  have ho : One b u (Go.Proofs.YtibelollgdnidaaGreatDoor.st9 u b v0 v1 v2 v3 v4 v5 v6 v7 v8) := One.st9
  refine .inr ⟨h0, g, c, rfl, h1, Nat.lt_of_lt_of_le h2 ho.size, fun j x hx => ?_⟩
  rw [← h3 j x hx]
  unfold World.cell?
  rw [ho.out g h2 hgb]
theorem adr_made {w W3 W4 : World} {b4 : Nat} {x y : ByteArray} (h3 : w.alloc (.cells #[.string ⟨#[]⟩, .string ⟨#[]⟩] 45) = W3) (hb : w.heap.size = b4) (h4 : (W3.setCell ⟨b4, 0, none⟩ (.string x)).setCell ⟨b4, 1, none⟩ (.string y) = W4) : Below w.heap.size w W4 ∧ Row W4 b4 [.string x, .string y] 45 ∧ Row W3 b4 [.string ⟨#[]⟩, .string ⟨#[]⟩] 45 := by
 subst h3 hb h4
 have r := Row.new w [.string ⟨#[]⟩, .string ⟨#[]⟩] 45
 exact ⟨((below_alloc w _).setCell (Nat.le_refl _) _).setCell (Nat.le_refl _) _, (r.set 0 _).set 1 _, r⟩
def RdW (b : Nat) (hs : List (List UInt8)) (u1 y1 u2 y2 sb : ByteArray) (W7 : World) (σ : Option Addr × Nat × Nat) (u : World) : Bool → Bool → Prop
 | false, _ => Below W7.heap.size W7 u
 | true, false => Below W7.heap.size W7 u ∧ HpS u (.slice σ.1 σ.2.1 σ.2.2) hs
 | true, true => Row u b [.string u1, .string y1, .string u2, .string y2, .int .i64 0, .int .i64 100, .string sb, .slice σ.1 σ.2.1 σ.2.2, .string ⟨#[]⟩] 47 ∧ HpS u (.slice σ.1 σ.2.1 σ.2.2) hs ∧ Below b W7 u
theorem RdW.bel {b : Nat} {hs : List (List UInt8)} {u1 y1 u2 y2 sb : ByteArray} {W7 : World} {σ : Option Addr × Nat × Nat} {u : World} {d : Bool} (h : RdW b hs u1 y1 u2 y2 sb W7 σ u d false) : Below W7.heap.size W7 u := by
 cases d
 ·exact h
 ·exact h.1
theorem RdW.stored {b : Nat} {hs : List (List UInt8)} {u1 y1 u2 y2 sb : ByteArray} {W7 : World} {σ : Option Addr × Nat × Nat} {u : World} (hne : ∀ x ∈ hs, x ≠ []) (hr : Row W7 b [.string ⟨#[]⟩, .string ⟨#[]⟩, .string ⟨#[]⟩, .string ⟨#[]⟩, .int .i64 0, .int .i64 0, .string ⟨#[]⟩, .slice none 0 0, .string ⟨#[]⟩] 47) (h : RdW b hs u1 y1 u2 y2 sb W7 σ u true false) : RdW b hs u1 y1 u2 y2 sb W7 σ (Go.Proofs.YtibelollgdnidaaGreatDoor.st9 u b (.string u1) (.string y1) (.string u2) (.string y2) (.int .i64 0) (.int .i64 100) (.string sb) (.slice σ.1 σ.2.1 σ.2.2) (.string ⟨#[]⟩)) true true :=
 ⟨(hr.keep h.1).st9 rfl, h.2.st9 (hr.keep h.1) hne, (h.1.mono (Nat.le_of_lt hr.lt)).trans (One.st9.below (Nat.le_refl _) (Nat.le_of_lt (hr.keep h.1).lt))⟩
set_option maxRecDepth 100000 in
set_option maxHeartbeats 3200000 in
theorem read29 (v : Value) (base : Nat) (hs : List (List UInt8)) (w0 w : World) (hL : Ldz w0 w) (h : Own w base 67 2 cF2 v (fbs (flds hs))) (ho : HpL hs) :
  Calls Tryz.prog 29 #[v] w fun e w' => ∃ A n c, e = .returned (.tuple #[.agg (aMs A n c ⟨#[]⟩), .bool true]) ∧ HpS w' (.slice A n c) hs ∧ Below w.heap.size w w' := by
 obtain ⟨g, c, rfl, hF⟩ := fd_of h
 obtain ⟨u1, h1⟩ : ∃ x : ByteArray, (⟨#[100, 105, 103, 101, 115, 116]⟩ : ByteArray) = x := ⟨_, rfl⟩
 obtain ⟨y1, h2⟩ : ∃ x : ByteArray, (⟨#[97]⟩ : ByteArray) = x := ⟨_, rfl⟩
 obtain ⟨u2, h3⟩ : ∃ x : ByteArray, (⟨#[114, 101, 97, 100, 101, 114]⟩ : ByteArray) = x := ⟨_, rfl⟩
 obtain ⟨y2, h4⟩ : ∃ x : ByteArray, (⟨#[98]⟩ : ByteArray) = x := ⟨_, rfl⟩
 obtain ⟨sb, h5⟩ : ∃ x : ByteArray, (⟨#[66, 111, 97, 116, 115]⟩ : ByteArray) = x := ⟨_, rfl⟩
 obtain ⟨fA, hfA⟩ : ∃ x, tx (wDg ++ 64 :: [97]) = x := ⟨_, rfl⟩
 obtain ⟨fB, hfB⟩ : ∃ x, tx (wRe ++ 64 :: [98]) = x := ⟨_, rfl⟩
 obtain ⟨fC, hfC⟩ : ∃ x, tx [48] = x := ⟨_, rfl⟩
 obtain ⟨fD, hfD⟩ : ∃ x, tx [49, 48, 48] = x := ⟨_, rfl⟩
 obtain ⟨fE, hfE⟩ : ∃ x, tx (bdL hs) = x := ⟨_, rfl⟩
 have hpa := fun (u : World) (hu : Ldz w0 u) => parseAddr64 wDg [97] w0 u hu (by decide +kernel) (by decide) (by decide) (by decide) (by decide +kernel) (by decide)
 have hpb := fun (u : World) (hu : Ldz w0 u) => parseAddr64 wRe [98] w0 u hu (by decide +kernel) (by decide) (by decide) (by decide) (by decide +kernel) (by decide)
 rw [hfA, show tx wDg = u1 from h1, show tx [97] = y1 from h2] at hpa
 rw [hfB, show tx wRe = u2 from h3, show tx [98] = y2 from h4] at hpb
 have hnc := fun u : World => number29 (tx [48]) 2147483647 (by decide) (by decide) (0, 0) (by rw [bl_tx]; decide +kernel) u (by decide)
 have hnd := fun u : World => number29 (tx [49, 48, 48]) 105190559 (by decide) (by decide) (100, 0) (by rw [bl_tx]; decide +kernel) u (by decide)
 rw [hfC] at hnc
 rw [hfD] at hnd
 have hwd := fun u : World => words21h ho.fl u
 rw [hfE] at hwd
 rw [hfA, hfB, hfC, hfD, hfE, h5] at hF
 have HC := Lib.hid (And.intro hpa (And.intro hpb (And.intro hnc (And.intro hnd (And.intro hwd (show ∀ x ∈ hs, x ≠ [] from fun x hx e => by have := (ho.two x hx).1; rw [e] at this; cases this))))))
 have HMg := Lib.hid (show ∀ (A : Option Addr) (n c : Nat), Value.agg (aMs A n c ⟨#[]⟩) = .agg #[.string u1, .string y1, .string u2, .string y2, .int .i64 0, .int .i64 100, .string sb, .slice A n c, .string ⟨#[]⟩] from fun A n c => by unfold aMs; rw [h1, h2, h3, h4, h5])
 clear hpa hpb hnc hnd hwd h1 h2 h3 h4 h5 hfA hfB hfC hfD hfE h ho
 obtain ⟨b, hb⟩ : ∃ b, w.heap.size = b := ⟨_, rfl⟩
 obtain ⟨W1, hW1⟩ : ∃ W, w.alloc (.cells #[.string ⟨#[]⟩, .string ⟨#[]⟩, .string ⟨#[]⟩, .string ⟨#[]⟩, .int .i64 0, .int .i64 0, .string ⟨#[]⟩, .slice none 0 0, .string ⟨#[]⟩] 47) = W := ⟨_, rfl⟩
 have r1 := Row.new w [.string ⟨#[]⟩, .string ⟨#[]⟩, .string ⟨#[]⟩, .string ⟨#[]⟩, .int .i64 0, .int .i64 0, .string ⟨#[]⟩, .slice none 0 0, .string ⟨#[]⟩] 47
 have b1 := below_alloc w (.cells #[.string ⟨#[]⟩, .string ⟨#[]⟩, .string ⟨#[]⟩, .string ⟨#[]⟩, .int .i64 0, .int .i64 0, .string ⟨#[]⟩, .slice none 0 0, .string ⟨#[]⟩] 47)
 rw [hW1] at b1
 rw [show w.alloc (.cells [.string ⟨#[]⟩, .string ⟨#[]⟩, .string ⟨#[]⟩, .string ⟨#[]⟩, .int .i64 0, .int .i64 0, .string ⟨#[]⟩, .slice none 0 0, .string ⟨#[]⟩].toArray 47) = W1 from hW1, hb] at r1
 have q1 := (hF.keep b1).c1
 have S1 := Lib.hid (And.intro (hF.keep b1) (And.intro (hL.keep b1) (And.intro b1 r1)))
 have T1 := Lib.hid True.intro
 have T2 := Lib.hid True.intro
 have T3 := Lib.hid True.intro
 have T4 := Lib.hid True.intro
 clear hF hL b1 r1
 go_enter Tryz.func29, Tryz.ntmps29
 go_wp2_with (first
  | (go_at_call 64; refine (usee T1 (HC.out.1 _ S1.out.2.1)).mono ?_; clear T1; rintro e w2 ⟨rfl, hb2⟩; obtain ⟨b4, hb4⟩ : ∃ b, w2.heap.size = b := ⟨_, rfl⟩; obtain ⟨W3, hW3⟩ : ∃ W, w2.alloc (.cells #[.string ⟨#[]⟩, .string ⟨#[]⟩] 45) = W := ⟨_, rfl⟩; obtain ⟨W4, hW4⟩ : ∃ W, (W3.setCell ⟨b4, 0, none⟩ (.string u1)).setCell ⟨b4, 1, none⟩ (.string y1) = W := ⟨_, rfl⟩; have S4 := Lib.hid (adr_made hW3 hb4 hW4); have p0 := S4.out.2.2.cell 0; have p1 := S4.out.2.2.cell 1; have p2 := S4.out.2.2.fz 0; have p3 := S4.out.2.2.fz 1; have q3 := ((S1.out.1.keep hb2).keep S4.out.1).c3; have H2 := Lib.hid hb2; clear hb2)
  | (go_at_call 64; refine (usee T2 (HC.out.2.1 _ ((S1.out.2.1.keep H2.out).keep S4.out.1))).mono ?_; clear T2; rintro e w5 ⟨rfl, hb5⟩; obtain ⟨b6, hb6⟩ : ∃ b, w5.heap.size = b := ⟨_, rfl⟩; obtain ⟨W6, hW6⟩ : ∃ W, w5.alloc (.cells #[.string ⟨#[]⟩, .string ⟨#[]⟩] 45) = W := ⟨_, rfl⟩; obtain ⟨W7, hW7⟩ : ∃ W, (W6.setCell ⟨b6, 0, none⟩ (.string u2)).setCell ⟨b6, 1, none⟩ (.string y2) = W := ⟨_, rfl⟩; have S7a := Lib.hid (adr_made hW6 hb6 hW7); have p4 := S7a.out.2.2.cell 0; have p5 := S7a.out.2.2.cell 1; have p6 := S7a.out.2.2.fz 0; have p7 := S7a.out.2.2.fz 1; have H5 := Lib.hid hb5; clear hb5; have S7 := Lib.hid (show FdC g fA fB fC fD fE sb W7 ∧ Row W7 b4 [.string u1, .string y1] 45 ∧ Row W7 b6 [.string u2, .string y2] 45 ∧ Row W7 b [.string ⟨#[]⟩, .string ⟨#[]⟩, .string ⟨#[]⟩, .string ⟨#[]⟩, .int .i64 0, .int .i64 0, .string ⟨#[]⟩, .slice none 0 0, .string ⟨#[]⟩] 47 ∧ Below w.heap.size w W7 from ⟨(((S1.out.1.keep H2.out).keep S4.out.1).keep H5.out).keep S7a.out.1, (S4.out.2.1.keep H5.out).keep S7a.out.1, S7a.out.2.1, (((S1.out.2.2.2.keep H2.out).keep S4.out.1).keep H5.out).keep S7a.out.1, Below.step (Below.step (Below.step (Below.step S1.out.2.2.1 H2.out) S4.out.1) H5.out) S7a.out.1⟩); have q5 := S7.out.1.c5; have q7 := S7.out.1.c7)
  | (go_at_call 65; refine (usee T3 (HC.out.2.2.1 _)).mono ?_; clear T3; rintro e w8 ⟨rfl, rfl⟩)
  | (go_at_call 65; refine (usee T4 (HC.out.2.2.2.1 _)).mono ?_; clear T4; rintro e w8 ⟨rfl, rfl⟩))
 refine AnyO.wp_anyI (by kernel_rfl) (by kernel_rfl) (AnyO.InvG (σ := Option Addr × Nat × Nat) (fun σ => AnyO.pvL [some (.agg #[.string u1, .string y1]), some (.agg #[.string u2, .string y2]), some (.int .i64 0), some (.int .i64 100), some (.slice (some ⟨g, 0, none⟩) 6 c), some (.pointer (some ⟨g, 8, none⟩)), some (.pointer (some ⟨g, 9, none⟩)), some (.string fE), some (.slice σ.1 σ.2.1 σ.2.2), some (.slice (some ⟨g, 0, none⟩) 6 c), some (.pointer (some ⟨g, 10, none⟩)), some (.pointer (some ⟨g, 11, none⟩)), some (.string sb), some (.agg #[.string u1, .string y1, .string u2, .string y2, .int .i64 0, .int .i64 100, .string sb, .slice σ.1 σ.2.1 σ.2.2, .string ⟨#[]⟩]), none, some (Value.bool true)]) (fun σ D u => RdW b hs u1 y1 u2 y2 sb W7 σ u (D 8) (D 14))) (AnyO.InvG.start (g := (none, 0, 0)) (below_drew _)) ?_ ?_
 ·intro i hi
  have hi2 : i = 0 ∨ i = 1 ∨ i = 7 ∨ i = 8 ∨ i = 12 ∨ i = 14 ∨ i = 2 ∨ i = 3 ∨ i = 4 ∨ i = 5 ∨ i = 6 ∨ i = 9 ∨ i = 10 ∨ i = 11 ∨ i = 13 ∨ i = 15 := by simp only [List.size_toArray, List.length_cons, List.length_nil] at hi; omega
  clear hi
  rcases hi2 with rfl | rfl | rfl | rfl | rfl | rfl | rfl | rfl | rfl | rfl | rfl | rfl | rfl | rfl | rfl | rfl
  ·refine AnyO.I rfl [] ?_; rintro D vs u σ Q h0 hC hp ac hb K hK
   have s4 := AnyO.sz (v := .pointer (some ⟨b4, 0, none⟩)) 4 hb
   have hf14 := AnyO.fls (hC.out 14) h0 (by kernel_rfl)
   have hst := Q.out.2
   rw [hf14] at hst
   replace hst := hst.bel
   have rr0 := (S7.out.2.1.keep hst).cell 0
   have rr1 := (S7.out.2.1.keep hst).cell 1
   clear hst hf14
   go_simp; exact hK _ _ (AnyO.InvG.step (g := σ) Q.out.1 rfl Q.out.2)
  ·refine AnyO.I rfl [] ?_; rintro D vs u σ Q h0 hC hp ac hb K hK
   have s6 := AnyO.sz (v := .pointer (some ⟨b6, 0, none⟩)) 6 hb
   have hf14 := AnyO.fls (hC.out 14) h0 (by kernel_rfl)
   have hst := Q.out.2
   rw [hf14] at hst
   replace hst := hst.bel
   have rr0 := (S7.out.2.2.1.keep hst).cell 0
   have rr1 := (S7.out.2.2.1.keep hst).cell 1
   clear hst hf14
   go_simp; exact hK _ _ (AnyO.InvG.step (g := σ) Q.out.1 rfl Q.out.2)
  ·refine AnyO.I rfl [6] ?_; rintro D vs u σ Q h0 hC hp ac hb K hK
   have s69 : _ = _ := AnyO.sv 69 6 hb hp Q
   have hf14 := AnyO.fls (hC.out 14) h0 (by kernel_rfl)
   have hst := Q.out.2
   rw [hf14] at hst
   replace hst := hst.bel
   have rr := (S7.out.1.keep hst).c9
   clear hst hf14
   go_simp; exact hK _ _ (AnyO.InvG.step (g := σ) Q.out.1 rfl Q.out.2)
  ·refine AnyO.I rfl [7] ?_; rintro D vs u σ Q h0 hC hp ac hb K hK
   have s70 : _ = _ := AnyO.sv 70 7 hb hp Q
   have hf13 := AnyO.fls (hC.out 13) h0 (by kernel_rfl)
   have hf14 := AnyO.fls (hC.out 14) hf13 (by kernel_rfl)
   have hst := Q.out.2
   rw [h0] at hst
   have HST := Lib.hid hst
   clear hst
   go_simp
   go_at_call 66
   refine (HC.out.2.2.2.2.1 _).mono ?_
   rintro e w9 ⟨A9, n9, c9, rfl, hh, hb9⟩
   refine hK _ _ (AnyO.InvG.ghost (g := σ) (A9, n9, c9) Q.out.1 ?_ rfl ?_)
   ·intro j hj hq
    rcases j with _ | _ | _ | _ | _ | _ | _ | _ | _ | _ | _ | _ | _ | _ | _ | _ | j
    all_goals first | exact hq | exact absurd (show D 8 = true from hj) (by rw [h0]; decide) | exact absurd (show D 13 = true from hj) (by rw [hf13]; decide) | exact absurd (show D 14 = true from hj) (by rw [hf14]; decide)
   rw [show AnyO.addD D 8 8 = true from rfl, show AnyO.addD D 8 14 = D 14 from rfl, hf14]
   exact ⟨Below.step HST.out hb9, hh⟩
  ·refine AnyO.I rfl [11] ?_; rintro D vs u σ Q h0 hC hp ac hb K hK
   have s74 : _ = _ := AnyO.sv 74 11 hb hp Q
   have hf14 := AnyO.fls (hC.out 14) h0 (by kernel_rfl)
   have hst := Q.out.2
   rw [hf14] at hst
   replace hst := hst.bel
   have rr := (S7.out.1.keep hst).c11
   clear hst hf14
   go_simp; exact hK _ _ (AnyO.InvG.step (g := σ) Q.out.1 rfl Q.out.2)
  ·refine AnyO.I rfl [13, 8, 0, 1, 2, 3, 4, 5, 6, 7, 8, 9, 10, 11, 12, 13] ?_; rintro D vs u σ Q h0 hC hp ac hb K hK
   have s2 := AnyO.sz (v := .pointer (some ⟨b, 0, none⟩)) 2 hb
   have s76 : _ = _ := AnyO.sv 76 13 hb hp Q
   have hp8 : D 8 = true := hp.out 8 (by decide)
   have hst := Q.out.2
   rw [hp8, h0] at hst
   have hrow := S7.out.2.2.2.1.keep hst.1
   have rr0 := hrow.cell 0; have rf0 := hrow.fz 0
   have rr1 := hrow.cell 1; have rf1 := hrow.fz 1
   have rr2 := hrow.cell 2; have rf2 := hrow.fz 2
   have rr3 := hrow.cell 3; have rf3 := hrow.fz 3
   have rr4 := hrow.cell 4; have rf4 := hrow.fz 4
   have rr5 := hrow.cell 5; have rf5 := hrow.fz 5
   have rr6 := hrow.cell 6; have rf6 := hrow.fz 6
   have rr7 := hrow.cell 7; have rf7 := hrow.fz 7
   have rr8 := hrow.cell 8; have rf8 := hrow.fz 8
   have HST := Lib.hid hst
   clear hst hrow
   go_simp
   exact hK undef _ (AnyO.InvG.step (g := σ) Q.out.1 trivial (by rw [show AnyO.addD D 14 8 = D 8 from rfl, hp8, show AnyO.addD D 14 14 = true from rfl]; exact RdW.stored HC.out.2.2.2.2.2 S7.out.2.2.2.1 HST.out))
  all_goals
   refine AnyO.J rfl ?_; rintro D vs u σ Q h0 hC hp ac hb K hK
   try have s8 : ac.tmps[8]?.getD undef = .int .i64 0 := by rw [hb.out]; kernel_rfl
   try have s10 : ac.tmps[10]?.getD undef = .int .i64 100 := by rw [hb.out]; kernel_rfl
   try have s0 : ac.tmps[0]?.getD undef = .slice (some ⟨g, 0, none⟩) 6 c := by rw [hb.out]; kernel_rfl
   try have s67 : _ = _ := AnyO.sv 67 4 hb hp Q
   try have s68 : _ = _ := AnyO.sv 68 5 hb hp Q
   try have s72 : _ = _ := AnyO.sv 72 9 hb hp Q
   try have s73 : _ = _ := AnyO.sv 73 10 hb hp Q
   try have s63 : _ = _ := AnyO.sv 63 0 hb hp Q
   try have s64 : _ = _ := AnyO.sv 64 1 hb hp Q
   try have s65 : _ = _ := AnyO.sv 65 2 hb hp Q
   try have s66 : _ = _ := AnyO.sv 66 3 hb hp Q
   try have s71 : _ = _ := AnyO.sv 71 8 hb hp Q
   try have s75 : _ = _ := AnyO.sv 75 12 hb hp Q
   go_simp
   exact hK _ _ (AnyO.InvG.step (g := σ) Q.out.1 rfl Q.out.2)
 ·intro D vs u hI hD
  obtain ⟨σ, hP, hW⟩ := hI
  have e0 : _ = _ := hP 0 (hD 0 (by decide))
  have e1 : _ = _ := hP 1 (hD 1 (by decide))
  have e2 : _ = _ := hP 2 (hD 2 (by decide))
  have e3 : _ = _ := hP 3 (hD 3 (by decide))
  have e4 : _ = _ := hP 4 (hD 4 (by decide))
  have e5 : _ = _ := hP 5 (hD 5 (by decide))
  have e6 : _ = _ := hP 6 (hD 6 (by decide))
  have e7 : _ = _ := hP 7 (hD 7 (by decide))
  have e8 : _ = _ := hP 8 (hD 8 (by decide))
  have e9 : _ = _ := hP 9 (hD 9 (by decide))
  have e10 : _ = _ := hP 10 (hD 10 (by decide))
  have e11 : _ = _ := hP 11 (hD 11 (by decide))
  have e12 : _ = _ := hP 12 (hD 12 (by decide))
  have e13 : _ = _ := hP 13 (hD 13 (by decide))
  have e15 : _ = _ := hP 15 (hD 15 (by decide))
  rw [show D 8 = true from hD 8 (by decide), show D 14 = true from hD 14 (by decide)] at hW
  have HW := Lib.hid hW
  clear hW hP hD
  rw [puts_range [some 63, some 64, some 65, some 66, some 67, some 68, some 69, some 70, some 71, some 72, some 73, some 74, some 75, some 76, none, some 3] (by kernel_rfl)]
  simp only [putL, Nat.reduceAdd, e0, e1, e2, e3, e4, e5, e6, e7, e8, e9, e10, e11, e12, e13, e15]
  clear e0 e1 e2 e3 e4 e5 e6 e7 e8 e9 e10 e11 e12 e13 e15
  go_simp
  go_wp2
  refine bodyPost_ret (results_c2 (ad := ⟨b, 0, none⟩) rfl rfl (ldMs HW.out.1) rfl) rfl ⟨σ.1, σ.2.1, σ.2.2, (by rw [HMg.out]; rfl), HW.out.2.1, ?_⟩
  rw [hb]
  exact (hb ▸ S7.out.2.2.2.2).trans HW.out.2.2
end Go.Proofs.YtibelollgdnidaaGreatDoor
