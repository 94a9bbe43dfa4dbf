/- mail: Print. -/
import Derived.Test.YtibelollgdnidaaGreatDoorMFl3
namespace Go.Proofs.YtibelollgdnidaaGreatDoor
open Go.RowKit
def flds (hs : List (List UInt8)) : List Fld :=
 [([70, 114, 111, 109], [wDg ++ 64 :: [97]]), ([84, 111], [wRe ++ 64 :: [98]]), ([78, 117, 109, 98, 101, 114], [[48]]), ([68, 97, 116, 101], [[49, 48, 48]]), ([72, 111, 112, 115], hs), ([83, 117, 98, 106, 101, 99, 116], [wBo])]
structure HpL (hs : List (List UInt8)) : Prop where
 ok : HpOk hs
 two : ∀ x ∈ hs, x.length = 2 ∧ ∀ c ∈ x, loB c = true
theorem lo_vis (c : UInt8) (h : loB c = true) : visB c = true ∧ blankB c = false := by
 have h2 : (!loB c || (visB c && !blankB c)) = true := byte_all (p := fun c => !loB c || (visB c && !blankB c)) (by decide +kernel) c
 rw [h] at h2
 simpa using h2
theorem flLen2 (l : List (List UInt8)) (h : ∀ x ∈ l, x.length = 2) : (l.flatMap (fun x => 32 :: x)).length = 3 * l.length := by
 induction l with
 | nil => rfl
 | cons a l ih =>
  rw [List.flatMap_cons, List.length_append, ih (fun x hx => h x (List.mem_cons_of_mem _ hx)), List.length_cons, List.length_cons, h a List.mem_cons_self]
  omega
theorem HpL.fl {hs : List (List UInt8)} (h : HpL hs) : FlOk [72, 111, 112, 115] hs where
 n0 := by decide
 n40 := by decide
 nl := by decide +kernel
 wg x hx := by
  obtain ⟨h1, h2⟩ := h.two x hx
  exact ⟨fun e => (by rw [e] at h1; cases h1), fun c hc => (lo_vis c (h2 c hc)).2⟩
 wp x hx c hc := (lo_vis c ((h.two x hx).2 c hc)).1
 len := by
  have h16 := h.ok.len
  have h2 := fun x hx => (h.two x hx).1
  have h3 := flLen2 hs h2
  simp only [List.length_append, List.length_cons, List.length_nil] at *
  omega
theorem flOne {nm x : List UInt8} (h : (decide (nm ≠ []) && decide (nm.length ≤ 40) && nm.all ltB && decide (x ≠ []) && x.all visB && decide (nm.length + 1 + (x.length + 1) ≤ 78)) = true) : FlOk nm [x] := by
 simp only [Bool.and_eq_true, decide_eq_true_eq, List.all_eq_true] at h
 obtain ⟨⟨⟨⟨⟨h1, h2⟩, h3⟩, h4⟩, h5⟩, h6⟩ := h
 have hv : ∀ c, visB c = true → blankB c = false := fun c hc => by
  have h2 : (!visB c || !blankB c) = true := byte_all (p := fun c => !visB c || !blankB c) (by decide +kernel) c
  rw [hc] at h2
  simpa using h2
 refine ⟨h1, h2, h3, ?_, ?_, ?_⟩
 ·intro y hy
  obtain rfl := List.mem_singleton.1 hy
  exact ⟨h4, fun c hc => hv c (h5 c hc)⟩
 ·intro y hy
  obtain rfl := List.mem_singleton.1 hy
  exact h5
 ·simp only [List.flatMap_cons, List.flatMap_nil, List.append_nil, List.length_append, List.length_cons]
  omega
theorem fldsOk {hs : List (List UInt8)} (h : HpL hs) : ∀ f ∈ flds hs, FlOk f.1 f.2 := by
 intro f hf
 simp only [flds, List.mem_cons, List.not_mem_nil, or_false] at hf
 rcases hf with rfl | rfl | rfl | rfl | rfl | rfl
 ·exact flOne (by decide +kernel)
 ·exact flOne (by decide +kernel)
 ·exact flOne (by decide +kernel)
 ·exact flOne (by decide +kernel)
 ·exact h.fl
 ·exact flOne (by decide +kernel)
def msT (hs : List (List UInt8)) (B : List UInt8) : List UInt8 := hdT (flds hs) ++ 10 :: B
def PW (w1 : World) (fs : List Fld) (σ : Nat) (u : World) (d : Bool) : Prop := Below w1.heap.size w1 u ∧ (d = true → Sl u cFl (some ⟨σ, 0, none⟩) fs)
theorem PW.keep {w1 u u' : World} {fs : List Fld} {σ : Nat} {d : Bool} (h : PW w1 fs σ u d) (hb : Below u.heap.size u u') : PW w1 fs σ u' d := ⟨Below.step h.1 hb, fun e => (h.2 e).keep hb⟩
set_option maxRecDepth 100000 in
set_option maxHeartbeats 1600000 in
theorem print9 (A : Option Addr) (n c : Nat) (T : List UInt8) (hs : List (List UInt8)) (w0 w : World) (hL : Ldz w0 w) (h : HpS w (.slice A n c) hs) (ho : HpL hs) (hB : T.length ≤ 32768) : Calls Tryz.prog 9 #[.agg (aMs A n c (tx T))] w fun e w' => e = .returned (.tuple #[.string (tx (msT hs T)), .int .i64 0]) ∧ Below w.heap.size w w' := by
 obtain ⟨u1, h1⟩ : ∃ x : ByteArray, (⟨#[100, 105, 103, 101, 115, 116]⟩ : ByteArray) = x := ⟨_, rfl⟩
 obtain ⟨s1, h2⟩ : ∃ x : ByteArray, (⟨#[97]⟩ : ByteArray) = x := ⟨_, rfl⟩
 obtain ⟨u2, h3⟩ : ∃ x : ByteArray, (⟨#[114, 101, 97, 100, 101, 114]⟩ : ByteArray) = x := ⟨_, rfl⟩
 obtain ⟨s2, h4⟩ : ∃ x : ByteArray, (⟨#[98]⟩ : ByteArray) = x := ⟨_, rfl⟩
 obtain ⟨sb, h5⟩ : ∃ x : ByteArray, (⟨#[66, 111, 97, 116, 115]⟩ : ByteArray) = x := ⟨_, rfl⟩
 obtain ⟨B, hBB⟩ : ∃ x : ByteArray, tx T = x := ⟨_, rfl⟩
 obtain ⟨fs, hfs⟩ : ∃ x, flds hs = x := ⟨_, rfl⟩
 obtain ⟨HD, hHD⟩ : ∃ x, tx (hdT (flds hs)) = x := ⟨_, rfl⟩
 obtain ⟨fA, hfA⟩ : ∃ x, tx (wDg ++ 64 :: [97]) = x := ⟨_, rfl⟩
 obtain ⟨fB, hfB⟩ : ∃ x, tx (wRe ++ 64 :: [98]) = x := ⟨_, rfl⟩
 obtain ⟨fC, hfC⟩ : ∃ x, tx [48] = x := ⟨_, rfl⟩
 obtain ⟨fD, hfD⟩ : ∃ x, tx [49, 48, 48] = x := ⟨_, rfl⟩
 obtain ⟨fE, hfE⟩ : ∃ x, tx (bdL hs) = x := ⟨_, rfl⟩
 obtain ⟨F, hF⟩ : ∃ x, tx (msT hs T) = x := ⟨_, rfl⟩
 have hcB : B.size ≤ 32768 := by rw [← hBB, tx_size]; exact hB
 have hHl := hdT_len (flds hs) (fldsOk ho)
 have hzH : HD.size ≤ 474 := by
  rw [← hHD, tx_size]
  exact hHl
 have hzB : B.size ≤ 32768 := hcB
 have g1 : ¬ 9223372036854775807 < HD.size + 1 := by omega
 have g2 : ¬ 9223372036854775807 < HD.size + 1 + B.size := by omega
 have he : HD ++ (⟨#[10]⟩ : ByteArray) ++ B = F := by
  rw [← hHD, ← hBB, ← hF, show (⟨#[10]⟩ : ByteArray) = tx [10] from rfl, tx_app, tx_app, msT, List.append_assoc]
  rfl
 have hs24a := fun u : World => string24 wDg [97] (by decide) u
 have hs24b := fun u : World => string24 wRe [98] (by decide) u
 rw [show tx wDg = u1 from h1, show tx [97] = s1 from h2, hfA] at hs24a
 rw [show tx wRe = u2 from h3, show tx [98] = s2 from h4, hfB] at hs24b
 have hdg0 : ∀ u : World, Ldz w0 u → Calls Tryz.prog 25 #[.int .i64 0] u fun e w' => e = .returned (.string fC) ∧ Below u.heap.size u w' := fun u hu => by
  have := digits28 0 (by decide) (by decide) u hu.pow
  rw [show (⟨(Lib.itoa 0).toArray⟩ : ByteArray) = tx [48] from by decide +kernel, hfC] at this
  exact this
 have hdg1 : ∀ u : World, Ldz w0 u → Calls Tryz.prog 25 #[.int .i64 100] u fun e w' => e = .returned (.string fD) ∧ Below u.heap.size u w' := fun u hu => by
  have := digits28 100 (by decide) (by decide) u hu.pow
  rw [show (⟨(Lib.itoa 100).toArray⟩ : ByteArray) = tx [49, 48, 48] from by decide +kernel, hfD] at this
  exact this
 have hjn : ∀ u : World, HpS u (.slice A n c) hs → Calls Tryz.prog 26 #[.slice A n c, .string ⟨#[32]⟩] u fun e w' => e = .returned (.string fE) ∧ Below u.heap.size u w' := by
  intro u hu
  rcases hu with ⟨e1, A', c', e⟩ | ⟨h0, g, c', e, k1, k2, k3⟩
  ·injection e with e1' e2' e3'
   subst e1' e2' e3'
   refine (Tryz.strings_Join_none A c ⟨#[32]⟩ u).mono ?_
   rintro e w' ⟨rfl, rfl⟩
   refine ⟨?_, Below.refl _ _⟩
   rw [← hfE, e1]
   rfl
  ·injection e with e1' e2' e3'
   subst e1' e2' e3'
   have h78 := bd_len ho.fl
   have hj := Tryz.strings_Join g 0 c (hs.map tx) ⟨#[32]⟩ u (fun j x hx => by
    rw [List.getElem?_map] at hx
    cases hq : hs[j]? with
    | none => rw [hq] at hx; cases hx
    | some y =>
     rw [hq] at hx
     injection hx with hx
     rw [← hx]
     exact k3 j y hq) k2 (by have := ho.ok.len; rw [List.length_map]; omega) (by rw [List.length_map]; exact k1) (by
    rw [List.map_map, show (hs.map ((fun x : ByteArray => x.data.toList) ∘ tx)) = hs from by
     rw [show ((fun x : ByteArray => x.data.toList) ∘ tx) = id from rfl, List.map_id]]
    exact Nat.le_trans h78 (by decide))
   rw [List.map_map, show (hs.map ((fun x : ByteArray => x.data.toList) ∘ tx)) = hs from by
     rw [show ((fun x : ByteArray => x.data.toList) ∘ tx) = id from rfl, List.map_id], List.length_map] at hj
   refine hj.mono ?_
   rintro e w' ⟨rfl, hb⟩
   refine ⟨?_, hb⟩
   rw [← hfE]
   rfl
 have hps : ∀ (g : Nat) (u : World), Sl u cFl (some ⟨g, 0, none⟩) fs → Calls Tryz.prog 23 #[.slice (some ⟨g, 0, none⟩) 6 6] u fun e w' => e = .returned (.tuple #[.string HD, .int .i64 0]) ∧ Below u.heap.size u w' := by
  intro g u hu
  have := print23 g 6 (flds hs) u (hfs ▸ hu) (fldsOk ho) (Nat.le_refl 6) (Nat.le_refl 6)
  rw [hHD] at this
  exact this
 have hsl : ∀ u : World, Sl (u.alloc (.cells #[.string ⟨#[70, 114, 111, 109]⟩, .string fA, .string ⟨#[84, 111]⟩, .string fB, .string ⟨#[78, 117, 109, 98, 101, 114]⟩, .string fC, .string ⟨#[68, 97, 116, 101]⟩, .string fD, .string ⟨#[72, 111, 112, 115]⟩, .string fE, .string ⟨#[83, 117, 98, 106, 101, 99, 116]⟩, .string sb] 67)) cFl (some ⟨u.heap.size, 0, none⟩) fs := by
  intro u
  intro _
  refine ⟨_, rfl, ?_⟩
  rw [← hfs, ← hfA, ← hfB, ← hfC, ← hfD, ← hfE, ← h5]
  exact at_new u ((flds hs).flatMap cFl) 67 u.heap.size rfl
 have HMg := Lib.hid (show Value.agg (aMs A n c B) = .agg #[.string u1, .string s1, .string u2, .string s2, .int .i64 0, .int .i64 100, .string sb, .slice A n c, .string B] by unfold aMs; rw [h1, h2, h3, h4, h5])
 have HPr := Lib.hid hps
 have HS := Lib.hid hsl
 have HF := Lib.hid (And.intro hF he)
 have HO := Lib.hid (And.intro ho.ok hzB)
 have HK := Lib.hid (And.intro hs24a (And.intro hs24b (And.intro hdg0 (And.intro hdg1 hjn))))
 rw [hF, hBB, HMg.out]
 clear h1 h2 h3 h4 h5 hs24a hs24b hdg0 hdg1 hjn hps hsl hF hHD hfA hfB hfC hfD hfE hHl hB ho hfs hBB
 obtain ⟨W1, hW1⟩ : ∃ W, w.alloc (.cells #[.string u1, .string s1, .string u2, .string s2, .int .i64 0, .int .i64 100, .string sb, .slice A n c, .string B] 47) = W := ⟨_, rfl⟩
 have r1 := Row.new w [.string u1, .string s1, .string u2, .string s2, .int .i64 0, .int .i64 100, .string sb, .slice A n c, .string B] 47
 have b1 := below_alloc w (.cells #[.string u1, .string s1, .string u2, .string s2, .int .i64 0, .int .i64 100, .string sb, .slice A n c, .string B] 47)
 have z1 : W1.heap.size = w.heap.size + 1 := by rw [← hW1, World.size_alloc]
 rw [show w.alloc (.cells #[.string u1, .string s1, .string u2, .string s2, .int .i64 0, .int .i64 100, .string sb, .slice A n c, .string B] 47) = W1 from hW1] at b1
 rw [show w.alloc (.cells [.string u1, .string s1, .string u2, .string s2, .int .i64 0, .int .i64 100, .string sb, .slice A n c, .string B].toArray 47) = W1 from hW1] at r1
 have Q := Lib.hid (And.intro (h.keep b1) (And.intro r1 (And.intro b1 (hL.keep b1))))
 clear b1 h hL
 have c0 := r1.cell 0
 have c1 := r1.cell 1
 have c2 := r1.cell 2
 have c3 := r1.cell 3
 have c4 := r1.cell 4
 have c5 := r1.cell 5
 have c6 := r1.cell 6
 have c7 := r1.cell 7
 have c8 := r1.cell 8
 clear r1
 go_enter Tryz.func9, Tryz.ntmps9
 go_wp2_with (go_at_call 22; rw [← HMg.out]; refine (check22 A n c B hs _ Q.out.1 HO.out.1 HO.out.2).mono ?_; rintro e w1 ⟨rfl, hb1⟩; have S1 := Lib.hid (And.intro (Q.out.2.1.keep hb1) (And.intro (Q.out.1.keep hb1) (And.intro (Below.step Q.out.2.2.1 hb1) (Q.out.2.2.2.keep hb1)))); clear hb1 c0 c1 c2 c3 c4 c5 c6 c7 c8)
 have HC := Lib.hid (And.intro HK.out.1 (And.intro HK.out.2.1 (And.intro (fun u (hb : Below w1.heap.size w1 u) => HK.out.2.2.1 u (S1.out.2.2.2.keep hb)) (And.intro (fun u (hb : Below w1.heap.size w1 u) => HK.out.2.2.2.1 u (S1.out.2.2.2.keep hb)) (fun u (hb : Below w1.heap.size w1 u) => HK.out.2.2.2.2 u (S1.out.2.1.keep hb))))))
 clear HK
 refine AnyO.wp_anyI (by kernel_rfl) (by kernel_rfl) (AnyO.InvG (σ := Nat) (fun σ => AnyO.pvL [some (.pointer (some ⟨w.heap.size, 0, none⟩)), some (.agg #[.string u1, .string s1]), some (.string fA), some (.agg #[.string ⟨#[70, 114, 111, 109]⟩, .string fA]), some (.pointer (some ⟨w.heap.size, 2, none⟩)), some (.agg #[.string u2, .string s2]), some (.string fB), some (.agg #[.string ⟨#[84, 111]⟩, .string fB]), some (.pointer (some ⟨w.heap.size, 4, none⟩)), some (.int .i64 0), some (.string fC), some (.agg #[.string ⟨#[78, 117, 109, 98, 101, 114]⟩, .string fC]), some (.pointer (some ⟨w.heap.size, 5, none⟩)), some (.int .i64 100), some (.string fD), some (.agg #[.string ⟨#[68, 97, 116, 101]⟩, .string fD]), some (.pointer (some ⟨w.heap.size, 7, none⟩)), some (.slice A n c), some (.string fE), some (.agg #[.string ⟨#[72, 111, 112, 115]⟩, .string fE]), some (.pointer (some ⟨w.heap.size, 6, none⟩)), some (.string sb), some (.agg #[.string ⟨#[83, 117, 98, 106, 101, 99, 116]⟩, .string sb]), some (.slice (some ⟨σ, 0, none⟩) 6 6), some (.tuple #[.string HD, .int .i64 0]), some (.tuple #[.string HD, .int .i64 0]), some (.string HD), some (.int .i64 0), some (.string HD), some (.int .i64 0)]) (fun σ D u => PW w1 fs σ u (D 23))) (AnyO.InvG.start (g := 0) (⟨below_drew w1, fun e => by cases e⟩)) ?_ ?_
 ·intro i hi
  have hi2 : i = 1 ∨ i = 2 ∨ i = 5 ∨ i = 6 ∨ i = 10 ∨ i = 14 ∨ i = 18 ∨ i = 23 ∨ i = 24 ∨ i = 0 ∨ i = 3 ∨ i = 4 ∨ i = 7 ∨ i = 8 ∨ i = 9 ∨ i = 11 ∨ i = 12 ∨ i = 13 ∨ i = 15 ∨ i = 16 ∨ i = 17 ∨ i = 19 ∨ i = 20 ∨ i = 21 ∨ i = 22 ∨ i = 25 ∨ i = 26 ∨ i = 27 ∨ i = 28 ∨ i = 29 := by simp only [List.size_toArray, List.length_cons, List.length_nil] at hi; omega
  clear hi
  rcases hi2 with rfl | rfl | rfl | rfl | rfl | rfl | rfl | rfl | rfl | rfl | rfl | rfl | rfl | rfl | rfl | rfl | rfl | rfl | rfl | rfl | rfl | rfl | rfl | rfl | rfl | rfl | rfl | rfl | rfl | rfl
  ·refine AnyO.I rfl [0] ?_; rintro D vs u σ Q h0 hC hp ac hb K hK
   have s13 : _ = _ := AnyO.sv 13 0 hb hp Q
   have rr0 : u.cell? ⟨w.heap.size, 0, none⟩ = some (.string u1) := (S1.out.1.keep Q.out.2.1).cell 0
   have rr1 : u.cell? ⟨w.heap.size, 1, none⟩ = some (.string s1) := (S1.out.1.keep Q.out.2.1).cell 1
   go_simp; exact hK _ _ (AnyO.InvG.step (g := σ) Q.out.1 rfl Q.out.2)
  ·refine AnyO.I rfl [1] ?_; rintro D vs u σ Q h0 hC hp ac hb K hK
   have s14 : _ = _ := AnyO.sv 14 1 hb hp Q
   go_simp
   go_at_call 24
   refine (HC.out.1 u).mono ?_
   rintro e w9 ⟨rfl, hb9⟩
   exact hK _ _ (AnyO.InvG.step (g := σ) Q.out.1 rfl (Q.out.2.keep hb9))
  ·refine AnyO.I rfl [4] ?_; rintro D vs u σ Q h0 hC hp ac hb K hK
   have s17 : _ = _ := AnyO.sv 17 4 hb hp Q
   have rr2 : u.cell? ⟨w.heap.size, 2, none⟩ = some (.string u2) := (S1.out.1.keep Q.out.2.1).cell 2
   have rr3 : u.cell? ⟨w.heap.size, 3, none⟩ = some (.string s2) := (S1.out.1.keep Q.out.2.1).cell 3
   go_simp; exact hK _ _ (AnyO.InvG.step (g := σ) Q.out.1 rfl Q.out.2)
  ·refine AnyO.I rfl [5, 2] ?_; rintro D vs u σ Q h0 hC hp ac hb K hK
   have s18 : _ = _ := AnyO.sv 18 5 hb hp Q
   go_simp
   go_at_call 24
   refine (HC.out.2.1 u).mono ?_
   rintro e w9 ⟨rfl, hb9⟩
   exact hK _ _ (AnyO.InvG.step (g := σ) Q.out.1 rfl (Q.out.2.keep hb9))
  ·refine AnyO.I rfl [9, 6] ?_; rintro D vs u σ Q h0 hC hp ac hb K hK
   have s22 : _ = _ := AnyO.sv 22 9 hb hp Q
   go_simp
   go_at_call 25
   refine (HC.out.2.2.1 u Q.out.2.1).mono ?_
   rintro e w9 ⟨rfl, hb9⟩
   exact hK _ _ (AnyO.InvG.step (g := σ) Q.out.1 rfl (Q.out.2.keep hb9))
  ·refine AnyO.I rfl [13, 10] ?_; rintro D vs u σ Q h0 hC hp ac hb K hK
   have s26 : _ = _ := AnyO.sv 26 13 hb hp Q
   go_simp
   go_at_call 25
   refine (HC.out.2.2.2.1 u Q.out.2.1).mono ?_
   rintro e w9 ⟨rfl, hb9⟩
   exact hK _ _ (AnyO.InvG.step (g := σ) Q.out.1 rfl (Q.out.2.keep hb9))
  ·refine AnyO.I rfl [17, 14] ?_; rintro D vs u σ Q h0 hC hp ac hb K hK
   have s30 : _ = _ := AnyO.sv 30 17 hb hp Q
   go_simp
   go_at_call 26
   refine (HC.out.2.2.2.2 u Q.out.2.1).mono ?_
   rintro e w9 ⟨rfl, hb9⟩
   exact hK _ _ (AnyO.InvG.step (g := σ) Q.out.1 rfl (Q.out.2.keep hb9))
  ·refine AnyO.I rfl [3, 7, 11, 15, 19, 22] ?_; rintro D vs u σ Q h0 hC hp ac hb K hK
   have s16 : _ = _ := AnyO.sv 16 3 hb hp Q
   have s20 : _ = _ := AnyO.sv 20 7 hb hp Q
   have s24 : _ = _ := AnyO.sv 24 11 hb hp Q
   have s28 : _ = _ := AnyO.sv 28 15 hb hp Q
   have s32 : _ = _ := AnyO.sv 32 19 hb hp Q
   have s35 : _ = _ := AnyO.sv 35 22 hb hp Q
   have hf24 := AnyO.fls (hC.out 24) h0 (by kernel_rfl)
   have hf25 := AnyO.fls (hC.out 25) hf24 (by kernel_rfl)
   have hf26 := AnyO.fls (hC.out 26) hf25 (by kernel_rfl)
   have hf27 := AnyO.fls (hC.out 27) hf25 (by kernel_rfl)
   have hf28 := AnyO.fls (hC.out 28) hf26 (by kernel_rfl)
   have hf29 := AnyO.fls (hC.out 29) hf27 (by kernel_rfl)
   go_simp
   refine hK _ _ (AnyO.InvG.ghost (g := σ) u.heap.size Q.out.1 ?_ rfl ?_)
   ·intro j hj hq
    rcases j with _ | _ | _ | _ | _ | _ | _ | _ | _ | _ | _ | _ | _ | _ | _ | _ | _ | _ | _ | _ | _ | _ | _ | _ | _ | _ | _ | _ | _ | _ | j
    all_goals first | exact hq | exact absurd (show D 23 = true from hj) (by rw [h0]; decide) | exact absurd (show D 24 = true from hj) (by rw [hf24]; decide) | exact absurd (show D 25 = true from hj) (by rw [hf25]; decide) | exact absurd (show D 26 = true from hj) (by rw [hf26]; decide) | exact absurd (show D 27 = true from hj) (by rw [hf27]; decide) | exact absurd (show D 28 = true from hj) (by rw [hf28]; decide) | exact absurd (show D 29 = true from hj) (by rw [hf29]; decide)
   exact ⟨Q.out.2.1.trans ((below_alloc _ _).mono Q.out.2.1.size), fun _ => HS.out u⟩
  ·refine AnyO.I rfl [23, 18] ?_; rintro D vs u σ Q h0 hC hp ac hb K hK
   have s36 : _ = _ := AnyO.sv 36 23 hb hp Q
   have hp23 : D 23 = true := hp.out 23 (by decide)
   have hst := Q.out.2.2 hp23
   go_simp
   go_at_call 23
   refine (HPr.out σ u hst).mono ?_
   rintro e w9 ⟨rfl, hb9⟩
   exact hK _ _ (AnyO.InvG.step (g := σ) Q.out.1 rfl (Q.out.2.keep hb9))
  all_goals
   refine AnyO.J rfl ?_; rintro D vs u σ Q h0 hC hp ac hb K hK
   try have s1 : ac.tmps[1]?.getD undef = .pointer (some ⟨w.heap.size, 0, none⟩) := by rw [hb.out]; kernel_rfl
   try have s15 : _ = _ := AnyO.sv 15 2 hb hp Q
   try have s19 : _ = _ := AnyO.sv 19 6 hb hp Q
   try have s21 : _ = _ := AnyO.sv 21 8 hb hp Q
   try have s23 : _ = _ := AnyO.sv 23 10 hb hp Q
   try have s25 : _ = _ := AnyO.sv 25 12 hb hp Q
   try have s27 : _ = _ := AnyO.sv 27 14 hb hp Q
   try have s29 : _ = _ := AnyO.sv 29 16 hb hp Q
   try have s31 : _ = _ := AnyO.sv 31 18 hb hp Q
   try have s33 : _ = _ := AnyO.sv 33 20 hb hp Q
   try have s34 : _ = _ := AnyO.sv 34 21 hb hp Q
   try have s37 : _ = _ := AnyO.sv 37 24 hb hp Q
   try have s12 : _ = _ := AnyO.sv 12 25 hb hp Q
   try have s38 : _ = _ := AnyO.sv 38 26 hb hp Q
   try have s39 : _ = _ := AnyO.sv 39 27 hb hp Q
   have rr4_0 : u.cell? ⟨w.heap.size, 4, none⟩ = some (.int .i64 0) := (S1.out.1.keep Q.out.2.1).cell 4
   have rr5_1 : u.cell? ⟨w.heap.size, 5, none⟩ = some (.int .i64 100) := (S1.out.1.keep Q.out.2.1).cell 5
   have rr7_2 : u.cell? ⟨w.heap.size, 7, none⟩ = some (.slice A n c) := (S1.out.1.keep Q.out.2.1).cell 7
   have rr6_3 : u.cell? ⟨w.heap.size, 6, none⟩ = some (.string sb) := (S1.out.1.keep Q.out.2.1).cell 6
   go_simp
   exact hK _ _ (AnyO.InvG.step (g := σ) Q.out.1 rfl Q.out.2)
 ·intro D vs u hI hD
  obtain ⟨σ, hP, hW⟩ := hI
  have e0 : _ = _ := hP 0 (hD 0 (by decide))
  have e1 : _ = _ := hP 1 (hD 1 (by decide))
  have e2 : _ = _ := hP 2 (hD 2 (by decide))
  have e3 : _ = _ := hP 3 (hD 3 (by decide))
  have e4 : _ = _ := hP 4 (hD 4 (by decide))
  have e5 : _ = _ := hP 5 (hD 5 (by decide))
  have e6 : _ = _ := hP 6 (hD 6 (by decide))
  have e7 : _ = _ := hP 7 (hD 7 (by decide))
  have e8 : _ = _ := hP 8 (hD 8 (by decide))
  have e9 : _ = _ := hP 9 (hD 9 (by decide))
  have e10 : _ = _ := hP 10 (hD 10 (by decide))
  have e11 : _ = _ := hP 11 (hD 11 (by decide))
  have e12 : _ = _ := hP 12 (hD 12 (by decide))
  have e13 : _ = _ := hP 13 (hD 13 (by decide))
  have e14 : _ = _ := hP 14 (hD 14 (by decide))
  have e15 : _ = _ := hP 15 (hD 15 (by decide))
  have e16 : _ = _ := hP 16 (hD 16 (by decide))
  have e17 : _ = _ := hP 17 (hD 17 (by decide))
  have e18 : _ = _ := hP 18 (hD 18 (by decide))
  have e19 : _ = _ := hP 19 (hD 19 (by decide))
  have e20 : _ = _ := hP 20 (hD 20 (by decide))
  have e21 : _ = _ := hP 21 (hD 21 (by decide))
  have e22 : _ = _ := hP 22 (hD 22 (by decide))
  have e23 : _ = _ := hP 23 (hD 23 (by decide))
  have e24 : _ = _ := hP 24 (hD 24 (by decide))
  have e25 : _ = _ := hP 25 (hD 25 (by decide))
  have e26 : _ = _ := hP 26 (hD 26 (by decide))
  have e27 : _ = _ := hP 27 (hD 27 (by decide))
  have e28 : _ = _ := hP 28 (hD 28 (by decide))
  have e29 : _ = _ := hP 29 (hD 29 (by decide))
  have HW := Lib.hid hW
  clear hW hP hD
  rw [puts_range [some 13, some 14, some 15, some 16, some 17, some 18, some 19, some 20, some 21, some 22, some 23, some 24, some 25, some 26, some 27, some 28, some 29, some 30, some 31, some 32, some 33, some 34, some 35, some 36, some 37, some 12, some 38, some 39, some 5, some 6] (by kernel_rfl)]
  simp only [putL, Nat.reduceAdd, e0, e1, e2, e3, e4, e5, e6, e7, e8, e9, e10, e11, e12, e13, e14, e15, e16, e17, e18, e19, e20, e21, e22, e23, e24, e25, e26, e27, e28, e29]
  clear e0 e1 e2 e3 e4 e5 e6 e7 e8 e9 e10 e11 e12 e13 e14 e15 e16 e17 e18 e19 e20 e21 e22 e23 e24 e25 e26 e27 e28 e29
  have c8 := (S1.out.1.keep HW.out.1).cell 8
  go_simp
  go_wp2
  go_ret2
  exact ⟨rfl, S1.out.2.2.1.trans (HW.out.1.mono S1.out.2.2.1.size)⟩
end Go.Proofs.YtibelollgdnidaaGreatDoor
