/- digest: what the writer hands its parts to: a builder, or a count. -/
import Derived.Test.YtibelollgdnidaaGreatDoorMSpq
import Derived.Test.YtibelollgdnidaaGreatDoorMBst
namespace Go.Proofs.YtibelollgdnidaaGreatDoor
open Go.RowKit
structure Oth (F : List Nat) (w w' : World) : Prop where
 os : w'.os = w.os
 tape : w'.tape = w.tape
 output : w'.output = w.output
 size : w.heap.size ≤ w'.heap.size
 same : ∀ k o, w.heap[k]? = some o → o.isCells = true → k ∉ F → w'.heap[k]? = some o
structure Frm (B : Nat) (F : List Nat) (w w' : World) : Prop where
 bel : Below B w w'
 keep : ∀ k ∈ F, w'.heap[k]? = w.heap[k]?
 oth : KeepsOthers w w'
section
variable {B : Nat} {F G : List Nat} {w w' w'' : World}
theorem Oth.of_below (h : Below w.heap.size w w') : Oth F w w' := ⟨h.os, h.tape, h.output, h.size, fun k o hk _ _ => (h.block k (Array.getElem?_eq_some_iff.1 hk).1).trans hk⟩
theorem Oth.set (g k : Nat) (v : Value) (hg : g ∈ F) : Oth F w (w.setCell ⟨g, k, none⟩ v) := ⟨rfl, rfl, rfl, by simp [World.setCell], fun j o hj _ hn => (heap_set_other w g k v j (fun e => hn (e ▸ hg))).trans hj⟩
theorem Oth.put (k : Nat) (o o' : Obj) (h : w.heap[k]? = some o) (hc : o.isCells = false) : Oth F w (w.putObj k o') :=
 ⟨rfl, rfl, rfl, by simp [World.putObj], fun j p hj hp _ => (World.putObj_heap_other (fun e => by rw [e, h] at hj; injection hj with hj; rw [hj] at hc; rw [hc] at hp; cases hp)).trans hj⟩
theorem Frm.refl : Frm B F w w := ⟨Below.refl _ _, fun _ _ => rfl, KeepsOthers.refl _⟩
theorem Frm.trans (h : Frm B F w w') (k : Frm B F w' w'') : Frm B F w w'' :=
 ⟨⟨k.bel.os.trans h.bel.os, k.bel.tape.trans h.bel.tape, k.bel.output.trans h.bel.output, Nat.le_trans h.bel.size k.bel.size, fun j hj => (k.bel.block j hj).trans (h.bel.block j hj)⟩, fun j hj => (k.keep j hj).trans (h.keep j hj), h.oth.trans k.oth⟩
end
structure AccS (f b B : Nat) (A : List UInt8 → List Nat → World → Prop) : Prop where
 ent : ∀ (args : Array Value) (W : World), Sem.run Tryz.prog (callFunc f args) W = .ok (.enter f args) W
 le : ∀ {l F w}, A l F w → B ≤ w.heap.size
 call : ∀ {l F w}, A l F w → ∀ (ad : Addr) (ps : List (List UInt8)), Sl w cS (some ad) (ps.map tx) → ad.block ∈ F → ps.length ≤ 20 → l.length + ps.flatten.length ≤ 2000000 →
  Calls Tryz.prog f #[.slice (some ad) ps.length ps.length, .pointer (some ⟨b, 0, none⟩)] w fun e w' => e = .returned (.tuple #[]) ∧ A (l ++ ps.flatten) F w' ∧ Frm B F w w'
 turn : ∀ {l F w w'}, A l F w → Oth F w w' → A l F w'
 moreL : ∀ {l F w w'} (G : List Nat), A l F w → Below w.heap.size w w' → (∀ k ∈ G, w.heap.size ≤ k ∧ k < w'.heap.size) → A l (G ++ F) w'
theorem AccS.more {f b B : Nat} {A : List UInt8 → List Nat → World → Prop} (hA : AccS f b B A) {l : List UInt8} {F : List Nat} {w w' : World} (k : Nat) (h : A l F w) (hb : Below w.heap.size w w') (h1 : w.heap.size ≤ k) (h2 : k < w'.heap.size) : A l (k :: F) w' := hA.moreL [k] h hb (fun j hj => by rw [List.mem_singleton.1 hj]; exact ⟨h1, h2⟩)
/-! the builder -/
section
variable {B b : Nat} {l : List UInt8} {F : List Nat} {w w' : World}
theorem BdR.ownc {q : Option Addr} {v : Value} (h : BdR B b l q v w) {k : Nat} (hk : v.ownBlock = some k) : ∃ cur, w.heap[k]? = some (.cells cur 5 (0, 0)) := by
 rcases h.own.2 with ⟨rfl, _⟩ | ⟨g', cap, cur, a1, a2, a3, r⟩
 ·cases hk
 ·rw [a1] at hk
  obtain rfl : g' = k := by simpa [Value.ownBlock] using hk
  exact ⟨cur, a3⟩
theorem Bd.strX (h : Bd B b l F w) (s : ByteArray) (hs : l.length + s.size ≤ 1000000000) : Calls Tryz.prog 51 #[.pointer (some ⟨b, 0, none⟩), .string s] w fun e w' => e = .returned (.tuple #[.int .i64 (s.size : Int), .nilIface]) ∧ Bd B b (l ++ bl s) F w' ∧ Frm B F w w' := by
 obtain ⟨q, v, h1, h2, h3, h4⟩ := h
 refine (h1.str s hs h4).mono ?_
 rintro e w' ⟨rfl, v', h5, h6⟩
 have h7 := Bd.turn h1 h2 h3 h4 h5 h6
 refine ⟨rfl, h7.1, h7.2.1, h7.2.2, ⟨h6.size, fun k o hk ho => (h6.out k (Array.getElem?_eq_some_iff.1 hk).1 (fun e => ?_) (fun e => ?_)).trans hk⟩⟩
 ·rw [e, show w.heap[b]? = _ from h1.row] at hk
  injection hk with hk
  rw [← hk] at ho
  cases ho
 ·obtain ⟨cur, hc⟩ := h1.ownc e.symm
  rw [hc] at hk
  injection hk with hk
  rw [← hk] at ho
  cases ho
theorem Bd.othT (h : Bd B b l F w) (ho : Oth F w w') : Bd B b l F w' := by
 obtain ⟨q, v, h1, h2, h3, h4⟩ := h
 have hb : b ∉ F := fun hm => (h3 b hm).2 rfl
 refine ⟨q, v, ⟨?_, ?_, h1.ne, h1.q, h1.le⟩, h2, fun k hk => ⟨Nat.lt_of_lt_of_le (h3 k hk).1 ho.size, (h3 k hk).2⟩, Nat.le_trans h4 ho.size⟩
 ·exact ho.same b _ h1.row rfl hb
 ·refine ⟨h1.own.1, h1.own.2.imp id fun ⟨g', cap, cur, a1, a2, a3, r⟩ => ⟨g', cap, cur, a1, a2, ?_, r⟩⟩
  exact ho.same g' _ a3 rfl (h2 g' (by rw [a1]; rfl))
end
theorem flat_take {ps : List (List UInt8)} {k : Nat} (h : k < ps.length) : (ps.take (k + 1)).flatten = (ps.take k).flatten ++ ps[k] := by
 rw [List.take_succ_eq_append_getElem h, List.flatten_append]
 simp
theorem flat_le (ps : List (List UInt8)) (k : Nat) : (ps.take k).flatten.length ≤ ps.flatten.length := by
 conv => rhs; rw [← List.take_append_drop k ps, List.flatten_append, List.length_append]
 omega
theorem cell_same {w w' : World} {a : Addr} (h : w'.heap[a.block]? = w.heap[a.block]?) : w'.cell? a = w.cell? a := by
 unfold World.cell?
 rw [h]
theorem Sl.same {α : Type} {w w' : World} {enc : α → List Value} {ad : Addr} {xs : List α} (h : Sl w enc (some ad) xs) (hb : w'.heap[ad.block]? = w.heap[ad.block]?) (hz : w.heap.size ≤ w'.heap.size) : Sl w' enc (some ad) xs := by
 intro hne
 obtain ⟨ad', e, h1, h2⟩ := h hne
 injection e with e
 subst e
 exact ⟨ad, rfl, Nat.lt_of_lt_of_le h1 hz, fun j u hu => (cell_same (by rw [block_of_add]; exact hb)).trans (h2 j u hu)⟩
set_option maxRecDepth 100000 in
theorem text50 (B b : Nat) {l : List UInt8} {F : List Nat} {w : World} (h : Bd B b l F w) (ad : Addr) (ps : List (List UInt8)) (hs : Sl w cS (some ad) (ps.map tx)) (hin : ad.block ∈ F) (hn : ps.length ≤ 20) (hl : l.length + ps.flatten.length ≤ 2000000) :
  Calls Tryz.prog 50 #[.slice (some ad) ps.length ps.length, .pointer (some ⟨b, 0, none⟩)] w fun e w' => e = .returned (.tuple #[]) ∧ Bd B b (l ++ ps.flatten) F w' ∧ Frm B F w w' := by
 have HX := Lib.hid (And.intro h (And.intro hs (And.intro hin (And.intro hn hl))))
 clear h hs hin hl
 have hni : (ps.length : Int) ≤ 20 := by omega
 go_enter Tryz.func50, Tryz.ntmps50
 go_wp2
 go_loopw [7] (fun i W => ∃ k : Nat, k ≤ ps.length ∧ i = .int .i64 (k : Int) ∧ Bd B b (l ++ (ps.take k).flatten) F W ∧ Frm B F w W) (fun i _ => ps.length - (intOf i).toNat)
 case atStart => exact ⟨0, Nat.zero_le _, rfl, by rw [List.take_zero, List.flatten_nil, List.append_nil]; exact HX.out.1, Frm.refl⟩
 case round =>
  obtain ⟨k, hk, rfl, hb, hf⟩ := hrel
  by_cases hlt : k < ps.length
  ·obtain ⟨ad2, he, hc⟩ := (HX.out.2.1.same (hf.keep _ HX.out.2.2.1) hf.bel.size).str (k := k) (by rw [List.length_map]; exact hlt)
   injection he with he
   subst he
   rw [List.getElem_map] at hc
   have H1 := Lib.hid (And.intro hb hf)
   have hz : (l ++ (ps.take k).flatten).length + (tx ps[k]).size ≤ 1000000000 := by
    have h1 := flat_le ps (k + 1)
    rw [flat_take hlt, List.length_append] at h1
    have := HX.out.2.2.2.2
    rw [List.length_append, tx_size]
    omega
   have HZ := Lib.hid hz
   clear hb hf hz
   obtain ⟨p, hp⟩ : ∃ p, ps[k] = p := ⟨_, rfl⟩
   have HT := Lib.hid (flat_take hlt)
   rw [hp] at hc HZ HT
   clear hp
   go_wp2_with (go_at_call 51; refine (H1.out.1.strX (tx p) HZ.out).mono ?_; rintro e w2 ⟨rfl, hb2, hf2⟩; have H2 := Lib.hid (And.intro hb2 (H1.out.2.trans hf2)); clear hb2 hf2)
   go_roundw
   case rel => exact ⟨k + 1, hlt, by rw [Int.natCast_add]; rfl, by rw [HT.out, ← List.append_assoc]; exact H2.out.1, H2.out.2⟩
   case measure => simp [intOf]; omega
  ·obtain rfl : k = ps.length := by omega
   rw [List.take_length] at hb
   have H1 := Lib.hid (And.intro hb hf)
   clear hb hf
   go_wp2
   go_end0
   exact ⟨rfl, H1.out.1, H1.out.2⟩
theorem accT (w : World) : AccS 50 w.heap.size w.heap.size (fun l F W => Bd w.heap.size w.heap.size l F W) where
 ent := fun args W => enters_of Tryz.func50 (by kernel_rfl) rfl args W
 le := fun h => by obtain ⟨q, v, h1, h2, h3, h4⟩ := h; exact h4
 call := fun h ad ps hs hin hn hl => text50 _ _ h ad ps hs hin hn hl
 turn := fun h ho => h.othT ho
 moreL := fun G h hb hG => h.more hb G hG
/-! the count -/
def Cnt (B b : Nat) (l : List UInt8) (F : List Nat) (w : World) : Prop := Row w b [.int .i64 (l.length : Int)] 3 ∧ (∀ k ∈ F, k < w.heap.size ∧ k ≠ b) ∧ B ≤ b ∧ B ≤ w.heap.size
theorem Cnt.othT {B b : Nat} {l : List UInt8} {F : List Nat} {w w' : World} (h : Cnt B b l F w) (ho : Oth F w w') : Cnt B b l F w' :=
 ⟨ho.same b _ h.1 rfl (fun hm => (h.2.1 b hm).2 rfl), fun k hk => ⟨Nat.lt_of_lt_of_le (h.2.1 k hk).1 ho.size, (h.2.1 k hk).2⟩, h.2.2.1, Nat.le_trans h.2.2.2 ho.size⟩
theorem Cnt.step {B b : Nat} {l : List UInt8} {F : List Nat} {w : World} (h : Cnt B b l F w) (m : List UInt8) : Cnt B b (l ++ m) F (w.setCell ⟨b, 0, none⟩ (.int .i64 ((l.length : Int) + (m.length : Int)))) ∧ Frm B F w (w.setCell ⟨b, 0, none⟩ (.int .i64 ((l.length : Int) + (m.length : Int)))) := by
 have hz : (w.setCell ⟨b, 0, none⟩ (.int .i64 ((l.length : Int) + (m.length : Int)))).heap.size = w.heap.size := by simp [World.setCell]
 refine ⟨⟨by rw [List.length_append, Int.natCast_add]; exact h.1.set 0 _, fun k hk => by rw [hz]; exact h.2.1 k hk, h.2.2.1, by rw [hz]; exact h.2.2.2⟩, (One.set 0 _).below h.2.2.1 h.2.2.2, fun k hk => heap_set_other w b 0 _ k (h.2.1 k hk).2, KeepsOthers.setCell _ _ _⟩
set_option maxRecDepth 100000 in
theorem size86 (B b : Nat) {l : List UInt8} {F : List Nat} {w : World} (h : Cnt B b l F w) (ad : Addr) (ps : List (List UInt8)) (hs : Sl w cS (some ad) (ps.map tx)) (hin : ad.block ∈ F) (hn : ps.length ≤ 20) (hl : l.length + ps.flatten.length ≤ 2000000) :
  Calls Tryz.prog 86 #[.slice (some ad) ps.length ps.length, .pointer (some ⟨b, 0, none⟩)] w fun e w' => e = .returned (.tuple #[]) ∧ Cnt B b (l ++ ps.flatten) F w' ∧ Frm B F w w' := by
 have HX := Lib.hid (And.intro h (And.intro hs (And.intro hin (And.intro hn hl))))
 clear h hs hin hl
 have hni : (ps.length : Int) ≤ 20 := by omega
 go_enter Tryz.func86, Tryz.ntmps86
 go_wp2
 go_loopw [7] (fun i W => ∃ k : Nat, k ≤ ps.length ∧ i = .int .i64 (k : Int) ∧ Cnt B b (l ++ (ps.take k).flatten) F W ∧ Frm B F w W) (fun i _ => ps.length - (intOf i).toNat)
 case atStart => exact ⟨0, Nat.zero_le _, rfl, by rw [List.take_zero, List.flatten_nil, List.append_nil]; exact HX.out.1, Frm.refl⟩
 case round =>
  obtain ⟨k, hk, rfl, hb, hf⟩ := hrel
  by_cases hlt : k < ps.length
  ·obtain ⟨ad2, he, hc⟩ := (HX.out.2.1.same (hf.keep _ HX.out.2.2.1) hf.bel.size).str (k := k) (by rw [List.length_map]; exact hlt)
   injection he with he
   subst he
   rw [List.getElem_map] at hc
   obtain ⟨p, hp⟩ : ∃ p, ps[k] = p := ⟨_, rfl⟩
   obtain ⟨q, hq⟩ : ∃ q, l ++ (ps.take k).flatten = q := ⟨_, rfl⟩
   have HT := Lib.hid (show l ++ (ps.take (k + 1)).flatten = q ++ p by rw [flat_take hlt, ← List.append_assoc, hp, hq])
   have hz : q.length + p.length ≤ 2000000 := by
    have h1 := flat_le ps (k + 1)
    have h2 := congrArg List.length HT.out
    rw [List.length_append, List.length_append] at h2
    have := HX.out.2.2.2.2
    omega
   rw [hp] at hc
   rw [hq] at hb
   have c1 : wr.cell? ⟨b, 0, none⟩ = some (.int .i64 (q.length : Int)) := hb.1.cell 0
   have f1 : wr.frozen? ⟨b, 0, none⟩ = false := hb.1.fz 0
   have hst := hb.step p
   have H1 := Lib.hid (And.intro hst.1 (hf.trans hst.2))
   have hpz : (tx p).size = p.length := tx_size p
   have hqi : (q.length : Int) + (p.length : Int) ≤ 2000000 := by omega
   clear hb hf hst hp hq hz
   go_wp2
   go_roundw
   case rel => exact ⟨k + 1, hlt, by rw [Int.natCast_add]; rfl, by rw [HT.out]; exact H1.out.1, H1.out.2⟩
   case measure => simp [intOf]; omega
  ·obtain rfl : k = ps.length := by omega
   rw [List.take_length] at hb
   have H1 := Lib.hid (And.intro hb hf)
   clear hb hf
   go_wp2
   go_end0
   exact ⟨rfl, H1.out.1, H1.out.2⟩
theorem accC (w : World) : AccS 86 w.heap.size w.heap.size (fun l F W => Cnt w.heap.size w.heap.size l F W) where
 ent := fun args W => enters_of Tryz.func86 (by kernel_rfl) rfl args W
 le := fun h => h.2.2.2
 call := fun h ad ps hs hin hn hl => size86 _ _ h ad ps hs hin hn hl
 turn := fun h ho => h.othT ho
 moreL := fun G h hb hG => ⟨h.1.keep hb, fun j hj => by
  rcases List.mem_append.1 hj with hj | hj
  ·exact ⟨(hG j hj).2, fun e => by have := h.1.lt; have := (hG j hj).1; omega⟩
  ·exact ⟨Nat.lt_of_lt_of_le (h.2.1 j hj).1 hb.size, (h.2.1 j hj).2⟩, h.2.2.1, Nat.le_trans h.2.2.2 hb.size⟩
open Go.RowKit
structure WrS (f b B : Nat) (A : List UInt8 → List Nat → World → Prop) (w : World) (S : Nat) (cs : List Value) (l : List UInt8) (F : List Nat) (W : World) : Prop where
 acc : A l F W
 dg : Row W S cs 39
 fn : Row W (S + 1) [.func (.func f) #[] #[.pointer (some ⟨b, 0, none⟩)]] 99
 in0 : S ∈ F
 in1 : S + 1 ∈ F
 bel : Below B w W
 sB : B ≤ S
 flt : ∀ k ∈ F, k < W.heap.size
section
variable {f b B : Nat} {A : List UInt8 → List Nat → World → Prop} {w : World} {S : Nat} {cs : List Value} {l : List UInt8} {F : List Nat} {W W' u : World}
theorem WrS.below (hA : AccS f b B A) (h : WrS f b B A w S cs l F W) (hb : Below W.heap.size W W') : WrS f b B A w S cs l F W' :=
 ⟨hA.turn h.acc (Oth.of_below hb), h.dg.keep hb, h.fn.keep hb, h.in0, h.in1, h.bel.trans (hb.mono (hA.le h.acc)), h.sB, fun k hk => Nat.lt_of_lt_of_le (h.flt k hk) hb.size⟩
theorem WrS.more (hA : AccS f b B A) (h : WrS f b B A w S cs l F W) (hb : Below W.heap.size W W') (k : Nat) (h1 : W.heap.size ≤ k) (h2 : k < W'.heap.size) : WrS f b B A w S cs l (k :: F) W' :=
 ⟨hA.more k h.acc hb h1 h2, h.dg.keep hb, h.fn.keep hb, List.mem_cons_of_mem _ h.in0, List.mem_cons_of_mem _ h.in1, h.bel.trans (hb.mono (hA.le h.acc)), h.sB, fun j hj => by rcases List.mem_cons.1 hj with rfl | hj; exact h2; exact Nat.lt_of_lt_of_le (h.flt j hj) hb.size⟩
theorem WrS.moreL (hA : AccS f b B A) (h : WrS f b B A w S cs l F W) (hb : Below W.heap.size W W') (G : List Nat) (hG : ∀ k ∈ G, W.heap.size ≤ k ∧ k < W'.heap.size) : WrS f b B A w S cs l (G ++ F) W' :=
 ⟨hA.moreL G h.acc hb hG, h.dg.keep hb, h.fn.keep hb, List.mem_append.2 (Or.inr h.in0), List.mem_append.2 (Or.inr h.in1), h.bel.trans (hb.mono (hA.le h.acc)), h.sB, fun j hj => by rcases List.mem_append.1 hj with hj | hj; exact (hG j hj).2; exact Nat.lt_of_lt_of_le (h.flt j hj) hb.size⟩
theorem WrS.called {l' : List UInt8} (h : WrS f b B A w S cs l F W) (ha : A l' F W') (hf : Frm B F W W') : WrS f b B A w S cs l' F W' :=
 ⟨ha, h.dg.same (hf.keep _ h.in0), h.fn.same (hf.keep _ h.in1), h.in0, h.in1, h.bel.trans hf.bel, h.sB, fun k hk => Nat.lt_of_lt_of_le (h.flt k hk) hf.bel.size⟩
theorem WrS.set (hA : AccS f b B A) (h : WrS f b B A w S cs l F W) (g : Nat) (v : Value) (hg : g ∈ F) (h1 : S + 1 < g) : WrS f b B A w S cs l F (W.setCell ⟨g, 0, none⟩ v) :=
 ⟨hA.turn h.acc (Oth.set g 0 v hg), h.dg.same (heap_set_other W g 0 v S (by omega)), h.fn.same (heap_set_other W g 0 v (S + 1) (by omega)), h.in0, h.in1, h.bel.trans ((One.set 0 v).below (by have := h.sB; omega) (hA.le h.acc)), h.sB, fun k hk => by have := h.flt k hk; simpa [World.setCell] using this⟩
theorem WrS.put (hA : AccS f b B A) (h : WrS f b B A w S cs l F W) (k : Nat) (o o' : Obj) (hk : W.heap[k]? = some o) (ho : o.isCells = false) (h1 : S + 1 < k) : WrS f b B A w S cs l F (W.putObj k o') := by
 have hB : Below B W (W.putObj k o') := ⟨rfl, rfl, rfl, by simp [World.putObj], fun j hj => World.putObj_heap_other (by have := h.sB; omega)⟩
 exact ⟨hA.turn h.acc (Oth.put k o o' hk ho), h.dg.same (World.putObj_heap_other (by omega)), h.fn.same (World.putObj_heap_other (by omega)), h.in0, h.in1, h.bel.trans hB, h.sB, fun k hk => by have := h.flt k hk; simpa [World.putObj] using this⟩
theorem WrS.out (hA : AccS f b B A) (h : WrS f b B A w S cs l F W) (hb : Below W.heap.size W u) (k : Nat) (h1 : W.heap.size ≤ k) (h2 : k < u.heap.size) (ps : List (List UInt8)) (m : Nat) (hm : ps.length = m) (hs : Sl u cS (some ⟨k, 0, none⟩) (ps.map tx)) (hn : m ≤ 20) (hl : l.length + ps.flatten.length ≤ 2000000) :
  Calls Tryz.prog f #[.slice (some ⟨k, 0, none⟩) m m, .pointer (some ⟨b, 0, none⟩)] u fun e w' => e = .returned (.tuple #[]) ∧ WrS f b B A w S cs (l ++ ps.flatten) (k :: F) w' ∧ Frm B (k :: F) u w' := by
 subst hm
 have h3 := h.more hA hb k h1 h2
 refine (hA.call h3.acc ⟨k, 0, none⟩ ps hs List.mem_cons_self hn hl).mono ?_
 rintro e w' ⟨rfl, h4, h5⟩
 exact ⟨rfl, h3.called h4 h5, h5⟩
end
theorem sl_newL (W : World) (xs : List ByteArray) : Sl (W.alloc (.cells (xs.flatMap cS).toArray 9)) cS (some ⟨W.heap.size, 0, none⟩) xs := fun _ => ⟨_, rfl, at_new W (xs.flatMap cS) 9 W.heap.size rfl⟩
theorem splitSeq83 (s : List UInt8) (w : World) : Calls Tryz.prog 83 #[.string (tx s), .string ⟨#[10]⟩] w fun e w' => e = .returned (.func (.func 162) #[] #[.pointer (some ⟨w.heap.size + 1, 0, none⟩), .pointer (some ⟨w.heap.size, 0, none⟩), .pointer (some ⟨w.heap.size + 2, 0, none⟩)]) ∧ Sp3 (w.heap.size + 1) w.heap.size (w.heap.size + 2) s w' ∧ Below w.heap.size w w' ∧ w'.heap.size = w.heap.size + 3 := by
 have hS : Calls Tryz.prog 124 #[.string (tx s), .string ⟨#[10]⟩, .int .i64 0] w fun e w' => e = .returned (.func (.func 162) #[] #[.pointer (some ⟨w.heap.size + 1, 0, none⟩), .pointer (some ⟨w.heap.size, 0, none⟩), .pointer (some ⟨w.heap.size + 2, 0, none⟩)]) ∧ w' = ((w.alloc (.cells #[.string (tx s)] 9)).alloc (.cells #[.string ⟨#[10]⟩] 9)).alloc (.cells #[.int .i64 0] 3) := by
  go_enter Tryz.func124, Tryz.ntmps124
  go_wp2
  go_ret
  exact ⟨rfl, rfl⟩
 have HS := Lib.hid hS
 clear hS
 go_enter Tryz.func83, Tryz.ntmps83
 go_wp2_with (go_at_call 124; refine HS.out.mono ?_; rintro e w2 ⟨rfl, rfl⟩)
 go_ret
 have R1 := Row.new w [.string (tx s)] 9
 have R2 := Row.new (w.alloc (.cells #[.string (tx s)] 9)) [.string ⟨#[10]⟩] 9
 have R3 := Row.new ((w.alloc (.cells #[.string (tx s)] 9)).alloc (.cells #[.string ⟨#[10]⟩] 9)) [.int .i64 0] 3
 simp only [World.size_alloc] at R2 R3
 refine ⟨rfl, ⟨R2.keep (below_alloc _ _), (R1.keep (below_alloc _ _)).keep (below_alloc _ _), R3⟩, Below.step (Below.step (below_alloc _ _) (below_alloc _ _)) (below_alloc _ _), ?_⟩
 simp only [World.size_alloc]
def mkD (D : Nat) : Deferred := { target := .collected D, args := #[] }
theorem leaves_marks {n : Nat} {fn : Func} {tmps : Array Value} {R : Ending → World → Prop} (hfn : fn.results = #[]) : ∀ (Ds : List Nat) (W : World), Ds.Nodup → (∀ D ∈ Ds, W.heap[D]? = some (.deferred (some []))) →
  (∀ W', W'.os = W.os → W'.tape = W.tape → W'.output = W.output → W'.heap.size = W.heap.size → (∀ k, k ∉ Ds → W'.heap[k]? = W.heap[k]?) → R (.returned (.tuple #[])) W') → LeavesInM Fence.wide n Tryz.prog fn tmps R (Ds.map mkD) .returning W
 | [], W, _, _, h => ⟨_, results_none hfn _ _ _, h W rfl rfl rfl rfl (fun _ _ => rfl)⟩
 | D :: Ds, W, hn, hD, h => by
  refine ⟨by simp, .inl ⟨D, _, rfl, run_takeDeferred (hD D List.mem_cons_self), ?_⟩⟩
  have hn2 := List.nodup_cons.1 hn
  refine leaves_marks hfn Ds _ hn2.2 (fun E hE => (World.putObj_heap_other (fun (e : E = D) => hn2.1 (e ▸ hE))).trans (hD E (List.mem_cons_of_mem _ hE))) fun W' h1 h2 h3 h4 h5 => ?_
  refine h W' h1 h2 h3 (h4.trans (by simp [World.putObj])) fun k hk => ?_
  rw [List.mem_cons, not_or] at hk
  exact (h5 k hk.2).trans (World.putObj_heap_other hk.1)
theorem arr_of (t : Array Value) (n : Nat) (h : t.size = n) : t = ((List.range n).map fun i => t[i]?.getD undef).toArray := by
 subst h
 apply Array.ext
 ·simp
 ·intro i h1 h2
  simp [h1]
end Go.Proofs.YtibelollgdnidaaGreatDoor
