/- slices.DeleteFunc by an identity; take.without. -/
import Derived.Test.YtgojaelkdpabkaaGreatDoorFnd
namespace Go.Proofs.YtgojaelkdpabkaaGreatDoor
open Go.RowKit
theorem Own.slOf {α : Type} {w : World} {base : Nat} {e : TypeId} {s : Nat} {enc : α → List Value} {A : Option Addr} {n c : Nat} {xs : List α} (h : Own w base e s enc (.slice A n c) xs) : Sl w enc A xs := by
  obtain ⟨A', c', he, _, h2⟩ := Own.sl h
  rw [(Value.slice.inj he).1]
  exact h2
def noId (x : Id) (p : Pt) : Bool := !decide (p.id = x)
def withoutL (l : List Pt) (x : Id) : List Pt := l.filter (noId x)
theorem without_none {l : List Pt} {x : Id} (h : posL l x = none) : withoutL l x = l := by
  unfold withoutL
  rw [List.filter_eq_self]
  intro p hp
  simpa [noId] using pos_none' h p hp
theorem without_len (l : List Pt) (x : Id) : (withoutL l x).length ≤ l.length := List.length_filter_le _ _
theorem filter_take_succ (l : List Pt) (P : Pt → Bool) (j : Nat) (h : j < l.length) : (l.take (j + 1)).filter P = (l.take j).filter P ++ (if P l[j] then [l[j]] else []) := by
  rw [List.take_succ_eq_append_getElem h, List.filter_append]
  congr 1
  by_cases hp : P l[j] = true
  · simp [hp]
  · simp [hp]
theorem take_of_pos {l : List Pt} {x : Id} {k : Nat} (h : posL l x = some k) : (l.take (k + 1)).filter (noId x) = l.take k := by
  obtain ⟨hk, hx, hp⟩ := pos_some h
  rw [filter_take_succ l _ k hk, if_neg (by simp [noId, hx]), List.append_nil, List.filter_eq_self]
  intro p hp'
  obtain ⟨j, hj, rfl⟩ := List.getElem_of_mem hp'
  rw [List.length_take] at hj
  rw [List.getElem_take]
  simpa [noId] using hp j (by omega)
theorem part_store {w : World} {base : Nat} {n g0 c0 : Nat} {ys : List Pt} (h : Own w base 86 35 cA (.slice (some ⟨g0, 0, none⟩) n c0) ys) (i : Nat) (hi : i < ys.length) (p : Pt) :
    ∃ W, (stA 86 (.pointer (some ⟨g0, i * 35, none⟩)) (vA p)).run Tryz.prog w = .ok () W ∧ Own W base 86 35 cA (.slice (some ⟨g0, 0, none⟩) n c0) (ys.set i p) ∧ One g0 w W := by
  obtain ⟨g', c', e', _, _, h1, h2, h3⟩ := Own.store h cA_length i hi p
  cases e'
  exact ⟨_, run_stA_off w 86 g0 (i * 35) (cA p) 35 h1 sizePA (cA_length p) (cA_one p), h2, h3⟩
/-- Where DeleteFunc stands: i parts kept, j seen. -/
structure DelI (base g0 : Nat) (v : Value) (l : List Pt) (x : Id) (g : Nat) (w : World) (i j : Nat) (ys : List Pt) (wr : World) : Prop where
  len : ys.length = l.length
  own : Own wr base 86 35 cA v ys
  lt : i < j
  le : j ≤ l.length
  head : ys.take i = (l.take j).filter (noId x)
  rest : ys.drop j = l.drop j
  one : One g0 w wr
  row : Row wr g (cI x) 30
theorem DelI.get {base g0 : Nat} {v : Value} {l : List Pt} {x : Id} {g : Nat} {w : World} {i j : Nat} {ys : List Pt} {wr : World} (h : DelI base g0 v l x g w i j ys wr) (hj : j < l.length) : ys[j]'(by rw [h.len]; exact hj) = l[j] := by
  have := congrArg List.head? h.rest
  rw [List.head?_drop, List.head?_drop, List.getElem?_eq_getElem (by rw [h.len]; exact hj), List.getElem?_eq_getElem hj] at this
  exact Option.some.inj this
theorem DelI.skip {base g0 : Nat} {v : Value} {l : List Pt} {x : Id} {g : Nat} {w : World} {i j : Nat} {ys : List Pt} {wr w2 : World} (h : DelI base g0 v l x g w i j ys wr) (hj : j < l.length) (hx : noId x l[j] = false) (hb : Below wr.heap.size wr w2) : DelI base g0 v l x g w i (j + 1) ys w2 :=
  ⟨h.len, h.own.keep hb, by have := h.lt; omega, hj, by rw [filter_take_succ l _ j hj, hx, h.head]; simp, by rw [← List.drop_drop, h.rest, List.drop_drop], h.one.trans (One.of_below hb), h.row.keep hb⟩
theorem DelI.put {base g0 : Nat} {v : Value} {l : List Pt} {x : Id} {g : Nat} {w : World} {i j : Nat} {ys : List Pt} {wr w2 w3 : World} (h : DelI base g0 v l x g w i j ys wr) (hj : j < l.length) (hx : noId x l[j] = true) (hb : Below wr.heap.size wr w2) (ho : Own w3 base 86 35 cA v (ys.set i l[j])) (h1 : One g0 w2 w3) (hg : g ≠ g0) : DelI base g0 v l x g w (i + 1) (j + 1) (ys.set i l[j]) w3 := by
  have hi : i < ys.length := by rw [h.len]; have := h.lt; omega
  refine ⟨by rw [List.length_set, h.len], ho, by have := h.lt; omega, hj, ?_, ?_, (h.one.trans (One.of_below hb)).trans h1, h1.row (h.row.keep hb) hg⟩
  · rw [filter_take_succ l _ j hj, hx, ← h.head, List.take_succ_eq_append_getElem (by rw [List.length_set]; exact hi), List.getElem_set_self, List.take_set_of_le (Nat.le_refl i)]
    simp
  · rw [List.drop_set_of_lt (by have := h.lt; omega), ← List.drop_drop, h.rest, List.drop_drop]
set_option maxRecDepth 100000 in
set_option maxHeartbeats 3200000 in
theorem deleteFunc66 (base : Nat) (v : Value) (l : List Pt) (F g : Nat) (x : Id) (w : World) (hO : Own w base 86 35 cA v l) (hn : l.length ≤ 1000000) (hF : IdFn F g x w) (hg : v.ownBlock ≠ some g) :
    Calls Tryz.prog 66 #[v, .func (.func F) #[] #[.pointer (some ⟨g, 0, none⟩)]] w fun e w' => ∃ v', e = .returned v' ∧ Own w' base 86 35 cA v' (withoutL l x) ∧ w.grownBy w' v.ownBlock ∧ v'.ownBlock = v.ownBlock := by
  obtain ⟨A0, c0, rfl, hc0, hs0⟩ := Own.sl hO
  have HO := Lib.hid hO
  have HF := Lib.hid hF
  cases hpos : posL l x with
  | none =>
    have hi := idx_none hpos
    have HW := Lib.hid (without_none hpos)
    clear hO hF hg hpos
    go_enter Tryz.func66, Tryz.ntmps66
    go_wp2_with (go_at_call 64; refine (index64 A0 c0 l F g x w hs0 hn HF.out).mono ?_; rw [hi]; rintro e w2 ⟨rfl, hb2⟩; have H2 := Lib.hid hb2; clear hb2)
    go_ret
    exact ⟨_, rfl, by rw [HW.out]; exact HO.out.keep H2.out, ⟨H2.out.os, H2.out.tape, H2.out.output, H2.out.size, fun k hk _ => H2.out.block k hk⟩, rfl⟩
  | some k =>
    have hi := idx_some hpos
    obtain ⟨hk, hxk, _⟩ := pos_some hpos
    have HT := Lib.hid (take_of_pos hpos)
    rcases hO.rowOf with ⟨_, rfl⟩ | ⟨g0, c, cs, he, hb0, hr0, hc, _⟩
    · simp at hk
    cases he
    have hk1 : ((k : Int) == -1) = false := beq_eq_false_iff_ne.2 (by omega)
    have hgg : g ≠ g0 := fun e => hg (by rw [e]; rfl)
    clear hO hF hg hpos hxk hr0
    go_enter Tryz.func66, Tryz.ntmps66
    go_wp2_with (go_at_call 64; refine (index64 (some ⟨g0, 0, none⟩) c0 l F g x w hs0 hn HF.out).mono ?_; rw [hi]; rintro e w2 ⟨rfl, hb2⟩; have H2 := Lib.hid hb2; clear hb2)
    go_loopw [5, 6] (fun iv jv wr => ∃ (i j : Nat) (ys : List Pt), iv = .int .i64 i ∧ jv = .int .i64 j ∧ DelI base g0 (.slice (some ⟨g0, 0, none⟩) l.length c0) l x g w i j ys wr) (fun _ jv _ => l.length + 1 - (intOf jv).toNat)
    case atStart => exact ⟨k, k + 1, l, rfl, by go_num, rfl, HO.out.keep H2.out, Nat.lt_succ_self _, hk, HT.out.symm, rfl, One.of_below H2.out, HF.out.row.keep H2.out⟩
    case round =>
      obtain ⟨i, j, ys, rfl, rfl, hD⟩ := hrel
      by_cases hlt : j < l.length
      · have hlt1 : (j : Int) < (l.length : Int) := by omega
        have hsl := Own.slOf hD.own
        obtain ⟨ad, hae, ok1, rd1, -⟩ := Sl.pt hsl (show j < ys.length by rw [hD.len]; exact hlt)
        cases hae
        rw [add_off, Nat.zero_add] at ok1 rd1
        rw [hD.get hlt] at rd1
        obtain ⟨p, hpp⟩ : ∃ p, l[j] = p := ⟨_, rfl⟩
        rw [hpp] at rd1
        have HP := Lib.hid hpp
        have HD := Lib.hid hD
        have HE := HF.out.enter
        have hi1 : (i : Int) < (l.length : Int) := by have := hD.lt; omega
        obtain ⟨W3, hW3⟩ : ∃ W3, wr.alloc (.cells (aA p) 86) = W3 := ⟨_, rfl⟩
        obtain ⟨g3, hg3⟩ : ∃ g3, wr.heap.size = g3 := ⟨_, rfl⟩
        have H3 := Lib.hid (And.intro (show Row W3 g3 (cA p) 86 by rw [← hW3, ← hg3]; exact Row.new wr (cA p) _) (show Below wr.heap.size wr W3 by rw [← hW3]; exact below_alloc _ _))
        have r3 := (Row.okw H3.out.1 (cA_length p)).1
        have r4 : rdA W3 ⟨g3, 0, none⟩ 35 = vA p := (Row.okw H3.out.1 (cA_length p)).2
        clear hD hsl hpp
        by_cases hx : p.id = x
        · have hd : decide (p.id = x) = true := decide_eq_true hx
          have HN := Lib.hid (show noId x l[j] = false by rw [HP.out]; unfold noId; rw [hd]; rfl)
          clear hx
          go_wp2_with (refine (HF.out.call p W3 (HD.out.row.keep H3.out.2)).mono ?_; rintro e w2 ⟨rfl, hb2⟩; have H2b := Lib.hid (Below.step H3.out.2 hb2); clear hb2)
          go_roundw
          case rel => exact ⟨i, j + 1, ys, by go_num, by go_num, HD.out.skip hlt HN.out H2b.out⟩
          case measure => simp [intOf] <;> omega
        · have hd : decide (p.id = x) = false := decide_eq_false hx
          have HN := Lib.hid (show noId x l[j] = true by rw [HP.out]; unfold noId; rw [hd]; rfl)
          clear hx
          go_wp2_with (refine (HF.out.call p W3 (HD.out.row.keep H3.out.2)).mono ?_; rintro e w2 ⟨rfl, hb2⟩; have H2b := Lib.hid (And.intro (H3.out.1.keep hb2) (Below.step H3.out.2 hb2)); clear hb2 r3 r4; have r3 := (Row.okw H2b.out.1 (cA_length p)).1; have r4 := (show rdA w2 ⟨g3, 0, none⟩ 35 = vA p from (Row.okw H2b.out.1 (cA_length p)).2); obtain ⟨W5, st5, hO5, h15⟩ := part_store (HD.out.own.keep H2b.out.2) i (by rw [HD.out.len]; have := HD.out.lt; omega) p; have H5 := Lib.hid (And.intro hO5 h15); clear hO5 h15)
          go_roundw
          case rel => exact ⟨i + 1, j + 1, ys.set i p, by go_num, by go_num, by rw [← HP.out]; exact HD.out.put hlt HN.out H2b.out.2 (by rw [HP.out]; exact H5.out.1) H5.out.2 hgg⟩
          case measure => simp [intOf] <;> omega
      · have hlt1 : ¬ (j : Int) < (l.length : Int) := by omega
        obtain rfl : j = l.length := by have := hD.le; omega
        have hil := hD.lt
        have HD := Lib.hid hD
        clear hD
        have hyl : ys.length = l.length := HD.out.len
        have htl : (ys.take i).length = i := by rw [List.length_take]; omega
        have hcut := Own.cut HD.out.own cA_length rfl i (by omega)
        rcases HD.out.own.rowOf with ⟨he, _⟩ | ⟨g2, c2, cs2, he, _, hr2, hc2, _, hl2, _⟩
        · cases he
        have he2 := Value.slice.inj he
        obtain rfl : g2 = g0 := by have := he2.1; simp at this; exact this.symm
        obtain rfl : c2 = c0 := he2.2.2.symm
        obtain ⟨ds, hdl, hcl⟩ := clear_parts (o := i * 35) (n := l.length - i) (c := c2 - i) hr2 (by omega)
        have hO6 := Own.behind hcut cA_length rfl (i * 35) (by rw [htl]; exact Nat.le_refl _) ds (by omega)
        have HX := Lib.hid (And.intro hO6 (One.stD (g := g2) (w := wr) (i * 35) ds))
        clear hO6 hcut he he2 hr2
        go_wp2
        go_ret
        refine ⟨_, rfl, ?_, ⟨HX.out.2.os.trans HD.out.one.os, HX.out.2.tape.trans HD.out.one.tape, HX.out.2.output.trans HD.out.one.output, (HD.out.one.trans HX.out.2).size, fun k2 hk2 hne => (HD.out.one.trans HX.out.2).out k2 hk2 (fun e => hne (by rw [e]; rfl))⟩, rfl⟩
        have hw : withoutL l x = ys.take i := by rw [HD.out.head, List.take_length]; rfl
        rw [hw]
        exact HX.out.1
set_option maxRecDepth 100000 in
theorem without42 (base : Nat) (v : Value) (l : List Pt) (x : Id) (w : World) (hO : Own w base 86 35 cA v l) (hn : l.length ≤ 1000000) :
    Calls Tryz.prog 42 #[v, vI x] w fun e w' => ∃ v', e = .returned v' ∧ Own w' base 86 35 cA v' (withoutL l x) ∧ w.grownBy w' v.ownBlock ∧ v'.ownBlock = v.ownBlock := by
  obtain ⟨b, hb⟩ : ∃ b, w.heap.size = b := ⟨_, rfl⟩
  have H1 := Lib.hid (And.intro (show Row (w.alloc (.cells (aI x) 30)) b (cI x) 30 by rw [← hb]; exact Row.new w (cI x) _) (And.intro (hO.keep (below_alloc w (.cells (aI x) 30))) (below_alloc w (.cells (aI x) 30))))
  have hne : v.ownBlock ≠ some b := fun e => by have := (Own.lt hO b e).2; omega
  obtain ⟨A0, c0, rfl, hc0, _⟩ := Own.sl hO
  clear hO
  go_enter Tryz.func42, Tryz.ntmps42
  go_wp2_with (go_at_call 66; refine (deleteFunc66 base _ l _ b x _ H1.out.2.1 hn (idFn67 H1.out.1) hne).mono ?_; rintro e w2 ⟨v', rfl, h2⟩; have H2 := Lib.hid h2; clear h2)
  go_ret
  exact ⟨_, rfl, H2.out.1, ⟨H2.out.2.1.os.trans H1.out.2.2.os, H2.out.2.1.tape.trans H1.out.2.2.tape, H2.out.2.1.output.trans H1.out.2.2.output, Nat.le_trans H1.out.2.2.size H2.out.2.1.size, fun k hk hne => (H2.out.2.1.block k (Nat.lt_of_lt_of_le hk H1.out.2.2.size) hne).trans (H1.out.2.2.block k hk)⟩, H2.out.2.2⟩
end Go.Proofs.YtgojaelkdpabkaaGreatDoor
